/-
  The proof of DataHashes, part 3.
-/
import Derived.Test.YtodnjibebeghjaaDoorHB
import Derived.StillTail
import Derived.WalkKit
import Derived.ProofKit
import Derived.OpenShut
import Derived.ShutString
import Derived.ChangeOld
import Derived.Below
import Derived.Deep.Slices
import Derived.ChangeSame
import Derived.WideKeyArgs
import Derived.Carry
import Derived.Test.YtodnjibebeghjaaDoorRows
set_option linter.unusedSimpArgs false
set_option linter.unusedVariables false
namespace Go.Proofs.YtodnjibebeghjaaDoor.Pv
section
section
variable {R R':Type} {Rel:Option R->Option R'->Prop}
theorem Gs (hn:Rel none none){k:IntKind}{p:PV}{K:Int->Option R}{K':Int->Option R'}(hK:∀n,Rel (K n) (K' n)):Rel (Ak k p K) (Ak k p K'):=by
 unfold Ak;split
 ·split<;>first|exact hK _|exact hn
 ·exact hn
theorem Dm (hn:Rel none none){p:PV}{K:IntKind->Int->Option R}{K':IntKind->Int->Option R'}(hK:∀k n,Rel (K k n) (K' k n)):Rel (C8 p K) (C8 p K'):=by
 unfold C8;split<;>first|exact hK _ _|exact hn
theorem Fm (hn:Rel none none){p:PV}{K:Bool->Option R}{K':Bool->Option R'}(hK:∀n,Rel (K n) (K' n)):Rel (Aq p K) (Aq p K'):=by
 unfold Aq;split<;>first|exact hK _|exact hn
theorem Et (hn:Rel none none){p:PV}{K:ByteArray->Option R}{K':ByteArray->Option R'}(hK:∀n,Rel (K n) (K' n)):Rel (Az p K) (Az p K'):=by
 unfold Az;split<;>first|exact hK _|exact hn
theorem Eu (hn:Rel none none){es:Nat}{p:PV}{K:Bool->Nat->List PV->Option R}{K':Bool->Nat->List PV->Option R'}(hK:∀z n c,Rel (K z n c) (K' z n c)):Rel (R8 es p K) (R8 es p K'):=by
 unfold R8;split
 ·rename_i es' _ _;cases Nat.beq es' es
  ·exact hn
  ·exact hK _ _ _
 ·exact hK _ _ _
 ·exact hn
theorem Agn (hn:Rel none none){es:Nat}{p:PV}{K:PV->Option R}{K':PV->Option R'}(hK:∀p,Rel (K p) (K' p)):Rel (fsK es p K) (fsK es p K'):=by
 unfold fsK;split
 ·rename_i es' _ _;cases Nat.beq es' es
  ·exact hn
  ·exact hK _
 ·exact Eu hn fun _ _ _=>hK _
theorem SV (hn:Rel none none){es:Nat}{p:PV}{K:Nat->List PV->Option R}{K':Nat->List PV->Option R'}(hK:∀n c,Rel (K n c) (K' n c)):Rel (OC es p K) (OC es p K'):=by
 unfold OC;split
 ·rename_i es' _ _;cases Nat.beq es' es
  ·exact hn
  ·exact hK _ _
 ·exact hn
theorem Av (hn:Rel none none){b:Bool}{K:Option R}{K':Option R'}(hK:b=true->Rel K K'):Rel (Bi b K) (Bi b K'):=by
 cases b
 ·exact hn
 ·exact hK rfl
theorem Xv {b:Bool}{x y:Option R}{x' y':Option R'}(hx:Rel x x')(hy:Rel y y'):Rel (Bh b x y) (Bh b x' y'):=by
 cases b
 ·exact hy
 ·exact hx
theorem Cs (hn:Rel none none){α:Type}{o:Option α}{K:α->Option R}{K':α->Option R'}(hK:∀a,o=some a->Rel (K a) (K' a)):Rel (Dk o K) (Dk o K'):=by
 cases o
 ·exact hn
 ·exact hK _ rfl
theorem Be (hn:Rel none none){α:Type}{l:List α}{K:α->List α->Option R}{K':α->List α->Option R'}(hK:∀a r,l=a::r->Rel (K a r) (K' a r)):Rel (Aa l K) (Aa l K'):=by
 cases l
 ·exact hn
 ·exact hK _ _ rfl
theorem Ef (hn:Rel none none){α:Type}{l:List α}{K:Option R}{K':Option R'}(hK:Rel K K'):Rel (Ad l K) (Ad l K'):=by
 cases l
 ·exact hK
 ·exact hn
theorem Hk (hn:Rel none none){p:PV}{K:List PV->Option R}{K':List PV->Option R'}(hK:∀c,p=.agg c->Rel (K c) (K' c)):Rel (Fo p K) (Fo p K'):=by
 unfold Fo;split
 ·exact hK _ rfl
 ·exact hn
theorem XB (hn:Rel none none){p:PV}{K:List PV->Option R}{K':List PV->Option R'}(hK:∀c,Rel (K c) (K' c)):Rel (Sy p K) (Sy p K'):=by
 unfold Sy;split
 ·exact hK _
 ·exact hn
theorem EN (hn:Rel none none){r:Option Ay}{K:List PV->List (List PV)->Option R} {K':List PV->List (List PV)->Option R'} (hK:∀v o,Rel (K v o) (K' v o)):Rel (Ah r K) (Ah r K'):=by
 unfold Ah;split
 ·exact hK _ _
 ·exact hn
theorem SR (hn:Rel none none){p:PV}{K:Value->Option R}{K':Value->Option R'}(hK:∀v,Rel (K v) (K' v)):Rel (WV p K) (WV p K'):=by
 unfold WV;split
 ·exact hK _
 ·exact hK _
 ·exact hn
theorem Aed (hn:Rel none none){p:PV}{K:FuncId->Option R}{K':FuncId->Option R'}(hK:∀v,Rel (K v) (K' v)):Rel (fvK p K) (fvK p K'):=by
 unfold fvK;split
 ·rename_i f a b;cases (a.isEmpty&&b.isEmpty)
  ·exact hn
  ·exact hK _
 ·exact hn
theorem Lf (hn:Rel none none){t:CT}{p:PV}{K:PV->Option R}{K':PV->Option R'}(hK:∀p,Rel (K p) (K' p)):Rel (Uh t p K) (Uh t p K'):=by
 unfold Uh;split
 ·exact Gs hn fun _=>hK _
 ·exact Fm hn fun _=>hK _
 ·exact Et hn fun _=>hK _
 ·exact Eu hn fun _ _ _=>hK _
 ·exact SR hn fun _=>hK _
theorem Afs (hn:Rel none none){t:CT}{p:PV}{K:PV->Option R}{K':PV->Option R'}(hK:∀p,Rel (K p) (K' p)):Rel (fcK t p K) (fcK t p K'):=by
 unfold fcK;split
 ·exact Agn hn hK
 ·exact Lf hn hK
theorem L8 (hn:Rel none none):∀{ts:List CT}{cells:List PV}{off:Nat}{K:List PV->Option R}{K':List PV->Option R'},(∀c,Rel (K c) (K' c))->Rel (Ob ts cells off K) (Ob ts cells off K')
 |[],_,_,_,_,hK=>hK _
 |_::_,_,_,_,_,hK=>Lf hn fun _=>L8 hn fun _=>hK _
theorem K0 (hn:Rel none none):∀{ts:List CT}{cells:List PV}{off:Nat}{K:List PV->Option R}{K':List PV->Option R'},(∀c,Rel (K c) (K' c))->Rel (K7 ts cells off K) (K7 ts cells off K')
 |[],_,_,_,_,hK=>hK _
 |_::_,_,_,_,_,hK=>Afs hn fun _=>K0 hn fun _=>hK _
theorem Sk (hn:Rel none none){g:Bool}{cells:List PV}{K:PV->Option R}{K':PV->Option R'}(hK:∀p,Rel (K p) (K' p)):Rel (SW g cells K) (SW g cells K'):=by
 cases g
 ·exact Be hn fun _ _ _=>Ef hn (hK _)
 ·exact hK _
theorem RX (hn:Rel none none){P:Program}{t:TypeId}{v:Value}{K:PV->Option R}{K':PV->Option R'}(hK:∀p,Bo p=[]->Rel (K p) (K' p)) (hK':∀c,Rel (K (.agg c)) (K' (.agg c))):Rel (cvK P t v K) (cvK P t v K'):=by
 unfold cvK;split
 ·exact Av hn fun _=>L8 hn fun _=>hK' _
 ·split
  ·exact hK _ rfl
  ·exact hn
 ·exact hK _ rfl
theorem Acn (hn:Rel none none){op:BinOp}{x y:Int}{K:Bool->Option R}{K':Bool->Option R'}(hK:∀n,Rel (K n) (K' n)):Rel (Ae5 op x y K) (Ae5 op x y K'):=by
 unfold Ae5;split<;>first|exact hK _|exact hn
theorem PJ (hn:Rel none none){op:BinOp}{k:IntKind}{x y:Int}{K:PV->Option R}{K':PV->Option R'}(hK:∀n,Rel (K n) (K' n)):Rel (Y0 op k x y K) (Y0 op k x y K'):=by
 unfold Y0;split<;>first|exact hK _|exact Av hn fun _=>hK _|exact Acn hn fun _=>hK _
theorem QF (hn:Rel none none){op:BinOp}{x y:ByteArray}{K:PV->Option R}{K':PV->Option R'}(hK:∀n,Rel (K n) (K' n)):Rel (Xz op x y K) (Xz op x y K'):=by
 unfold Xz;split<;>first|exact hK _|exact Av hn fun _=>hK _|exact hn
theorem EC (hn:Rel none none){e:Bool}{p:PV}{K:PV->Option R}{K':PV->Option R'}(hK:∀n,Rel (K n) (K' n)):Rel (Zn e p K) (Zn e p K'):=by
 unfold Zn;split<;>first|exact hK _|exact Xv (hK _) (Xv (hK _) (hK _))|exact Xv (hK _) (hK _)|exact hn
theorem ND (hn:Rel none none):∀{ts:List CT}{ps qs:List PV}{K:Bool->Option R}{K':Bool->Option R'},(∀b,Rel (K b) (K' b))->Rel (Ir ts ps qs K) (Ir ts ps qs K'):=by
 intro ts
 induction ts with
 |nil=>
  intro ps qs K K' hK;cases ps<;>cases qs<;>first|exact hK _|exact hn
 |cons t ts ih=>
  intro ps qs K K' hK;cases ps with
  |nil=>cases t<;>cases qs<;>exact hn
  |cons p ps=>
   cases qs with
   |nil=>cases t<;>exact hn
   |cons q qs=>
    cases t
    ·exact Gs hn fun _=>Gs hn fun _=>ih fun _=>hK _
    ·exact Fm hn fun _=>Fm hn fun _=>ih fun _=>hK _
    ·exact Et hn fun _=>Et hn fun _=>ih fun _=>hK _
    ·exact hn
    ·exact hn
theorem ZE (hn:Rel none none){P:Program}{op:BinOp}{t:TypeId}{x y:PV}{K:PV->Option R}{K':PV->Option R'}(hK:∀p,Rel (K p) (K' p)):Rel (YR P op t x y K) (YR P op t x y K'):=by
 unfold YR;split
 ·split
  ·exact Gs hn fun _=>Dm hn fun _ _=>Av hn fun _=>hK _
  ·exact Gs hn fun _=>Dm hn fun _ _=>Av hn fun _=>hK _
  ·exact Gs hn fun _=>Gs hn fun _=>PJ hn hK
 ·exact Et hn fun _=>Et hn fun _=>QF hn hK
 ·split
  ·exact Fm hn fun _=>Fm hn fun _=>hK _
  ·exact Fm hn fun _=>Fm hn fun _=>hK _
  ·exact hn
 ·split
  ·exact EC hn fun _=>hK _
  ·exact EC hn fun _=>hK _
  ·exact hn
 ·split
  ·exact hK _
  ·exact hK _
  ·exact hn
 ·exact hn
theorem LP (hn:Rel none none){P:Program}{op:BinOp}{t:TypeId}{x y:PV}{K:PV->Option R}{K':PV->Option R'}(hK:∀p,Rel (K p) (K' p)):Rel (P3 P op t x y K) (P3 P op t x y K'):=by
 unfold P3;split
 ·split
  ·exact Av hn fun _=>Hk hn fun _ _=>Hk hn fun _ _=>ND hn fun _=>hK _
  ·exact Av hn fun _=>Hk hn fun _ _=>Hk hn fun _ _=>ND hn fun _=>hK _
  ·exact hn
 ·exact ZE hn hK
theorem Aew (hn:Rel none none){op:UnOp}{x:PV}{K:PV->Option R}{K':PV->Option R'}(hK:∀p,Rel (K p) (K' p)):Rel (unK op x K) (unK op x K'):=by
 unfold unK;split<;>first|exact Fm hn fun _=>hK _|exact Dm hn fun _ _=>hK _|exact hn
theorem Dj (hn:Rel none none){p:Option PV}{d:Nat}{K:Nat->Option R}{K':Nat->Option R'}(hK:∀n,Rel (K n) (K' n)):Rel (Fp p d K) (Fp p d K'):=by
 unfold Fp;split
 ·exact hK _
 ·exact Dm hn fun _ _=>Av hn fun _=>hK _
theorem Uv (hn:Rel none none){x:PV}{d:Nat}{K:PV->Option R}{K':PV->Option R'}(hK:∀n,Rel (K n) (K' n)):Rel (Pw x d K) (Pw x d K'):=by
 unfold Pw;split<;>first|exact hK _|exact hn
theorem Y2 (hn:Rel none none){P:Program}{t:TypeId}{x:PV}{i:Int}{K:PV->Option R}{K':PV->Option R'}(hK:∀p,Rel (K p) (K' p)):Rel (H9 P t x i K) (H9 P t x i K'):=by
 unfold H9;split
 ·exact Av hn fun _=>Av hn fun _=>Uv hn hK
 ·refine Av hn fun _=>?_
  split
  ·exact Av hn fun _=>Av hn fun _=>hK _
  ·exact Eu hn fun _ _ _=>Av hn fun _=>hK _
 ·exact hn
theorem Ul (hn:Rel none none){Fy:Nat->Option (Nat × Nat)}:∀{ps:List (Nat × PV)} {cells:List PV}{K:List PV->Option R}{K':List PV->Option R'},(∀c,Rel (K c) (K' c))->Rel (Pc Fy ps cells K) (Pc Fy ps cells K')
 |[],_,_,_,hK=>hK _
 |(_,_)::_,_,_,_,hK=>Cs hn fun _ _=>Av hn fun _=>Ul hn hK
theorem Ou (hn:Rel none none){P:Program}{t:TypeId}{K:List PV->Option R}{K':List PV->Option R'}(hK:∀p,Rel (K p) (K' p)):Rel (Fw P t K) (Fw P t K'):=
 Cs hn fun _ _=>Av hn fun _=>L8 hn hK
theorem Aaq (hn:Rel none none){x y:PV}{K:PV->Option R}{K':PV->Option R'}(hK:∀p,Rel (K p) (K' p)):Rel (Aec x y K) (Aec x y K'):=
 Dm hn fun _ _=>Gs hn fun _=>hK _
theorem Aa0 (hn:Rel none none){x y:PV}{K:PV->Option R}{K':PV->Option R'}(hK:∀p,Rel (K p) (K' p)):Rel (Aev x y K) (Aev x y K'):=
 Dm hn fun _ _=>Gs hn fun _=>hK _
theorem Acf (hn:Rel none none){P:Program}{t:TypeId}{x:PV}{K:Nat->Option R}{K':Nat->Option R'}(hK:∀p,Rel (K p) (K' p)):Rel (WA P t x K) (WA P t x K'):=by
 unfold WA;split
 ·exact Et hn fun _=>hK _
 ·exact hK _
 ·split
  ·exact Av hn fun _=>hK _
  ·exact Eu hn fun _ _ _=>hK _
 ·exact hn
def JQ (Rel:Option R->Option R'->Prop)(f f':Nat->Option (List PV)) (l:List Nat):Prop:=∀i∈l,f i=f' i∨(f i=none∧∀b,Rel none b)
variable {f f':Nat->Option (List PV)}
theorem JQ.sub {l l':List Nat}(h:JQ Rel f f' l)(hs:∀i∈l',i∈l):JQ Rel f f' l':=fun i hi=>h i (hs i hi)
theorem Tk (hn:Rel none none){l:List Nat}{id:Nat}(hf:JQ Rel f f' l)(hi:id∈l){K:List PV->Option R}{K':List PV->Option R'}(hK:∀c,f id=some c->Rel (K c) (K' c)):Rel (Dk (f id) K) (Dk (f' id) K'):=by
 rcases hf id hi with h|⟨h,hb⟩
 ·rw[←h];exact Cs hn hK
 ·rw[h];exact hb _
theorem Mq (hn:Rel none none){es:Nat}{p:PV}{K:Nat->List PV->Option R}{K':Nat->List PV->Option R'}(hf:JQ Rel f f' (Am p)) (hK:∀n c,Rel (K n c) (K' n c)):Rel (MM f es p K) (MM f' es p K'):=by
 unfold MM;split
 ·rename_i id es' off n;cases Nat.beq es' es
  ·exact hn
  ·exact Tk hn hf (by simp[Am]) fun _ _=>Av hn fun _=>hK _ _
 ·exact Eu hn fun _ _ _=>hK _ _
theorem ZG (hn:Rel none none){t:CT}{p:PV}{K:PV->List Nat->Option R}{K':PV->List Nat->Option R'}(hf:JQ Rel f f' (Am p)) (hK:∀c m,(∀i∈m,f i≠none)->Rel (K c m) (K' c m)):Rel (K9 f t p K) (K9 f' t p K'):=by
 unfold K9;split
 ·split
  ·rename_i id es' off n;cases Nat.beq es' _
   ·exact hn
   ·exact Tk hn hf (by simp[Am]) fun c hc=>Av hn fun _=>hK _ _ (by simp[hc])
  ·exact Eu hn fun _ _ _=>hK _ _ (by simp)
 ·exact Lf hn fun _=>hK _ _ (by simp)
theorem Qa (hn:Rel none none):∀{ts:List CT}{ps:List PV}{K:List PV->List Nat->Option R}{K':List PV->List Nat->Option R'},JQ Rel f f' (ps.flatMap Am)->(∀c m,(∀i∈m,f i≠none)->Rel (K c m) (K' c m))->Rel (Kf f ts ps K) (Kf f' ts ps K')
 |[],[],_,_,_,hK=>hK _ _ (by simp)
 |[],_::_,_,_,_,_=>hn
 |_::_,[],_,_,_,_=>hn
 |_::_,p::ps,_,_,hf,hK=>ZG hn (fun i hi=>hf i (by simp only[List.flatMap_cons,List.mem_append];exact .inl hi)) fun _ m hm=>Qa hn (fun i hi=>hf i (by simp only[List.flatMap_cons,List.mem_append];exact .inr hi)) fun _ ms Z9=>hK _ _ fun i hi=>by
   rcases List.mem_append.1 hi with h|h
   ·exact hm i h
   ·exact Z9 i h
theorem Aci (hn:Rel none none){P:Program}{t:TypeId}{p:PV}{K:PV->List Nat->Option R}{K':PV->List Nat->Option R'}(hf:JQ Rel f f' (B6 p)) (hK:∀c m,(∀i∈m,f i≠none)->Rel (K c m) (K' c m)):Rel (PW P f t p K) (PW P f' t p K'):=by
 unfold PW
 have h1:∀i,i∈[p].flatMap Am->i∈B6 p:=by
  intro i hi;simp only[List.flatMap_cons,List.flatMap_nil,List.append_nil] at hi;cases p<;>first|exact hi|simp[Am] at hi
 cases B0 P t
 ·exact Qa hn (fun i hi=>hf i (h1 i hi)) fun _ _ hm=>Be hn fun _ _ _=>Ef hn (hK _ _ hm)
 ·refine Hk hn fun c hc=>?_
  subst hc;exact Qa hn (fun i hi=>hf i hi) fun _ _ hm=>hK _ _ hm
theorem FQ (hn:Rel none none){P:Program}:∀{ts:List TypeId}{ps:List PV}{K:List PV->List Nat->Option R}{K':List PV->List Nat->Option R'},JQ Rel f f' (ps.flatMap B6)->(∀c m,(∀i∈m,f i≠none)->Rel (K c m) (K' c m))->Rel (X9 P f ts ps K) (X9 P f' ts ps K')
 |[],[],_,_,_,hK=>hK _ _ (by simp)
 |[],_::_,_,_,_,_=>hn
 |_::_,[],_,_,_,_=>hn
 |_::_,p::ps,_,_,hf,hK=>Aci hn (fun i hi=>hf i (by simp only[List.flatMap_cons,List.mem_append];exact .inl hi)) fun _ m hm=>FQ hn (fun i hi=>hf i (by simp only[List.flatMap_cons,List.mem_append];exact .inr hi)) fun _ ms Z9=>hK _ _ fun i hi=>by
   rcases List.mem_append.1 hi with h|h
   ·exact hm i h
   ·exact Z9 i h
theorem QA (hn:Rel none none){P:Program}{t:TypeId}{x:PV}{lo hi:Option PV}{K:PV->Option R}{K':PV->Option R'}(hf:(∃n e,P.underlying t=some (.array n e))->JQ Rel f f' (Am x)) (hK:∀c,Rel (K c) (K' c)):Rel (Uz P f t x lo hi K) (Uz P f' t x lo hi K'):=by
 unfold Uz;split
 ·exact Et hn fun _=>Dj hn fun _=>Dj hn fun _=>Av hn fun _=>hK _
 ·refine Av hn fun _=>?_
  split
  ·exact Av hn fun _=>Dj hn fun _=>Dj hn fun _=>Av hn fun _=>hK _
  ·exact Eu hn fun _ _ _=>Dj hn fun _=>Dj hn fun _=>Av hn fun _=>hK _
 ·rename_i n e hu;refine Av hn fun _=>?_
  split
  ·rename_i id off;exact Tk hn (hf ⟨_,_,hu⟩) (by simp[Am]) fun _ _=>Av hn fun _=>Dj hn fun _=>Dj hn fun _=>Av hn fun _=>hK _
  ·exact hn
 ·exact hn
theorem MA (hn:Rel none none){P:Program}{d:Nat}{t:TypeId}{x:PV}{lo hi mx:Option PV}{K:PV->List (Nat × Bk)->Option R} {K':PV->List (Nat × Bk)->Option R'} (hK:∀c,Rel (K c [(d,.ar false [])]) (K' c [(d,.ar false [])])):Rel (Pz P d t x lo hi mx K) (Pz P d t x lo hi mx K'):=by
 unfold Pz;split
 ·refine Av hn fun _=>?_
  split
  ·exact Av hn fun _=>Dj hn fun _=>Dj hn fun _=>Dj hn fun _=>Av hn fun _=>hK _
  ·exact Eu hn fun _ _ _=>Dj hn fun _=>Dj hn fun _=>Dj hn fun _=>Av hn fun _=>hK _
 ·exact hn
theorem FK {nz:Bool}{g g':Nat->Option (List PV)} (hn:Rel none none){P:Program}{t:TypeId}{x:PV}{K:PV->Option R}{K':PV->Option R'}(hf:∀i∈Am x,(f i=f' i∧g i=g' i)∨(f i=none∧g i=none∧∀b,Rel none b)) (hK:∀c,Rel (K c) (K' c)):Rel (Sn nz P f g t x K) (Sn nz P f' g' t x K'):=by
 unfold Sn;split
 ·rename_i id off;refine Av hn fun _=>?_
  rcases hf id (by simp[Am]) with⟨h1,h2⟩|⟨h1,h2,h3⟩
  ·rw[←h1,←h2];split
   ·exact L8 hn fun _=>Sk hn fun _=>hK _
   ·exact Cs hn fun _ _=>K0 hn fun _=>Sk hn hK
  ·rw[h1,h2];exact h3 _
 ·exact Av hn fun _=>L8 hn fun _=>Sk hn fun _=>hK _
 ·exact hn
theorem VM (hn:Rel none none){P:Program}{d:Nat}{src dst:TypeId}{x:PV}{K:PV->List (Nat × Bk)->Option R} {K':PV->List (Nat × Bk)->Option R'} (hf:P.underlying dst=some .string->JQ Rel f f' (Am x)) (hK:∀v b,(∀q∈b,q.1=d)->Rel (K v b) (K' v b)):Rel (AB P f d src dst x K) (AB P f' d src dst x K'):=by
 unfold AB;split
 ·exact Av hn fun _=>Dm hn fun _ _=>hK _ _ (by simp)
 ·rename_i hds;split
  ·exact Et hn fun _=>hK _ _ (by simp)
  ·split
   ·exact Mq hn (hf hds) fun _ _=>Av hn fun _=>Cs hn fun _ _=>hK _ _ (by simp)
   ·exact Mq hn (hf hds) fun _ _=>Av hn fun _=>Cs hn fun _ _=>hK _ _ (by simp)
   ·exact hn
  ·exact hn
 ·split
  ·exact Et hn fun _=>Av hn fun _=>hK _ _ (by simp)
  ·exact hn
 ·exact hn
theorem Acd (hn:Rel none none){shr:Bool}{id:Nat}{t:CT}{p:PV}{K:PV->List (Nat × Bk)->Option R} {K':PV->List (Nat × Bk)->Option R'} (hK:∀c b,(∀q∈b,q.1=id)->Rel (K c b) (K' c b)):Rel (Aa4 shr id t p K) (Aa4 shr id t p K'):=by
 unfold Aa4;split
 ·cases shr
  ·exact SV hn fun _ _=>hK _ _ (by simp)
  ·exact Eu hn fun _ _ _=>hK _ _ (by simp)
 ·exact Lf hn fun _=>hK _ _ (by simp)
theorem P7 (hn:Rel none none){shr:Bool}{N:Nat}:∀{ts:List CT}{id:Nat}{ps:List PV}{K:List PV->List (Nat × Bk)->Option R} {K':List PV->List (Nat × Bk)->Option R'},(∀c b,(∀q∈b,∃j,q.1=id+N*j)->Rel (K c b) (K' c b))->Rel (Mz shr N id ts ps K) (Mz shr N id ts ps K')
 |[],_,_,_,_,hK=>Ef hn (hK _ _ (by simp))
 |_::_,id,_,_,_,hK=>Be hn fun _ _ _=>Acd hn fun _ b hb=>P7 hn fun _ bs CS=>hK _ _ fun q hq=>by
   rcases List.mem_append.1 hq with h|h
   ·exact⟨0,by rw[hb q h];simp⟩
   ·obtain⟨j,hj⟩:=CS q h;exact⟨j+1,by rw[hj,Nat.mul_add];omega⟩
theorem ZK (hn:Rel none none){P:Program}{shr:Bool}{N id:Nat}{t:TypeId}{p:PV}{K:PV->List (Nat × Bk)->Option R} {K':PV->List (Nat × Bk)->Option R'} (hK:∀c b,(∀q∈b,∃j,q.1=id+N*j)->Rel (K c b) (K' c b)):Rel (WO P shr N id t p K) (WO P shr N id t p K'):=by
 unfold WO;split
 ·refine XB hn fun ps=>P7 hn fun _ _ hb=>hK _ _ fun q hq=>?_
  rcases List.mem_cons.1 hq with rfl|hq
  ·exact⟨0,by simp⟩
  ·obtain⟨j,hj⟩:=hb q hq;exact⟨j+1,by rw[hj,Nat.mul_add];omega⟩
 cases B0 P t
 ·exact P7 hn fun _ _ hb=>Be hn fun _ _ _=>Ef hn (hK _ _ hb)
 ·exact Hk hn fun _ _=>P7 hn fun _ _ hb=>hK _ _ hb
theorem Vj (hn:Rel none none){P:Program}{shr:Bool}{N:Nat}:∀{ts:List TypeId}{id:Nat}{ps:List PV}{K:List PV->List (Nat × Bk)->Option R} {K':List PV->List (Nat × Bk)->Option R'},(∀c b,(∀q∈b,∃j,q.1=id+N*j)->Rel (K c b) (K' c b))->Rel (Vt P shr N id ts ps K) (Vt P shr N id ts ps K')
 |[],_,_,_,_,hK=>Ef hn (hK _ _ (by simp))
 |t::_,id,_,_,_,hK=>Be hn fun _ _ _=>ZK hn fun _ b hb=>Vj hn fun _ bs CS=>hK _ _ fun q hq=>by
   rcases List.mem_append.1 hq with h|h
   ·exact hb q h
   ·obtain⟨j,hj⟩:=CS q h;exact⟨LG P t+j,by rw[hj,Nat.mul_add];omega⟩
end
theorem Ov {p:PV}{i:Nat}(h:i∈Am p):i∈B6 p:=by cases p<;>first|exact h|simp[Am] at h
theorem Ew {p:PV}{i:Nat}(h:i∈B6 p):i∈Bo p:=by cases p<;>first|exact h|simp[B6,Am] at h
theorem Ia {p:PV}{i:Nat}(h:i∈Am p):i∈Bo p:=Ew (Ov h)
section
variable {R R':Type} {Rel:Option R->Option R'->Prop} {P:Program} {N:Nat} {tm tm':Nat->PV} {f f' g g':Nat->Option (List PV)} {o:Oper}
theorem Yq (hn:Rel none none){t:TypeId}{x:Operand}{K:PV->Option R}{K':PV->Option R'}(hx:Bv tm x=Bv tm' x)(hK:∀p,Rel (K p) (K' p)):Rel (Uu P t tm x K) (Uu P t tm' x K'):=by
 unfold Uu;split
 ·exact RX hn (fun _ _=>hK _) (fun _=>hK _)
 ·rw[hx];exact hK _
theorem YZ (hn:Rel none none){t:CT}{p:PV}{K:PV->Option R}{K':PV->Option R'}(hK:∀p,Am p=[]->Rel (K p) (K' p)):Rel (Uh t p K) (Uh t p K'):=by
 unfold Uh;split
 ·exact Gs hn fun _=>hK _ rfl
 ·exact Fm hn fun _=>hK _ rfl
 ·exact Et hn fun _=>hK _ rfl
 ·exact Eu hn fun _ _ _=>hK _ rfl
 ·exact SR hn fun _=>hK _ rfl
theorem FL (hn:Rel none none):∀{ts:List CT}{cells:List PV}{off:Nat}{K:List PV->Option R}{K':List PV->Option R'},(∀c,(∀p∈c,Am p=[])->Rel (K c) (K' c))->Rel (Ob ts cells off K) (Ob ts cells off K')
 |[],_,_,_,_,hK=>hK _ (by simp)
 |_::_,_,_,_,_,hK=>YZ hn fun c hc=>FL hn fun cs Xt=>hK _ (by
   intro p hp;rcases List.mem_cons.1 hp with h|h
   ·rw[h];exact hc
   ·exact Xt p h)
theorem Sr (hn:Rel none none){t:TypeId}{K:List PV->Option R}{K':List PV->Option R'}(hK:∀c,(∀p∈c,Am p=[])->Rel (K c) (K' c)):Rel (Fw P t K) (Fw P t K'):=
 Cs hn fun _ _=>Av hn fun _=>FL hn hK
theorem Po {p c:PV}(h:c∈cellsOf p){i:Nat}(hi:i∈Am c):i∈B6 p:=by
 unfold cellsOf at h;split at h
 ·exact List.mem_flatMap.2 ⟨c,h,hi⟩
 ·simp at h;subst h;exact Ov hi
theorem OX {cells new:List PV}{off:Nat}{c:PV}(h:c∈B8 cells new off):c∈cells∨c∈new:=by
 unfold B8 at h;rcases List.mem_append.1 h with h|h
 ·rcases List.mem_append.1 h with h|h
  ·exact .inl (List.mem_of_mem_take h)
  ·exact .inr h
 ·exact .inl (List.mem_of_mem_drop h)
theorem Y9 (hn:Rel none none){Fy:Nat->Option (Nat × Nat)} {S:Nat->Prop}:∀{ps:List (Nat × PV)} {cells:List PV}{K:List PV->Option R}{K':List PV->Option R'},(∀c∈cells,∀i∈Am c,S i)->(∀q∈ps,∀i∈B6 q.2,S i) ->
  (∀cs,(∀c∈cs,∀i∈Am c,S i)->Rel (K cs) (K' cs))->Rel (Pc Fy ps cells K) (Pc Fy ps cells K')
 |[],_,_,_,h1,_,hK=>hK _ h1
 |(_,p)::_,_,_,_,h1,h2,hK=>Cs hn fun _ _=>Av hn fun _=>Y9 hn (fun c hc i hi=>by
   rcases OX hc with h|h
   ·exact h1 c h i hi
   ·exact h2 (_,p) List.mem_cons_self i (Po h hi)) (fun q hq=>h2 q (List.mem_cons_of_mem _ hq)) hK
theorem Wa (hn:Rel none none):∀{ts:List CT}{ps:List PV}{K:List PV->List Nat->Option R}{K':List PV->List Nat->Option R'},(∀t∈ts,∀es,t ≠ .sl es)->(∀c,Rel (K c []) (K' c []))->Rel (Kf g ts ps K) (Kf g' ts ps K')
 |[],[],_,_,_,hK=>hK _
 |[],_::_,_,_,_,_=>hn
 |_::_,[],_,_,_,_=>hn
 |t::ts,p::ps,K,K',ht,hK=>by
  show Rel (K9 g t p _) (K9 g' t p _)
  have:∀{g:Nat->Option (List PV)} {S:Type} {L:PV->List Nat->Option S},K9 g t p L=Uh t p fun c=>L c []:=by
   intro g S L;cases t with
   |sl es=>exact absurd rfl (ht _ (by simp) es)
   |_=>rfl
  rw[this,this];exact Lf hn fun c=>Wa hn (fun t h=>ht t (by simp[h])) fun cs=>hK _
theorem Acb (hn:Rel none none){es:Nat}{t:TypeId}{x:PV}{K:Nat->List PV->Option R}{K':Nat->List PV->Option R'}(hx:JQ Rel g g' (Am x)) (hK:∀m c,Rel (K m c) (K' m c)):Rel (RJ P g es t x K) (RJ P g' es t x K'):=by
 unfold RJ;split
 ·exact Av hn fun _=>Et hn fun _=>hK _ _
 ·exact Mq hn hx hK
 ·exact hn
theorem Aam (hn:Rel none none){t:TypeId}{x:PV}{K:Nat->Option R}{K':Nat->Option R'}(hK:∀n,Rel (K n) (K' n)):Rel (UP P t x K) (UP P t x K'):=by
 unfold UP;split
 ·exact Eu hn fun _ _ _=>Av hn fun _=>hK _
 ·exact hn
theorem LR (hn:Rel none none){d:Nat}{t tx:TypeId}{x:PV}{K:PV->List (Nat × Bk)->Option R} {K':PV->List (Nat × Bk)->Option R'} (hx:JQ Rel g g' (Am x)) (hK:∀v nw,Rel (K v nw) (K' v nw)):Rel (Qg P g d t tx x K) (Qg P g' d t tx x K'):=by
 unfold Qg;split
 ·exact Av hn fun _=>Acb hn hx fun _ _=>Av hn fun _=>hK _ _
 ·exact hn
theorem Z6 (hn:Rel none none){C:Fu}{call:Ax}{K:PV->List Nat->List (Nat × Bk)->Option R} {K':PV->List Nat->List (Nat × Bk)->Option R'}
  (Hp:∀x∈o.op.operands.toList,Bv tm x=Bv tm' x)
  (hfg:Gb P o.op=true->∀x∈o.op.operands.toList,∀i∈Bo (Bv tm' x),(f i=f' i∧g i=g' i)∨(f i=none∧g i=none∧∀b,Rel none b))
  (hK:∀v fz nw,(Gb P o.op=false->fz=[]∧∀q∈nw,o.dst=some q.1)->(∀i∈fz,g i≠none)->Rel (K v fz nw) (K' v fz nw)):
  Rel (Yk C P N call tm f g o K) (Yk C P N call tm' f' g' o K'):=by
 have h0:∀v,Rel (K v [] []) (K' v [] []):=fun v=>hK v [] [] (fun _=>⟨rfl,by simp⟩) (by simp)
 have hf:Gb P o.op=true->∀x∈o.op.operands.toList,JQ Rel f f' (Bo (Bv tm' x)):=fun h x hx i hi=>(hfg h x hx i hi).imp (·.1) fun h=>⟨h.1,h.2.2⟩
 have hg:Gb P o.op=true->∀x∈o.op.operands.toList,JQ Rel g g' (Bo (Bv tm' x)):=fun h x hx i hi=>(hfg h x hx i hi).imp (·.2) fun h=>⟨h.2.1,h.2.2⟩
 unfold Yk;generalize hop:o.op=op at *
 split
 ·exact Yq hn (Hp _ (by simp[Op.operands])) h0
 ·exact Yq hn (Hp _ (by simp[Op.operands])) h0
 ·rename_i c x y;rw[Hp c (by simp[Op.operands]),Hp x (by simp[Op.operands]),Hp y (by simp[Op.operands])]
  exact Fm hn fun _=>Xv (h0 _) (h0 _)
 ·exact Cs hn fun d hd=>Ou hn fun _=>hK _ _ _ (fun _=>⟨rfl,by simp[hd]⟩) (by simp)
 ·rename_i t x;rw[Hp x (by simp[Op.operands])]
  refine Cs hn fun d hd=>Av hn fun _=>?_
  cases Pp P t
  ·exact K0 hn fun _=>hK _ _ _ (fun _=>⟨rfl,by simp[hd]⟩) (by simp)
  ·exact L8 hn fun _=>hK _ _ _ (fun _=>⟨rfl,by simp[hd]⟩) (by simp)
 ·rename_i t ps
  have:(ps.toList.map fun q=>(q.1,Bv tm q.2))=ps.toList.map fun q=>(q.1,Bv tm' q.2):=by
   apply List.map_congr_left;intro q hq;rw[Hp q.2 (by simp only[Op.operands];exact List.mem_map_of_mem hq)]
  rw[this];exact Av hn fun _=>Ou hn fun _=>Ul hn fun _=>K0 hn fun _=>h0 _
 ·rename_i t n ps
  have:(ps.toList.map fun q=>(q.1,Bv tm q.2))=ps.toList.map fun q=>(q.1,Bv tm' q.2):=by
   apply List.map_congr_left;intro q hq;rw[Hp q.2 (by simp only[Op.operands];exact List.mem_map_of_mem hq)]
  rw[this];refine Cs hn fun d hd=>?_
  split
  ·rename_i e hu;cases NH:Hh P [e]
   ·refine Av hn fun _=>Sr hn fun z hz=>Ul hn fun cs=>Wa hn ?_ fun cs'=>hK _ _ _ (fun _=>⟨rfl,by simp[hd]⟩) (by simp)
    intro c hc es he;obtain⟨l,hl,hc⟩:=List.mem_flatten.1 hc;rw[List.eq_of_mem_replicate hl] at hc;subst he
    have:Hh P [e]=true:=by
     unfold Hh;simp only[List.any_cons,List.any_nil,Bool.or_false,Bool.or_eq_true];exact .inr (List.any_eq_true.2 ⟨_,hc,rfl⟩)
    rw[this] at NH;cases NH
   refine Av hn fun _=>Sr hn fun z hz=>Y9 (S:=fun i=>∃x∈(Op.buildSlice t n ps).operands.toList,i∈Bo (Bv tm' x)) hn ?_ ?_ fun cs Xt=>?_
   ·intro c hc i hi;obtain⟨l,hl,hc⟩:=List.mem_flatten.1 hc;rw[List.eq_of_mem_replicate hl] at hc;rw[hz c hc] at hi;simp at hi
   ·intro q hq i hi;obtain⟨q',Ex,rfl⟩:=List.mem_map.1 hq;exact⟨q'.2,by simp only[Op.operands];exact List.mem_map_of_mem Ex,Ew hi⟩
   ·refine Qa hn (fun i hi=>?_) fun cs' m hm=>hK _ _ _ (fun h=>by simp[Gb,hu,NH] at h) hm
    obtain⟨c,hc,hi⟩:=List.mem_flatMap.1 hi;obtain⟨x,hx,hxi⟩:=Xt c hc i hi;exact hg (by simp[Gb,hu,NH]) x hx i hxi
  ·exact hn
 ·rename_i t x;rw[Hp x (by simp[Op.operands])]
  exact FK hn (fun i hi=>hfg (by simp[Gb]) x (by simp[Op.operands]) i (Ia hi)) h0
 ·rename_i x;rw[Hp x (by simp[Op.operands])]
  exact Uv hn h0
 ·rename_i op' t x y _;rw[Hp x (by simp[Op.operands]),Hp y (by simp[Op.operands])]
  exact LP hn h0
 ·rename_i op' t x;rw[Hp x (by simp[Op.operands])]
  exact Aew hn h0
 ·rename_i src dst x;rw[Hp x (by simp[Op.operands])]
  exact VM hn (fun hds i hi=>hg (by simp[Gb,hds]) x (by simp[Op.operands]) i (Ia hi)) fun v b hb=>Cs hn fun d hd=>hK _ _ _ (fun _=>⟨rfl,fun q hq=>by rw[hd,hb q hq,hd];rfl⟩) (by simp)
 ·rename_i t x y;rw[Hp x (by simp[Op.operands]),Hp y (by simp[Op.operands])]
  refine Cs hn fun d hd=>?_
  split
  ·exact Dm hn fun _ _=>Dm hn fun _ _=>Av hn fun _=>Ou hn fun _=>hK _ _ _ (fun _=>⟨rfl,by simp[hd]⟩) (by simp)
  ·exact hn
 ·rename_i t x lo hi mx;split
  ·rw[Hp x (by simp[Op.operands])]
   have h1:lo.map (Bv tm)=lo.map (Bv tm'):=by
    cases lo with
    |none=>rfl
    |some y=>simp only[Option.map_some];rw[Hp y (by simp[Op.operands])]
   have h2:hi.map (Bv tm)=hi.map (Bv tm'):=by
    cases hi with
    |none=>rfl
    |some y=>simp only[Option.map_some];rw[Hp y (by simp[Op.operands])]
   rw[h1,h2];exact QA hn (fun ⟨n,e,he⟩ i hi=>hf (by simp[Gb,he]) x (by simp[Op.operands]) i (Ia hi)) h0
  ·rename_i m;rw[Hp x (by simp[Op.operands])]
   have h1:lo.map (Bv tm)=lo.map (Bv tm'):=by
    cases lo with
    |none=>rfl
    |some y=>simp only[Option.map_some];rw[Hp y (by simp[Op.operands])]
   have h2:hi.map (Bv tm)=hi.map (Bv tm'):=by
    cases hi with
    |none=>rfl
    |some y=>simp only[Option.map_some];rw[Hp y (by simp[Op.operands])]
   rw[h1,h2,Hp m (by simp[Op.operands])]
   exact Cs hn fun d hd=>MA hn fun c=>hK _ _ _ (fun _=>⟨rfl,by simp[hd]⟩) (by simp)
 ·rename_i t x fl;rw[Hp x (by simp[Op.operands])]
  exact Cs hn fun _ _=>Av hn fun _=>Uv hn h0
 ·rename_i t x fl;rw[Hp x (by simp[Op.operands])]
  exact Cs hn fun _ _=>Av hn fun _=>Hk hn fun _ _=>K0 hn fun _=>Sk hn h0
 ·rename_i t x i;rw[Hp x (by simp[Op.operands]),Hp i (by simp[Op.operands])]
  exact Dm hn fun _ _=>Y2 hn h0
 ·rename_i t x i;rw[Hp x (by simp[Op.operands]),Hp i (by simp[Op.operands])]
  refine Dm hn fun _ _=>?_
  split
  ·exact Et hn fun _=>Av hn fun _=>Cs hn fun _ _=>h0 _
  ·exact Hk hn fun _ _=>Av hn fun _=>K0 hn fun _=>Sk hn h0
  ·exact hn
 ·rename_i t x k ok;rw[Hp x (by simp[Op.operands]),Hp k (by simp[Op.operands])]
  split
  ·refine Av hn fun _=>?_
   split
   ·exact Et hn fun _=>Cs hn fun _ _=>RX hn (fun _ _=>Av hn fun _=>h0 _) (fun _=>Av hn fun _=>h0 _)
   ·exact hn
  ·exact hn
 ·rename_i x i;rw[Hp x (by simp[Op.operands])]
  split
  ·exact Cs hn fun _ _=>h0 _
  ·exact hn
 ·rename_i c
  have H5:∀x∈c.args.toList,x∈(Op.call c).operands.toList:=by
   intro x hx;simp only[Op.operands,Call.operands,Array.toList_append,List.mem_append];exact .inr hx
  have rc:∀fn,Gb P (.call c)=true->Rel (Yv C P N call tm g o c fn K) (Yv C P N call tm' g' o c fn K'):=by
   intro fn OA;unfold Yv;have:c.args.toList.map (Bv tm)=c.args.toList.map (Bv tm'):=List.map_congr_left fun x hx=>Hp x (H5 x hx)
   rw[this];refine FQ hn (fun i hi=>?_) fun vs m hm=>EN hn fun rv ro=>Ef hn (Av hn fun _=>Vj hn fun ws bs CS=>Av hn fun _=>hK _ _ _ (fun h=>by rw[OA] at h;cases h) (fun i hi=>?_))
   ·obtain⟨p,hp,hi⟩:=List.mem_flatMap.1 hi;obtain⟨x,hx,rfl⟩:=List.mem_map.1 hp;exact hg OA x (H5 x hx) i (Ew hi)
   ·have NU:i∈m:=by
     cases hq:Hh P (Kx P o.type)<;>rw[hq] at hi
     ·simp at hi
     ·exact hi
    exact hm i NU
  split
  ·refine Be hn fun x _ hx=>Be hn fun _ _ _=>?_
   rw[Hp x (H5 x (by rw[hx];simp))]
   exact Acf hn fun _=>h0 _
  ·refine Be hn fun x _ hx=>Be hn fun _ _ _=>?_
   rw[Hp x (H5 x (by rw[hx];simp))]
   exact Aam hn fun _=>h0 _
  ·refine Be hn fun x _ hx=>Be hn fun y _ hy=>Ef hn ?_
   subst hy;rw[Hp x (H5 x (by rw[hx];simp)),Hp y (H5 y (by rw[hx];simp))]
   exact Aaq hn h0
  ·refine Be hn fun x _ hx=>Be hn fun y _ hy=>Ef hn ?_
   subst hy;rw[Hp x (H5 x (by rw[hx];simp)),Hp y (H5 y (by rw[hx];simp))]
   exact Aa0 hn h0
  ·rename_i hc;have OA:Gb P (.call c)=true:=by simp[Gb,hc]
   refine Av hn fun _=>Cs hn fun d hd=>Be hn fun _ _ hb=>Be hn fun x _ hx=>Ef hn (Be hn fun _ _ _=>Be hn fun _ _ _=>?_)
   have UD:x∈c.args.toList:=by rw[hb,hx];simp
   rw[Hp x (H5 x UD)];exact LR hn (fun i hi=>hg OA x (H5 x UD) i (Ia hi)) fun v nw=>hK _ _ _ (fun h=>by rw[OA] at h;cases h) (by simp)
  ·rename_i fn hc;have OA:Gb P (.call c)=true:=by simp[Gb,hc]
   exact rc fn OA
  ·rename_i t hc;have OA:Gb P (.call c)=true:=by simp[Gb,hc]
   have ht:=Hp (.tmp t) (by simp[Op.operands,Call.operands,hc])
   change tm t=tm' t at ht;rw[ht];exact Aed hn fun fn=>rc fn OA
  ·exact hn
 ·exact hn
variable {hp:Nat->Option Bk}
end
open Go.RowKit
abbrev Pq:=PV × List Nat × List (Nat × Bk)
def Fs (ops:Array Oper)(o:Oper)(tm:Nat->PV):Option Bool:=
 match o.guard with
 |none=>some true
 |some (j,want)=>
  match (ops[j]?).bind (·.dst) with
  |none=>none
  |some d=>
   match tm d with
   |.sc (.bool b)=>some (b==want)
   |.sc (.tuple _)=>some false
   |_=>none
section
variable {R:Type} {r:R} {C:Fu} {P:Program} {N:Nat} {call:Ax} {ops:Array Oper} {o x:Oper} {s:St} {K:St->Option R}
theorem FY:Da C P N call ops o s K=match Fs ops o s.tm with
  |none=>none
  |some true=>KF C P N call o s K
  |some false=>Bi (Fe N o.dst) (K ⟨Bj s.tm o.dst (.sc undef),s.hp⟩):=by
 unfold Da Fs;cases o.guard with
 |none=>rfl
 |some q=>
  obtain⟨j,want⟩:=q;cases hd:(ops[j]?).bind (·.dst) with
  |none=>simp[hd]
  |some d=>
   simp only[hd];cases ht:s.tm d with
   |sc v=>
    cases v with
    |bool b=>
     cases b<;>cases want<;>simp only[Bh,cond_true,cond_false,Sf s.tm ht]<;>rfl
    |_=>rfl
   |_=>rfl
def UM (C:Fu)(P:Program)(N:Nat)(call:Ax)(o:Oper)(s:St):Option Pq:=
 Yk C P N call s.tm (rd s.hp) (Hl s.hp) o fun v fz nw=>some (v,fz,nw)
theorem Adp {K:PV->List Nat->List (Nat × Bk)->Option R}:Yk C P N call s.tm (rd s.hp) (Hl s.hp) o K=(UM C P N call o s).bind fun q=>K q.1 q.2.1 q.2.2:=by
 refine Z6 (Rel:=fun (a:Option R) (b:Option Pq)=>a=b.bind fun q=>K q.1 q.2.1 q.2.2) (K:=K) (K':=fun v fz nw=>some (v,fz,nw)) rfl (fun _ _=>rfl) (fun _ _ _ _ _=>.inl ⟨rfl,rfl⟩) fun v fz nw _ _=>rfl
theorem OU {q:Pq}(h:UM C P N call o s=some q):(Gb P o.op=false->q.2.1=[]∧∀p∈q.2.2,o.dst=some p.1)∧∀i∈q.2.1,Hl s.hp i≠none:=by
 have:=Z6 (C:=C) (P:=P) (N:=N) (call:=call) (o:=o) (tm:=s.tm) (tm':=s.tm) (f:=rd s.hp) (f':=rd s.hp) (g:=Hl s.hp) (g':=Hl s.hp)
  (Rel:=fun (a:Option Pq)(_:Option Pq)=>∀q,a=some q->(Gb P o.op=false->q.2.1=[]∧∀p∈q.2.2,o.dst=some p.1)∧∀i∈q.2.1,Hl s.hp i≠none)
  (K:=fun v fz nw=>some (v,fz,nw)) (K':=fun v fz nw=>some (v,fz,nw)) (fun _ h=>by cases h) (fun _ _=>rfl) (fun _ _ _ _ _=>.inl ⟨rfl,rfl⟩) (fun v fz nw h1 h2 q hq=>by cases hq;exact⟨h1,h2⟩)
 exact this q h
def gE (C:Fu)(P:Program)(N:Nat)(call:Ax)(ops:Array Oper)(o:Oper)(s:St):Option Pq:=
 match Fs ops o s.tm with
 |none=>none
 |some true=>bif Nc C P o.op then none else UM C P N call o s
 |some false=>some (.sc undef,[],[])
def Fn (C:Fu)(P:Program)(ops:Array Oper)(o:Oper)(tm:Nat->PV):Bool:=Nc C P o.op&&(Fs ops o tm==some true)
theorem H0 (h:Fn C P ops o s.tm=false):Da C P N call ops o s K=(gE C P N call ops o s).bind fun q=>Up N s o.dst q.1 q.2.1 q.2.2 K:=by
 rw[FY];unfold gE;unfold Fn at h;cases hv:Fs ops o s.tm with
 |none=>rfl
 |some b=>
  rw[hv] at h;cases b with
  |false=>
   show Bi _ _=Up N s o.dst (.sc undef) [] [] K;unfold Up;have h1:Bn s.hp []=true:=rfl;have h2:An (Af s.hp []) []=s.hp:=rfl;rw[h1,h2,Bool.and_true]
  |true=>
   have hm:Nc C P o.op=false:=by simpa using h
   simp only[KF,hm,cond_false];exact Adp
theorem G0 (h:Fn C P ops o s.tm=true):Da C P N call ops o s K=Qv C P N call s o K:=by
 rw[FY];unfold Fn at h;simp only[Bool.and_eq_true,beq_iff_eq] at h;rw[h.2];simp only[KF,h.1,cond_true]
theorem Pa {q:Pq}(h:gE C P N call ops o s=some q):(Gb P o.op=false->q.2.1=[]∧∀p∈q.2.2,o.dst=some p.1)∧∀i∈q.2.1,Hl s.hp i≠none:=by
 unfold gE at h;split at h
 ·cases h
 ·cases hm:Nc C P o.op<;>rw[hm] at h
  ·exact OU h
  ·cases h
 ·cases h;exact⟨fun _=>⟨rfl,by simp⟩,by simp⟩
theorem Em {tm tm':Nat->PV}(h:∀t∈looks ops o,tm t=tm' t):∀y∈o.op.operands.toList,Bv tm y=Bv tm' y:=by
 intro y hy;cases y with
 |tmp t=>
  refine h t ?_;unfold looks Ab5;refine List.mem_append.2 (.inl (List.mem_filterMap.2 ⟨.tmp t,hy,rfl⟩))
 |const v=>cases v<;>rfl
 |func f=>rfl
 |«global» g=>rfl
theorem Ig {tm tm':Nat->PV}(h:∀t∈looks ops o,tm t=tm' t):Fs ops o tm=Fs ops o tm':=by
 unfold Fs;cases hg:o.guard with
 |none=>rfl
 |some q=>
  obtain⟨j,want⟩:=q;cases hd:(ops[j]?).bind (·.dst) with
  |none=>simp[hd]
  |some d=>
   have:tm d=tm' d:=h d (by
    unfold looks;rw[hg];refine List.mem_append.2 (.inr ?_);simp only[hd];simp)
   simp only[hd,this]
theorem S6 {s':St}{q:Pq}(ht:∀t∈looks ops o,s.tm t=s'.tm t)
  (hm:Gb P o.op=true->∀y∈o.op.operands.toList,∀i∈Bo (Bv s'.tm y),(rd s.hp i=rd s'.hp i∧Hl s.hp i=Hl s'.hp i)∨(rd s.hp i=none∧Hl s.hp i=none))
  (h:gE C P N call ops o s=some q):gE C P N call ops o s'=some q:=by
 unfold gE at h ⊢;rw[←Ig ht];split at h
 ·cases h
 ·cases hM:Nc C P o.op<;>rw[hM] at h
  ·have:=Z6 (C:=C) (P:=P) (N:=N) (call:=call) (o:=o) (tm:=s.tm) (tm':=s'.tm) (f:=rd s.hp) (f':=rd s'.hp) (g:=Hl s.hp) (g':=Hl s'.hp)
    (Rel:=fun (a b:Option Pq)=>a=some q->b=some q)
    (K:=fun v fz nw=>some (v,fz,nw)) (K':=fun v fz nw=>some (v,fz,nw)) (fun h=>h) (Em ht)
    (fun Hw y hy i hi=>(hm Hw y hy i hi).imp id fun h=>⟨h.1,h.2,fun _ h=>by cases h⟩) (fun v fz nw _ _ h=>h)
   exact this h
  ·cases h
 ·exact h
end
open Go.RowKit
theorem M3:∀{nw:List (Nat × Bk)} {hp Ck:Nat->Option Bk},Bn hp nw=true->(∀i b,(i,b)∈nw->Ck i=none)->Bn Ck nw=true
 |[],_,_,_,_=>rfl
 |(i,b)::nw,hp,Ck,h,h'=>by
  simp only[Bn,Bool.and_eq_true,Option.isNone_iff_eq_none] at h ⊢;exact⟨⟨h' i b (by simp),h.1.2⟩,M3 h.2 fun j c hj=>h' j c (by simp[hj])⟩
section
variable {hp:Nat->Option Bk} {fz:List Nat} {nw:List (Nat × Bk)}
theorem Ez (ha:Bn hp nw=true){i:Nat}(hi:hp i≠none):An (Af hp fz) nw i=if i∈fz then (hp i).map Pd else hp i:=by
 obtain⟨h1,h2⟩:=Bg ha;rw[(Du h2).2 i (fun bx hb=>hi (h1 i bx hb)),Bq]
theorem G4 (ha:Bn hp nw=true){i:Nat}{b:Bk}(hi:(i,b)∈nw):An (Af hp fz) nw i=some b:=
 (Du (Bg ha).2).1 i b hi
theorem Kr (ha:Bn hp nw=true){i:Nat}(hi:hp i=none)(hn:∀b,(i,b) ∉ nw):An (Af hp fz) nw i=none:=by
 rw[(Du (Bg ha).2).2 i hn,Bq,hi];simp
theorem Km (ha:Bn hp nw=true){i:Nat}(hi:hp i≠none):An (Af hp fz) nw i≠none:=by
 rw[Ez ha hi];cases h:hp i with
 |none=>exact absurd h hi
 |some b=>split<;>simp
theorem Agl (b:Option Bk):(match b.map Pd with|some (.st c)=>some c|some (.ar _ c)=>some c|_=>none)=(match b with|some (.st c)=>some c|some (.ar _ c)=>some c|_=>none):=by
 cases b with
 |none=>rfl
 |some b=>cases b<;>rfl
theorem ZX (b:Option Bk):(match b.map Pd with|some (.ar _ c)=>some c|_=>none)=(match b with|some (.ar _ c)=>some c|_=>none):=by
 cases b with
 |none=>rfl
 |some b=>cases b<;>rfl
theorem KB (ha:Bn hp nw=true){i:Nat}(hi:hp i≠none):rd (An (Af hp fz) nw) i=rd hp i:=by
 unfold rd;rw[Ez ha hi];by_cases h:i∈fz
 ·rw[if_pos h];exact Agl _
 ·rw[if_neg h]
theorem FT (ha:Bn hp nw=true){i:Nat}(hi:hp i≠none):Hl (An (Af hp fz) nw) i=Hl hp i:=by
 unfold Hl;rw[Ez ha hi];by_cases h:i∈fz
 ·rw[if_pos h];exact ZX _
 ·rw[if_neg h]
theorem RS {i:Nat}(hi:hp i=none):rd hp i=none:=by unfold rd;rw[hi]
theorem Iw {i:Nat}(hi:hp i=none):Hl hp i=none:=by unfold Hl;rw[hi]
theorem Arr (b:Option Bk):(b.map Pd).map Pd=b.map Pd:=by
 cases b with
 |none=>rfl
 |some b=>cases b<;>rfl
theorem QO {fx fo:List Nat}{nx no:List (Nat × Bk)} (hx:Bn hp nx=true)(ho:Bn (An (Af hp fx) nx) no=true) (MU:Bn hp no=true)
  (Pn:Bn (An (Af hp fo) no) nx=true) (h1:∀i∈fx,hp i≠none)(h2:∀i∈fo,hp i≠none):
  An (Af (An (Af hp fx) nx) fo) no=An (Af (An (Af hp fo) no) fx) nx:=by
 funext i
 by_cases hi:hp i=none
 ·by_cases GT:∃b,(i,b)∈no
  ·obtain⟨b,hb⟩:=GT
   have hnx:∀b',(i,b') ∉ nx:=fun b' Gi=>by
    have:=(Bg ho).1 i b hb;rw[G4 hx Gi] at this;cases this
   rw[G4 ho hb,Ez Pn (by rw[G4 MU hb];simp),G4 MU hb,if_neg (fun h=>h1 i h hi)]
  ·have GT:∀b,(i,b) ∉ no:=fun b hb=>GT ⟨b,hb⟩
   by_cases hnx:∃b,(i,b)∈nx
   ·obtain⟨b,hb⟩:=hnx;rw[G4 Pn hb,Ez ho (by rw[G4 hx hb];simp),G4 hx hb,if_neg (fun h=>h2 i h hi)]
   ·have hnx:∀b,(i,b) ∉ nx:=fun b hb=>hnx ⟨b,hb⟩
    rw[Kr ho (Kr hx hi hnx) GT,Kr Pn (Kr MU hi GT) hnx]
 ·rw[Ez ho (Km hx hi),Ez hx hi,Ez Pn (Km MU hi),Ez MU hi];split<;>split<;>first|rfl|rw[Arr]
end
section
variable {R:Type} {r:R} {C:Fu} {P:Program} {N:Nat} {call:Ax} {ops:Array Oper} {o x:Oper} {s:St} {K:St->Option R}
structure Tl (C:Fu) (P:Program) (ops:Array Oper) (x o:Oper):Prop where
 xo:∀d,x.dst=some d->d ∉ looks ops o
 ne:∀d,x.dst=some d->o.dst≠some d
 ox:∀d,o.dst=some d->d ∉ looks ops x
 mx:Nc C P x.op=true->Gb P o.op=false
 mo:Nc C P o.op=true->Gb P x.op=false
theorem Nm {l:List Nat}{d:Nat}(h:l.any (Nat.beq d)=false):d ∉ l:=by
 intro hm;have:l.any (Nat.beq d)=true:=List.any_eq_true.2 ⟨d,hm,Nat.beq_refl d⟩;rw[this] at h;cases h
theorem YJ (h:Z2 C P ops x o=false):Tl C P ops x o:=by
 unfold Z2 at h;simp only[Bool.or_eq_false_iff,Bool.and_eq_false_iff] at h;obtain⟨⟨⟨h1,h2⟩,h3⟩,h4⟩:=h;refine⟨fun d hd=>?_,fun d hd he=>?_,fun d hd=>?_,fun hm=>?_,fun hm=>?_⟩
 ·simp only[hd,Bool.or_eq_false_iff] at h1;exact Nm h1.1
 ·simp only[hd,he,Bool.or_eq_false_iff] at h1;rw[Nat.beq_refl] at h1;cases h1.2
 ·simp only[hd] at h2;exact Nm h2
 ·rw[hm] at h3;rcases h3 with h|h
  ·cases h
  ·exact h
 ·rw[hm] at h4;rcases h4 with h|h
  ·cases h
  ·exact h
theorem D3 {tm:Nat->PV}{d:Option Tmp}{v:PV}{l:List Nat}(h:∀i,d=some i->i ∉ l):∀t∈l,Bj tm d v t=tm t:=by
 intro t ht;cases d with
 |none=>rfl
 |some d=>exact Ai _ _ (by rintro rfl;exact h _ rfl ht)
theorem Ic {tm:Nat->PV}{d e:Option Tmp}{u v:PV}(h:∀i,d=some i->e≠some i):Bj (Bj tm d u) e v=Bj (Bj tm e v) d u:=by
 cases d with
 |none=>rfl
 |some d=>
  cases e with
  |none=>rfl
  |some e=>exact MG _ _ _ (by rintro rfl;exact h _ rfl rfl)
def NW (C:Fu)(P:Program)(o:Oper)(s:St):Prop:=(∀y∈o.op.operands.toList,∀i∈Bo (Bv s.tm y),s.hp i≠none) ∧
 (Nc C P o.op=true->Ke o.op=false->∀y∈o.op.operands.toList,∀i∈Bo (Bv s.tm y),∀c,s.hp i=some (.st c)->∀p∈c,∀k∈Am p,s.hp k≠none)
theorem F0 {tm tm':Nat->PV}(h:∀t∈looks ops o,tm t=tm' t):Fn C P ops o tm=Fn C P ops o tm':=by
 unfold Fn;rw[Ig h]
theorem SP (hw:NW C P o s)(xo:∀d,x.dst=some d->d ∉ looks ops o)(ne:∀d,x.dst=some d->o.dst≠some d)(ox:∀d,o.dst=some d->d ∉ looks ops x)(hx:Fn C P ops x s.tm=false)(ho:Fn C P ops o s.tm=false)
  (h:Da C P N call ops x s (fun s1=>Da C P N call ops o s1 K)=some r):Da C P N call ops o s (fun s1=>Da C P N call ops x s1 K)=some r:=by
 rw[H0 hx] at h;cases ex:gE C P N call ops x s with
 |none=>rw[ex] at h;cases h
 |some q=>
 obtain⟨vx,fx,nx⟩:=q;rw[ex] at h;obtain⟨hb,h1⟩:=Aj h;simp only[Bool.and_eq_true] at hb;have t1:∀t∈looks ops o,Bj s.tm x.dst vx t=s.tm t:=D3 xo;change Da C P N call ops o ⟨Bj s.tm x.dst vx,An (Af s.hp fx) nx⟩ K=some r at h1;rw[H0 (by rw[F0 t1];exact ho)] at h1
 cases eo:gE C P N call ops o ⟨Bj s.tm x.dst vx,An (Af s.hp fx) nx⟩ with
 |none=>rw[eo] at h1;cases h1
 |some q=>
 obtain⟨vo,fo,no⟩:=q;rw[eo] at h1;obtain⟨hc,h2⟩:=Aj h1;change K ⟨Bj (Bj s.tm x.dst vx) o.dst vo,An (Af (An (Af s.hp fx) nx) fo) no⟩=some r at h2;simp only[Bool.and_eq_true] at hc
 have eo':gE C P N call ops o s=some (vo,fo,no):=by
  refine S6 t1 (fun _ y hy i hi=>?_) eo
  have:=hw.1 y hy i hi;exact .inl ⟨KB hb.2 this,FT hb.2 this⟩
 have MU:Bn s.hp no=true:=M3 hc.2 fun i b hi=>by
  cases hs:s.hp i with
  |none=>rfl
  |some c=>exact absurd ((Bg hc.2).1 i b hi) (Km hb.2 (by rw[hs];simp))
 rw[H0 ho,eo']
 have Pn:Bn (An (Af s.hp fo) no) nx=true:=M3 hb.2 fun i b hi=>by
  refine Kr MU ((Bg hb.2).1 i b hi) fun c Nn=>?_
  have:=(Bg hc.2).1 i c Nn;rw[G4 hb.2 hi] at this;cases this
 have t2:∀t∈looks ops x,s.tm t=Bj s.tm o.dst vo t:=fun t ht=>(D3 ox t ht).symm
 have ex':gE C P N call ops x ⟨Bj s.tm o.dst vo,An (Af s.hp fo) no⟩=some (vx,fx,nx):=by
  refine S6 t2 (fun _ y hy i hi=>?_) ex
  by_cases hs:s.hp i=none
  ·exact .inr ⟨RS hs,Iw hs⟩
  ·exact .inl ⟨(KB MU hs).symm,(FT MU hs).symm⟩
 show Bi _ _=_;rw[hc.1,MU];show Da C P N call ops x ⟨Bj s.tm o.dst vo,An (Af s.hp fo) no⟩ K=some r;rw[H0 (by rw[←F0 t2];exact hx),ex']
 show Bi _ _=_;rw[hb.1,Pn];rw[←h2];have hfx:∀i∈fx,s.hp i≠none:=fun i hi hs=>(Pa ex).2 i hi (Iw hs)
 have hfo:∀i∈fo,s.hp i≠none:=fun i hi hs=>(Pa eo').2 i hi (Iw hs)
 show K ⟨Bj (Bj s.tm o.dst vo) x.dst vx,An (Af (An (Af s.hp fo) no) fx) nx⟩=K _;rw[Ic ne,QO hb.2 hc.2 MU Pn hfx hfo]
end
open Go.RowKit
theorem S3 {C:Fu}{P:Program}{o:Op}(h:Nc C P o=true):Gb P o=true:=by
 unfold Nc at h;split at h
 ·rfl
 ·rename_i c;unfold Gb;simp only;split at h<;>rename_i hc
  ·rw[hc]
  ·rw[hc]
  ·cases h
  ·rw[hc]
  ·cases h
 ·cases h
structure CH (N:Nat) (S:Nat->Prop) (dst:Option Nat) (hp Cb Ck Ej:Nat->Option Bk):Prop where
 keep:∀i,hp i≠none->Ck i≠none
 off:∀i,i<N->dst≠some i->(¬S i∨hp i=none)->Ck i=hp i∧Ej i=Cb i
 same:∀i,hp i=Cb i->Ck i=Ej i
 far:∀i,¬S i->hp i≠none->Ck i=hp i
section
variable {R R':Type} {Rel:Option R->Option R'->Prop} {P:Program} {N:Nat} {tm tm':Nat->PV} {hp Cb:Nat->Option Bk} {f f':Nat->Option (List PV)} {o:Oper}
theorem EQ (hn:Rel none none){t:CT}{p:PV}{K:PV->List Nat->Option R}{K':PV->List Nat->Option R'}(hf:JQ Rel f f' (Am p)) (hK:∀c m,(∀i∈m,f i≠none∧i∈Am p)->Rel (K c m) (K' c m)):Rel (K9 f t p K) (K9 f' t p K'):=by
 unfold K9;split
 ·split
  ·rename_i id es' off n;cases Nat.beq es' _
   ·exact hn
   ·exact Tk hn hf (by simp[Am]) fun c hc=>Av hn fun _=>hK _ _ (by simp[hc,Am])
  ·exact Eu hn fun _ _ _=>hK _ _ (by simp)
 ·exact Lf hn fun _=>hK _ _ (by simp)
theorem X4 (hn:Rel none none):∀{ts:List CT}{ps:List PV}{K:List PV->List Nat->Option R}{K':List PV->List Nat->Option R'},JQ Rel f f' (ps.flatMap Am)->(∀c m,(∀i∈m,f i≠none∧i∈ps.flatMap Am)->Rel (K c m) (K' c m))->Rel (Kf f ts ps K) (Kf f' ts ps K')
 |[],[],_,_,_,hK=>hK _ _ (by simp)
 |[],_::_,_,_,_,_=>hn
 |_::_,[],_,_,_,_=>hn
 |_::_,p::ps,_,_,hf,hK=>EQ hn (fun i hi=>hf i (by simp only[List.flatMap_cons,List.mem_append];exact .inl hi)) fun _ m hm=>X4 hn (fun i hi=>hf i (by simp only[List.flatMap_cons,List.mem_append];exact .inr hi)) fun _ ms Z9=>hK _ _ fun i hi=>by
   simp only[List.flatMap_cons,List.mem_append];rcases List.mem_append.1 hi with h|h
   ·exact⟨(hm i h).1,.inl (hm i h).2⟩
   ·exact⟨(Z9 i h).1,.inr (Z9 i h).2⟩
theorem P6 {S:Nat->Prop}{dst:Option Nat}{id:Nat}{b:Bk}{h0 h1:Nat->Option Bk}(hS:S id)(Bf:hp id≠none)(h:CH N S dst hp Cb h0 h1):CH N S dst hp Cb (Cg h0 id (some b)) (Cg h1 id (some b)):=by
 refine⟨fun i hi=>?_,fun i hN hd hi=>?_,fun i hi=>?_,fun i hn hi=>?_⟩
 ·by_cases e:i=id
  ·subst e;rw[Al];simp
  ·rw[Ai _ _ e];exact h.keep i hi
 ·have e:i≠id:=by
   rintro rfl
   rcases hi with hi|hi
   ·exact hi hS
   ·exact Bf hi
  rw[Ai _ _ e,Ai _ _ e];exact h.off i hN hd hi
 ·by_cases e:i=id
  ·subst e;rw[Al,Al]
  ·rw[Ai _ _ e,Ai _ _ e];exact h.same i hi
 ·rw[Ai _ _ (by rintro rfl;exact hn hS)];exact h.far i hn hi
theorem HC {S:Nat->Prop}{d:Nat}{b:Bk}{h0 h1:Nat->Option Bk}(hz:hp d=none)(h:CH N S (some d) hp Cb h0 h1):CH N S (some d) hp Cb (Cg h0 d (some b)) (Cg h1 d (some b)):=by
 refine⟨fun i hi=>?_,fun i hN hd hi=>?_,fun i hi=>?_,fun i hn hi=>?_⟩
 ·by_cases e:i=d
  ·subst e;rw[Al];simp
  ·rw[Ai _ _ e];exact h.keep i hi
 ·have e:i≠d:=by rintro rfl;exact hd rfl
  rw[Ai _ _ e,Ai _ _ e];exact h.off i hN hd hi
 ·by_cases e:i=d
  ·subst e;rw[Al,Al]
  ·rw[Ai _ _ e,Ai _ _ e];exact h.same i hi
 ·rw[Ai _ _ (by rintro rfl;exact hi hz)];exact h.far i hn hi
theorem Pu (S:Nat->Prop)(dst:Option Nat):CH N S dst hp Cb hp Cb:=⟨fun _ h=>h,fun _ _ _ _=>⟨rfl,rfl⟩,fun _ h=>h,fun _ _ _=>rfl⟩
theorem QV {S:Nat->Prop}{dst:Option Nat}{m:List Nat}(hm:∀i∈m,hp i≠none∧S i):CH N S dst hp Cb (Af hp m) (Af Cb m):=by
 refine⟨fun i hi=>fun h=>hi (Dl.1 h),fun i hN hd hi=>?_,fun i hi=>?_,fun i hn hi=>?_⟩
 ·have e:i ∉ m:=by
   intro h;rcases hi with hi|hi
   ·exact hi (hm i h).2
   ·exact (hm i h).1 hi
  rw[Bq,Bq,if_neg e,if_neg e];exact⟨rfl,rfl⟩
 ·rw[Bq,Bq,hi]
 ·rw[Bq,if_neg (fun h=>hn (hm i h).2)]
theorem HM {S:Nat->Prop}(h:∀i,S i->hp i=Cb i∨(hp i=none∧∀b,Rel none b)) {l:List Nat}(hl:∀i∈l,S i):JQ Rel (Hl hp) (Hl Cb) l:=by
 intro i hi;rcases h i (hl i hi) with h|⟨h,h'⟩
 ·left;unfold Hl;rw[h]
 ·exact .inr ⟨Iw h,h'⟩
theorem MT (hn:Rel none none){t:TypeId}{a x:PV}{K:St->Option R}{K':St->Option R'}{S:Nat->Prop}(hS:∀i,S i->hp i=Cb i∨(hp i=none∧∀b,Rel none b)) (ha:∀i∈Am a,S i)(hx:∀i∈B6 x,S i)
  (hK:∀Ck Ej,CH N S none hp Cb Ck Ej->Rel (K ⟨tm,Ck⟩) (K' ⟨tm',Ej⟩)):Rel (Uw P ⟨tm,hp⟩ t a x K) (Uw P ⟨tm',Cb⟩ t a x K'):=by
 unfold Uw;split
 ·rename_i id off;show Rel (match hp id with|some (.st c)=>_|some (.ar false c)=>_|_=>none) (match Cb id with|some (.st c)=>_|some (.ar false c)=>_|_=>none)
  have Bf:S id:=ha id (by simp[Am])
  rcases hS id Bf with h|⟨h,hb⟩
  ·rw[←h];split
   ·rename_i c hc;exact Av hn fun _=>K0 hn fun _=>hK _ _ (P6 Bf (by rw[hc];simp) (Pu _ _))
   ·rename_i c hc;refine Av hn fun _=>X4 hn (HM hS fun i hi=>hx i ?_) fun _ m hm=>Av hn fun _=>hK _ _ (P6 Bf (by rw[hc];simp) (QV fun i hi=>⟨fun h=>(hm i hi).1 (Iw h),hx i ?_⟩))
    ·obtain⟨c,hc,hi⟩:=List.mem_flatMap.1 hi;exact Po hc hi
    ·obtain⟨c,hc,hi⟩:=List.mem_flatMap.1 (hm i hi).2;exact Po hc hi
   ·exact hn
  ·rw[h];exact hb _
 ·exact hn
theorem Vk (hn:Rel none none){es:Nat}{t:TypeId}{x:PV}{K:Nat->List PV->Option R}{K':Nat->List PV->Option R'}{S:Nat->Prop}(hS:∀i,S i->hp i=Cb i∨(hp i=none∧∀b,Rel none b)) (hx:∀i∈B6 x,S i)(hK:∀m c,Rel (K m c) (K' m c)):Rel (QD P ⟨tm,hp⟩ es t x K) (QD P ⟨tm',Cb⟩ es t x K'):=by
 unfold QD RJ;split
 ·exact Av hn fun _=>Et hn fun _=>hK _ _
 ·exact Mq hn (HM hS fun i hi=>hx i (Ov hi)) hK
 ·exact hn
theorem Si (hn:Rel none none){d:Nat}{t tx:TypeId}{b x:PV}{K:St->Option R}{K':St->Option R'}{S:Nat->Prop}(hS:∀i,S i->hp i=Cb i∨(hp i=none∧∀b,Rel none b)) (EV:hp d=Cb d)(hb:∀i∈B6 b,S i)(hx:∀i∈B6 x,S i)
  (hK:∀v Ck Ej,(∀M,CH M S (some d) hp Cb Ck Ej)->Rel (K ⟨Cg tm d v,Ck⟩) (K' ⟨Cg tm' d v,Ej⟩)):Rel (Le P N ⟨tm,hp⟩ d t tx b x K) (Le P N ⟨tm',Cb⟩ d t tx b x K'):=by
 unfold Le;split
 ·refine Av hn fun _=>?_
  cases So P tx
  rotate_left
  ·show Rel (O7 P N ⟨tm,hp⟩ d _ b x K) (O7 P N ⟨tm',Cb⟩ d _ b x K');refine Dm hn fun _ n=>Eu hn fun z _ _=>?_
   show Rel (Bi (z&&Nat.blt d N&&(hp d).isNone&&_&&_&&_) _) (Bi (z&&Nat.blt d N&&(Cb d).isNone&&_&&_&&_) _);rw[←EV];exact Av hn fun hb=>hK _ _ _ (fun M=>HC (by simp only[Bool.and_eq_true,Option.isNone_iff_eq_none] at hb;simp only[hb]) (Pu _ _))
  rw[cond_false,cond_false];refine Vk hn hS hx fun m new=>?_
  split
  ·rename_i id es off n;show Rel (match hp id with|some (.ar false c)=>Bi (Nat.beq es _&&Nat.beq off 0&&Nat.blt d N&&(hp d).isNone&&_&&_&&_&&_) _|_=>none) (match Cb id with|some (.ar false c)=>Bi (Nat.beq es _&&Nat.beq off 0&&Nat.blt d N&&(Cb d).isNone&&_&&_&&_&&_) _|_=>none)
   have Bf:S id:=hb id (by simp[B6,Am])
   rw[←EV];rcases hS id Bf with h|⟨h,TC⟩
   ·rw[←h];split
    ·rename_i c hc;exact Av hn fun hb=>hK _ _ _ (fun M=>HC (by simp only[Bool.and_eq_true,Option.isNone_iff_eq_none] at hb;simp only[hb]) (P6 Bf (by rw[hc];simp) (Pu _ _)))
    ·exact hn
   ·rw[h];exact TC _
  ·refine Eu hn fun z _ _=>?_
   show Rel (Bi (z&&Nat.blt d N&&(hp d).isNone&&_&&_&&_) _) (Bi (z&&Nat.blt d N&&(Cb d).isNone&&_&&_&&_) _);rw[←EV];exact Av hn fun hb=>hK _ _ _ (fun M=>HC (by simp only[Bool.and_eq_true,Option.isNone_iff_eq_none] at hb;simp only[hb]) (Pu _ _))
 ·exact hn
theorem RI (hn:Rel none none){d:Option Tmp}{t tx:TypeId}{b x:PV}{K:St->Option R}{K':St->Option R'}{S:Nat->Prop}(hS:∀i,S i->hp i=Cb i∨(hp i=none∧∀b,Rel none b)) (hb:∀i∈B6 b,S i)(hx:∀i∈B6 x,S i)
  (hK:∀v Ck Ej,CH N S d hp Cb Ck Ej->Rel (K ⟨Bj tm d v,Ck⟩) (K' ⟨Bj tm' d v,Ej⟩)):Rel (EO P N ⟨tm,hp⟩ d t tx b x K) (EO P N ⟨tm',Cb⟩ d t tx b x K'):=by
 unfold EO;split
 ·refine Av hn fun _=>?_
  refine Vk hn hS hx fun m new=>?_
  split
  ·rename_i id es off n;show Rel (match hp id with|some (.ar false c)=>Bi (Nat.beq es _&&_&&_) _|_=>none) (match Cb id with|some (.ar false c)=>Bi (Nat.beq es _&&_&&_) _|_=>none)
   have Bf:S id:=hb id (by simp[B6,Am])
   rcases hS id Bf with h|⟨h,TC⟩
   ·rw[←h];split
    ·rename_i c hc;exact Av hn fun _=>hK _ _ _ (P6 Bf (by rw[hc];simp) (Pu _ _))
    ·exact hn
   ·rw[h];exact TC _
  ·exact hn
 ·exact hn
def Agy (o:Oper)(tm:Nat->PV)(i:Nat):Prop:=∃x∈o.op.operands.toList,i∈Bo (Bv tm x)
def Ro (o:Oper)(tm:Nat->PV)(hp:Nat->Option Bk)(i:Nat):Prop:=Agy o tm i∨Ke o.op=false∧∃id c,Agy o tm id∧hp id=some (.st c)∧∃p∈c,i∈Am p
theorem VZ (hn:Rel none none){mv:Bool}{t:CT}{p:PV}{K:PV->List Nat->List Nat->Option R}{K':PV->List Nat->List Nat->Option R'}{S:Nat->Prop}(hS:∀i,S i->hp i=Cb i∨(hp i=none∧∀b,Rel none b)) (hp_:∀i∈Am p,S i)
  (hK:∀c m x,(∀i∈m++x,hp i≠none∧S i)->Rel (K c m x) (K' c m x)):Rel (VI mv hp t p K) (VI mv Cb t p K'):=by
 have frz:∀{t:CT} {p:PV},(∀i∈Am p,S i)->Rel (K9 (Hl hp) t p fun c m=>K c m []) (K9 (Hl Cb) t p fun c m=>K' c m []):=fun h=>EQ hn (HM hS h) fun c m hm=>hK _ _ _ fun i hi=>by
  rw[List.append_nil] at hi;exact⟨fun e=>(hm i hi).1 (Iw e),h i (hm i hi).2⟩
 unfold VI;split
 ·rename_i es;cases mv<;>simp only[cond_true,cond_false]
  ·exact frz hp_
  ·split
   ·rename_i id es' off n;rcases hS id (hp_ id (by simp[Am])) with h|⟨h,hb⟩
    ·rw[←h];split
     ·rename_i c hc;cases (Nat.beq es' es&&Nat.beq off 0)<;>simp only[cond_true,cond_false]
      ·exact frz hp_
      ·exact Av hn fun _=>hK _ _ _ fun i hi=>by
        simp only[List.nil_append,List.mem_singleton] at hi;subst hi;exact⟨by rw[hc];simp,hp_ i (by simp[Am])⟩
     ·exact frz hp_
    ·rw[h]
     have:(K9 (Hl hp) (.sl es) (.view id es' off n) fun c m=>K c m [])=none:=by
      unfold K9;simp only;cases Nat.beq es' es
      ·rfl
      ·simp only[cond_true,Iw h,Dk]
     show Rel (K9 (Hl hp) (.sl es) (.view id es' off n) fun c m=>K c m []) _
     rw[this];exact hb _
   ·refine Eu hn fun z n c=>?_
    cases z
    ·exact hK _ _ _ (by simp)
    ·exact hK _ _ _ (by simp)
 ·exact Lf hn fun _=>hK _ _ _ (by simp)
theorem Nl (hn:Rel none none){mv:Bool}{S:Nat->Prop}(hS:∀i,S i->hp i=Cb i∨(hp i=none∧∀b,Rel none b)):∀{ts:List CT}{ps:List PV}{K:List PV->List Nat->List Nat->Option R}{K':List PV->List Nat->List Nat->Option R'},(∀p∈ps,∀i∈Am p,S i) ->
  (∀c m x,(∀i∈m++x,hp i≠none∧S i)->Rel (K c m x) (K' c m x))->Rel (Vu mv hp ts ps K) (Vu mv Cb ts ps K')
 |[],[],_,_,_,hK=>hK _ _ _ (by simp)
 |[],_::_,_,_,_,_=>hn
 |_::_,[],_,_,_,_=>hn
 |_::_,p::ps,_,_,hp_,hK=>VZ hn hS (hp_ p (by simp)) fun _ m x hm=>Nl hn hS (fun q hq=>hp_ q (by simp[hq])) fun _ ms xs Z9=>hK _ _ _ fun i hi=>by
   simp only[List.mem_append] at hi hm Z9;rcases hi with (hi|hi)|(hi|hi)
   ·exact hm i (.inl hi)
   ·exact Z9 i (.inl hi)
   ·exact hm i (.inr hi)
   ·exact Z9 i (.inr hi)
theorem NF (hn:Rel none none){C:Fu}{f:FuncId}{i:Nat}{t:TypeId}{p:PV}{K:PV->List Nat->List Nat->List Fl->Option R}{K':PV->List Nat->List Nat->List Fl->Option R'}{S:Nat->Prop}(hS:∀i,S i->hp i=Cb i∨(hp i=none∧∀b,Rel none b))
  (hp_:∀i∈Bo p,S i)(hc:∀i∈Bo p,∀c,Cb i=some (.st c)->∀q∈c,∀k∈Am q,S k)
  (hK:∀v m x l,(∀i∈m++x++l.flatMap Fl.ids,hp i≠none∧S i)->Rel (K v m x l) (K' v m x l)):Rel (Ue C P f hp i t p K) (Ue C P f Cb i t p K'):=by
 unfold Ue;split
 ·split
  ·rename_i id off;have Bf:S id:=hp_ id (by simp[Bo,B6,Am])
   rcases hS id Bf with h|⟨h,hb⟩
   ·rw[h];split
    ·rename_i c AU;refine Av hn fun _=>Nl hn hS (fun q hq k hk=>hc id (by simp[Bo,B6,Am]) c AU q (List.mem_of_mem_drop (List.mem_of_mem_take hq)) k hk) fun cs m x hm=>hK _ _ _ _ fun k hk=>?_
     rcases List.mem_append.1 hk with hk|hk
     ·exact hm k hk
     ·simp only[List.flatMap_cons,List.flatMap_nil,Fl.ids,List.append_nil,List.mem_singleton] at hk;subst hk;exact⟨by rw[h,AU];simp,Bf⟩
    ·exact hn
   ·rw[h];exact hb _
  ·exact hn
 ·cases C.lnd f i
  ·cases B0 P t
   ·exact Nl hn hS (fun q hq k hk=>by
     simp at hq;subst hq;exact hp_ k (Ia hk)) fun cs m x hm=>Be hn fun _ _ _=>Ef hn (hK _ _ _ _ (by simpa using hm))
   ·refine Hk hn fun cs Xt=>Nl hn hS (fun q hq k hk=>hp_ k ?_) fun cs m x hm=>hK _ _ _ _ (by simpa using hm)
    subst Xt;exact List.mem_flatMap.2 ⟨q,hq,hk⟩
  ·refine Cs hn fun e he=>?_
   unfold Aay;split
   ·rename_i id es' off n;have Bf:S id:=hp_ id (by simp[Bo,B6,Am])
    rcases hS id Bf with h|⟨h,hb⟩
    ·rw[h];split
     ·rename_i c AU;refine Av hn fun _=>hK _ _ _ _ fun k hk=>?_
      simp only[List.nil_append,List.flatMap_cons,List.flatMap_nil,Fl.ids,List.append_nil,List.mem_singleton] at hk;subst hk;exact⟨by rw[h,AU];simp,Bf⟩
     ·exact hn
    ·rw[h];exact hb _
   ·exact Eu hn fun _ _ _=>Av hn fun _=>hK _ _ _ _ (by simp[Fl.ids])
theorem Yb (hn:Rel none none){C:Fu}{f:FuncId}{S:Nat->Prop}(hS:∀i,S i->hp i=Cb i∨(hp i=none∧∀b,Rel none b)):∀{ts:List TypeId}{ps:List PV}{i:Nat}{K:List PV->List Nat->List Nat->List Fl->Option R}{K':List PV->List Nat->List Nat->List Fl->Option R'},
  (∀p∈ps,∀i∈Bo p,S i)->(∀p∈ps,∀i∈Bo p,∀c,Cb i=some (.st c)->∀q∈c,∀k∈Am q,S k) ->
  (∀v m x l,(∀i∈m++x++l.flatMap Fl.ids,hp i≠none∧S i)->Rel (K v m x l) (K' v m x l))->Rel (DH C P f hp i ts ps K) (DH C P f Cb i ts ps K')
 |[],[],_,_,_,_,_,hK=>hK _ _ _ _ (by simp)
 |[],_::_,_,_,_,_,_,_=>hn
 |_::_,[],_,_,_,_,_,_=>hn
 |_::_,p::ps,_,_,_,hp_,hc,hK=>NF hn hS (hp_ p (by simp)) (hc p (by simp)) fun _ m x l hm=>Yb hn hS (fun q hq=>hp_ q (by simp[hq])) (fun q hq=>hc q (by simp[hq])) fun _ ms xs ls Z9=>hK _ _ _ _ fun i hi=>by
   simp only[List.mem_append,List.flatMap_append] at hi hm Z9;rcases hi with ((hi|hi)|(hi|hi))|(hi|hi)
   ·exact hm i (.inl (.inl hi))
   ·exact Z9 i (.inl (.inl hi))
   ·exact hm i (.inl (.inr hi))
   ·exact Z9 i (.inl (.inr hi))
   ·exact hm i (.inr hi)
   ·exact Z9 i (.inr hi)
theorem Abg (hn:Rel none none){t:Nat}{ct:CT}{was p:PV}{K:Nat->PV->List (Nat × Bk)->Option R} {K':Nat->PV->List (Nat × Bk)->Option R'} (hK:∀t c b,(∀q∈b,∃k,q.1=OE N k)->Rel (K t c b) (K' t c b)):Rel (WR N t ct was p K) (WR N t ct was p K'):=by
 unfold WR;split
 ·split
  ·exact SV hn fun _ _=>hK _ _ _ (by intro q hq;simp only[List.mem_singleton] at hq;subst hq;exact⟨t,rfl⟩)
  ·exact Eu hn fun _ _ _=>hK _ _ _ (by simp)
 ·exact Lf hn fun _=>hK _ _ _ (by simp)
theorem ED (hn:Rel none none):∀{cts:List CT}{ws ps:List PV}{t:Nat}{K:Nat->List PV->List (Nat × Bk)->Option R} {K':Nat->List PV->List (Nat × Bk)->Option R'},(∀t c b,(∀q∈b,∃k,q.1=OE N k)->Rel (K t c b) (K' t c b))->Rel (EL N t cts ws ps K) (EL N t cts ws ps K')
 |[],[],_,_,_,_,hK=>Ef hn (hK _ _ _ (by simp))
 |[],_::_,_,_,_,_,_=>hn
 |_::_,[],_,_,_,_,_=>hn
 |_::_,_::_,_,_,_,_,hK=>Be hn fun _ _ _=>Abg hn fun _ _ b hb=>ED hn fun _ _ bs CS=>hK _ _ _ fun q hq=>by
   rcases List.mem_append.1 hq with h|h
   ·exact hb q h
   ·exact CS q h
theorem Qj (hn:Rel none none){S:Nat->Prop}{dst:Option Nat}:∀{l:List Fl}{ro:List (List PV)} {t:Nat}{h0 h1:Nat->Option Bk}{K:(Nat->Option Bk)->List (Nat × Bk)->Option R} {K':(Nat->Option Bk)->List (Nat × Bk)->Option R'},
  CH N S dst hp Cb h0 h1->(∀i∈l.flatMap Fl.ids,hp i≠none∧S i∧hp i=Cb i)->(∀h0' GU b,CH N S dst hp Cb h0' GU->(∀q∈b,∃k,q.1=OE N k)->Rel (K h0' b) (K' GU b))->Rel (R7 N t l ro h0 K) (R7 N t l ro h1 K')
 |[],_,_,_,_,_,_,hT,_,hK=>Ef hn (hK _ _ _ hT (by simp))
 |.var id off cts ws::l,ro,t,h0,h1,K,K',hT,hl,hK=>by
  unfold R7;refine Be hn fun cs ro _=>ED hn fun t' cs' bs CS=>?_
  have Bf:=hl id (by simp[Fl.ids])
  rw[←hT.same id Bf.2.2];split
  ·exact Qj hn (P6 Bf.2.1 Bf.1 hT) (fun i hi=>hl i (by simp only[List.flatMap_cons,List.mem_append];exact .inr hi)) fun h0' GU b hT' hb=>hK _ _ _ hT' fun q hq=>by
    rcases List.mem_append.1 hq with h|h
    ·exact CS q h
    ·exact hb q h
  ·exact hn
 |.row id::l,ro,t,h0,h1,K,K',hT,hl,hK=>by
  unfold R7;have Bf:=hl id (by simp[Fl.ids])
  exact Be hn fun cs ro _=>Qj hn (P6 Bf.2.1 Bf.1 hT) (fun i hi=>hl i (by simp only[List.flatMap_cons,List.mem_append];exact .inr hi)) hK
 |.none::l,ro,t,h0,h1,K,K',hT,hl,hK=>by
  unfold R7;exact Be hn fun cs ro _=>Qj hn hT (fun i hi=>hl i (by simp only[List.flatMap_cons,List.mem_append];exact .inr hi)) hK
theorem KY (h:∀i,N<=i->hp i=Cb i)(hN:0<N):∀k t,KL N hp k t=KL N Cb k t
 |0,_=>rfl
 |k+1,t=>by
  unfold KL;rw[h (OE N t) (by unfold OE;exact Nat.le_mul_of_pos_right _ (by omega)),KY h hN k (t+1)]
theorem FS {h0 h1:Nat->Option Bk}:∀{nw:List (Nat × Bk)},(∀q∈nw,h0 q.1=h1 q.1)->Bn h0 nw=Bn h1 nw
 |[],_=>rfl
 |(i,b)::nw,h=>by
  unfold Bn;rw[h (i,b) (by simp),FS (fun q hq=>h q (by simp[hq]))]
theorem Z1 {S:Nat->Prop}{dst:Option Nat}{h0 h1:Nat->Option Bk}(hT:CH N S dst hp Cb h0 h1):∀{nw:List (Nat × Bk)} {g0 g1:Nat->Option Bk},CH N S dst hp Cb g0 g1->(∀q∈nw,N<=q.1∨dst=some q.1)->(∀q∈nw,hp q.1=none)->CH N S dst hp Cb (An g0 nw) (An g1 nw)
 |[],_,_,h,_,_=>h
 |(i,b)::nw,g0,g1,h,hi,hz=>by
  refine Z1 hT (nw:=nw) ⟨fun k hk=>?_,fun k hN hd hk=>?_,fun k hk=>?_,fun k hn hk=>?_⟩ (fun q hq=>hi q (by simp[hq])) (fun q hq=>hz q (by simp[hq]))
  ·by_cases e:k=i
   ·subst e;rw[Al];simp
   ·rw[Ai _ _ e];exact h.keep k hk
  ·have e:k≠i:=by
    rintro rfl
    rcases hi (k,b) (by simp) with q|q
    ·simp only at q;omega
    ·exact hd q
   rw[Ai _ _ e,Ai _ _ e];exact h.off k hN hd hk
  ·by_cases e:k=i
   ·subst e;rw[Al,Al]
   ·rw[Ai _ _ e,Ai _ _ e];exact h.same k hk
  ·rw[Ai _ _ (by rintro rfl;exact hk (hz (k,b) (by simp)))];exact h.far k hn hk
theorem Ajv {S:Nat->Prop}{dst:Option Nat}{m x:List Nat}(hm:∀i∈m++x,hp i≠none∧S i):CH N S dst hp Cb (Ox (Af hp m) x) (Ox (Af Cb m) x):=by
 refine⟨fun i hi h=>?_,fun i hN hd hi=>?_,fun i hi=>?_,fun i hn hi=>?_⟩
 ·rw[E4] at h;have h1:Af hp m i≠none:=fun e=>hi (Dl.1 e)
  split at h
  ·cases hq:Af hp m i with
   |none=>exact h1 hq
   |some b=>rw[hq] at h;cases h
  ·exact h1 h
 ·have e:i ∉ m∧i ∉ x:=by
   refine⟨fun h=>?_,fun h=>?_⟩<;>(rcases hi with hi|hi)
   ·exact hi (hm i (by simp[h])).2
   ·exact (hm i (by simp[h])).1 hi
   ·exact hi (hm i (by simp[h])).2
   ·exact (hm i (by simp[h])).1 hi
  rw[E4,E4,if_neg e.2,if_neg e.2,Bq,Bq,if_neg e.1,if_neg e.1];exact⟨rfl,rfl⟩
 ·rw[E4,E4,Bq,Bq,hi]
 ·rw[E4,Bq,if_neg (fun h=>hn (hm i (by simp[h])).2),if_neg (fun h=>hn (hm i (by simp[h])).2)]
theorem JZ (hn:Rel none none){C:Fu}{call:Ax}{f:FuncId}{c:Call}{K:St->Option R}{K':St->Option R'}{S:Nat->Prop}(Hp:c.args.toList.map (Bv tm)=c.args.toList.map (Bv tm')) (hS:∀i,S i->hp i=Cb i∨(hp i=none∧∀b,Rel none b))
  (hp_:∀p∈c.args.toList.map (Bv tm'),∀i∈Bo p,S i) (hc:∀p∈c.args.toList.map (Bv tm'),∀i∈Bo p,∀c,Cb i=some (.st c)->∀q∈c,∀k∈Am q,S k)
  (EV:∀d,o.dst=some d->hp d=Cb d)(hNN:∀i,N<=i->hp i=Cb i)
  (hK:∀v Ck Ej,CH N S o.dst hp Cb Ck Ej->Rel (K ⟨Bj tm o.dst v,Ck⟩) (K' ⟨Bj tm' o.dst v,Ej⟩)):Rel (Vn C P N call ⟨tm,hp⟩ o f c K) (Vn C P N call ⟨tm',Cb⟩ o f c K'):=by
 unfold Vn;simp only[Hp];refine Yb hn hS hp_ hc fun vs m x l hm=>Av hn fun hb=>EN hn fun rv ro=>Vj hn fun ws bs CS=>Av hn fun _=>?_
 simp only[Bool.and_eq_true] at hb;have hN:0<N:=Nat.lt_of_succ_le (Nat.le_of_ble_eq_true hb.1.2);rw[KY hNN hN];by_cases VB:∃i∈l.flatMap Fl.ids,hp i≠Cb i
 ·obtain⟨i,hi,Ec⟩:=VB;obtain⟨h1,h2⟩:=hm i (List.mem_append.2 (.inr hi));rcases hS i h2 with h|⟨h,_⟩
  ·exact absurd h Ec
  ·exact absurd h h1
 have hl:∀i∈l.flatMap Fl.ids,hp i≠none∧S i∧hp i=Cb i:=fun i hi=>⟨(hm i (List.mem_append.2 (.inr hi))).1,(hm i (List.mem_append.2 (.inr hi))).2,Classical.byContradiction fun h=>VB ⟨i,hi,h⟩⟩
 have hT0:CH N S o.dst hp Cb (Ox (Af hp m) x) (Ox (Af Cb m) x):=Ajv fun i hi=>hm i (List.mem_append.2 (.inl hi))
 refine Qj hn hT0 hl fun h0 h1 bs' hT Atx=>?_
 have VT:∀q∈bs++bs',N<=q.1∨o.dst=some q.1:=by
  intro q hq;rcases List.mem_append.1 hq with hq|hq
  ·obtain⟨j,hj⟩:=CS q hq;cases hd:o.dst with
   |none=>
    rw[hd] at hj;left;rw[hj];exact Nat.le_add_right _ _
   |some d=>
    rw[hd] at hj;change q.1=d+N*j at hj;cases j with
    |zero=>right;rw[hj];simp
    |succ j=>left;rw[hj,Nat.mul_add];omega
  ·obtain⟨k,hk⟩:=Atx q hq;left;rw[hk];unfold OE;exact Nat.le_mul_of_pos_right _ (by omega)
 have V0:∀q∈bs++bs',h0 q.1=h1 q.1:=by
  intro q hq;refine hT.same q.1 ?_;rcases VT q hq with h|h
  ·exact hNN _ h
  ·exact EV _ h
 rw[FS V0]
 exact Av hn fun hb=>hK _ _ _ (Z1 hT hT VT fun q hq=>by
  cases hz:hp q.1 with
  |none=>rfl
  |some c=>exact absurd ((V0 q hq).trans ((Bg hb).1 q.1 q.2 hq)) (hT.keep q.1 (by rw[hz];simp)))
theorem H4 (hn:Rel none none){C:Fu}{call:Ax}{K:St->Option R}{K':St->Option R'}(Hp:∀x∈o.op.operands.toList,Bv tm x=Bv tm' x)
  (hS:∀i,Ro o tm' Cb i->hp i=Cb i∨(hp i=none∧∀b,Rel none b)) (EV:∀d,o.dst=some d->hp d=Cb d)(hNN:∀i,N<=i->hp i=Cb i)
  (hK:∀v Ck Ej,CH N (Ro o tm' Cb) o.dst hp Cb Ck Ej->Rel (K ⟨Bj tm o.dst v,Ck⟩) (K' ⟨Bj tm' o.dst v,Ej⟩)):Rel (Qv C P N call ⟨tm,hp⟩ o K) (Qv C P N call ⟨tm',Cb⟩ o K'):=by
 unfold Qv;have hl:∀x∈o.op.operands.toList,∀i∈Bo (Bv tm' x),Ro o tm' Cb i:=fun x hx i hi=>.inl ⟨x,hx,hi⟩
 have On:Ke o.op=false->∀x∈o.op.operands.toList,∀i∈Bo (Bv tm' x),∀c,Cb i=some (.st c)->∀q∈c,∀k∈Am q,Ro o tm' Cb k:=fun ha x hx i hi c hc q hq k hk=>.inr ⟨ha,i,c,⟨x,hx,hi⟩,hc,q,hq,hk⟩
 generalize hLd:Ro o tm' Cb=S at *
 generalize hop:o.op=op at *
 split
 ·rename_i t x y;simp only[Hp x (by simp[Op.operands]),Hp y (by simp[Op.operands])]
  refine Av hn fun hd=>MT (N:=N) hn hS (fun i hi=>hl x (by simp[Op.operands]) i (Ia hi)) (fun i hi=>hl y (by simp[Op.operands]) i (Ew hi)) fun Ck Ej hh=>?_
  have hd':=Option.isNone_iff_eq_none.1 hd;have:=hK .top Ck Ej (by rw[hd'];exact hh)
  rw[hd'] at this;exact this
 ·rename_i c
  have H5:∀x∈c.args.toList,x∈(Op.call c).operands.toList:=by
   intro x hx;simp only[Op.operands,Call.operands,Array.toList_append,List.mem_append];exact .inr hx
  split
  ·rename_i hc;refine Cs hn fun d hd=>Be hn fun x _ hx=>Be hn fun y _ hy=>Ef hn (Be hn fun _ _ _=>Be hn fun _ _ _=>?_)
   subst hy;have UD:=H5 x (by rw[hx];simp)
   have hym:=H5 y (by rw[hx];simp)
   simp only[Hp x UD,Hp y hym];refine Si hn hS (EV d hd) (fun i hi=>hl x UD i (Ew hi)) (fun i hi=>hl y hym i (Ew hi)) fun v Ck Ej hh=>?_
   have:=hK v Ck Ej (by rw[hd];exact hh N)
   rw[hd] at this;exact this
  ·rename_i hc;refine Be hn fun x _ hx=>Be hn fun y _ hy=>Ef hn (Be hn fun _ _ _=>Be hn fun _ _ _=>?_)
   subst hy;have UD:=H5 x (by rw[hx];simp)
   have hym:=H5 y (by rw[hx];simp)
   simp only[Hp x UD,Hp y hym];exact RI hn hS (fun i hi=>hl x UD i (Ew hi)) (fun i hi=>hl y hym i (Ew hi)) hK
  ·rename_i f hcf;refine JZ hn (List.map_congr_left fun x hx=>Hp x (H5 x hx)) hS (fun p hp i hi=>?_) (fun p hp i hi=>?_) EV hNN hK
   ·obtain⟨x,hx,rfl⟩:=List.mem_map.1 hp;exact hl x (H5 x hx) i hi
   ·obtain⟨x,hx,rfl⟩:=List.mem_map.1 hp;exact On (by simp only[Ke,hcf]) x (H5 x hx) i hi
  ·exact hn
 ·exact hn
theorem AQ (hn:Rel none none){C:Fu}{call:Ax}{K:St->Option R}{K':St->Option R'}(Hp:∀x∈o.op.operands.toList,Bv tm x=Bv tm' x)(hK:∀v Ck,(∀i,hp i≠none->Ck i≠none)->Rel (K ⟨Bj tm o.dst v,Ck⟩) (K' ⟨Bj tm' o.dst v,Ck⟩)):Rel (Qv C P N call ⟨tm,hp⟩ o K) (Qv C P N call ⟨tm',hp⟩ o K'):=
 H4 hn Hp (fun _ _=>.inl rfl) (fun _ _=>rfl) (fun _ _=>rfl) fun v Ck Ej hT=>by
  have:Ck=Ej:=funext fun i=>hT.same i rfl
  subst this;exact hK v Ck hT.keep
end
section
variable {R:Type} {r:R} {C:Fu} {P:Program} {N:Nat} {call:Ax} {ops:Array Oper} {o x:Oper} {s:St} {K:St->Option R}
theorem HS {tm:Nat->PV}{hp Ck:Nat->Option Bk}{tm':Nat->PV}{q:Pq}(hm:Gb P o.op=false)(ht:∀t∈looks ops o,tm t=tm' t)(h:gE C P N call ops o ⟨tm,hp⟩=some q):gE C P N call ops o ⟨tm',Ck⟩=some q:=
 S6 (s:=⟨tm,hp⟩) (s':=⟨tm',Ck⟩) ht (fun h=>by rw[hm] at h;cases h) h
theorem Vl {tm:Nat->PV}{hp:Nat->Option Bk}(hm:Gb P o.op=false)(h:Da C P N call ops o ⟨tm,hp⟩ K=some r):
  ∃v nw,gE C P N call ops o ⟨tm,hp⟩=some (v,[],nw)∧Fe N o.dst=true∧Bn hp nw=true∧(∀p∈nw,o.dst=some p.1)∧K ⟨Bj tm o.dst v,An hp nw⟩=some r:=by
 have hM:Nc C P o.op=false:=by
  cases hh:Nc C P o.op
  ·rfl
  ·rw[S3 hh] at hm;cases hm
 rw[H0 (by simp[Fn,hM])] at h
 cases e:gE C P N call ops o ⟨tm,hp⟩ with
 |none=>rw[e] at h;cases h
 |some q=>
  obtain⟨v,fz,nw⟩:=q;obtain⟨h1,h2⟩:=(Pa e).1 hm;simp only at h1 h2;subst h1;rw[e] at h;obtain⟨hb,h⟩:=Aj h;simp only[Bool.and_eq_true] at hb;exact⟨v,nw,rfl,hb.1,hb.2,h2,h⟩
theorem Yn {tm:Nat->PV}{hp:Nat->Option Bk}{v:PV}{nw:List (Nat × Bk)} (hm:Gb P o.op=false)(e:gE C P N call ops o ⟨tm,hp⟩=some (v,[],nw)) (hd:Fe N o.dst=true)(ha:Bn hp nw=true)(h:K ⟨Bj tm o.dst v,An hp nw⟩=some r):Da C P N call ops o ⟨tm,hp⟩ K=some r:=by
 have hM:Nc C P o.op=false:=by
  cases hh:Nc C P o.op
  ·rfl
  ·rw[S3 hh] at hm;cases hm
 rw[H0 (by simp[Fn,hM]),e]
 show Bi _ _=_;have XX:Bn hp nw=true:=ha;rw[hd,XX];exact h
theorem Jw {hp:Nat->Option Bk}{nw:List (Nat × Bk)} (ha:Bn hp nw=true){i:Nat}(hi:∀p∈nw,p.1≠i):An hp nw i=hp i:=
 (Du (Bg ha).2).2 i fun b hb=>hi _ hb rfl
theorem YK {hp Ck:Nat->Option Bk}{nw:List (Nat × Bk)} (ha:Bn hp nw=true){g:Nat->Option Bk}(h1:∀i,(∀p∈nw,p.1≠i)->g i=Ck i) (h2:∀i,(∃p∈nw,p.1=i)->g i=An hp nw i) (XX:Bn Ck nw=true):g=An Ck nw:=by
 funext i
 by_cases h:∃p∈nw,p.1=i
 ·rw[h2 i h];obtain⟨⟨j,b⟩,hp,rfl⟩:=h;rw[(Du (Bg ha).2).1 j b hp,(Du (Bg XX).2).1 j b hp]
 ·have h':∀p∈nw,p.1≠i:=fun p hp e=>h ⟨p,hp,e⟩
  rw[h1 i h',Jw XX h']
theorem Ae3 (ap:Tl C P ops x o)(hx:Fn C P ops x s.tm=true)
  (h:Da C P N call ops x s (fun s1=>Da C P N call ops o s1 K)=some r):Da C P N call ops o s (fun s1=>Da C P N call ops x s1 K)=some r:=by
 have hm:Gb P o.op=false:=ap.mx (by unfold Fn at hx;simp only[Bool.and_eq_true] at hx;exact hx.1)
 rw[G0 hx] at h;obtain⟨tm,hp⟩:=s;have look:∀v,∀t∈looks ops o,Bj tm x.dst v t=tm t:=fun v=>D3 ap.xo
 have h1:=H4 (P:=P) (N:=N) (o:=x) (tm:=tm) (tm':=tm) (hp:=hp) (Cb:=hp) (K:=fun s1=>Da C P N call ops o s1 K) (K':=fun _=>none)
  (Rel:=fun (a:Option R)(_:Option R)=>a=some r->∃v nw,gE C P N call ops o ⟨tm,hp⟩=some (v,[],nw)∧Fe N o.dst=true∧(∀p∈nw,o.dst=some p.1)∧Bn hp nw=true) (fun h=>by cases h) (fun _ _=>rfl) (fun _ _=>.inl rfl) (fun _ _=>rfl) (fun _ _=>rfl) (fun v Ck _ hT h=>by
   obtain⟨u,nw,hu,hd,ha,hn,_⟩:=Vl hm h;refine⟨u,nw,HS hm (look v) hu,hd,hn,M3 ha fun i b hi=>?_⟩
   cases hh:hp i with
   |none=>rfl
   |some c=>exact absurd ((Bg ha).1 i b hi) (hT.keep i (by rw[hh];simp))) h
 obtain⟨v,nw,hv,hd,hn,ha⟩:=h1;refine Yn hm hv hd ha ?_;have t2:∀t∈looks ops x,tm t=Bj tm o.dst v t:=fun t ht=>(D3 ap.ox t ht).symm
 rw[G0 (by rw[←F0 t2];exact hx)]
 refine H4 (P:=P) (N:=N) (o:=x) (tm:=tm) (tm':=Bj tm o.dst v) (hp:=hp) (Cb:=An hp nw) (Rel:=fun (a b:Option R)=>a=some r->b=some r) (fun h=>by cases h) (Em t2) (fun i _=>?_) (fun d hxd=>?_) (fun i hi=>(Jw ha fun p hp e=>by have:=Mb hd (hn p hp);omega).symm) (fun u Ck Ej hT h=>?_) h
 ·by_cases hi:∃p∈nw,p.1=i
  ·obtain⟨⟨j,b⟩,Cb,rfl⟩:=hi;exact .inr ⟨(Bg ha).1 j b Cb,fun _ h=>by cases h⟩
  ·exact .inl (Jw ha fun p hp e=>hi ⟨p,hp,e⟩).symm
 ·refine (Jw ha fun p hp e=>?_).symm
  have:=hn p hp;rw[e] at this;exact ap.ne d hxd this
 ·obtain⟨v',nw',Lh,_,XX,_,h'⟩:=Vl hm h;have he:=HS (Ck:=hp) hm (look u) Lh;rw[hv] at he;simp only[Option.some.injEq,Prod.mk.injEq,true_and] at he;obtain⟨rfl,rfl⟩:=he
  have hh:Ej=An Ck nw:=by
   refine YK ha (fun i hi=>?_) (fun i hi=>?_) XX
   ·exact (hT.same i (Jw ha hi).symm).symm
   ·obtain⟨⟨j,b⟩,Cb,rfl⟩:=hi;refine (hT.off j (Mb hd (hn _ Cb)) (fun e=>ap.ne j e (hn _ Cb)) (.inr ((Bg ha).1 j b Cb))).2
  rw[hh,←Ic ap.ne];exact h'
theorem Adb (hw:NW C P o s)(ap:Tl C P ops x o)(ho:Fn C P ops o s.tm=true)
  (h:Da C P N call ops x s (fun s1=>Da C P N call ops o s1 K)=some r):Da C P N call ops o s (fun s1=>Da C P N call ops x s1 K)=some r:=by
 have hm:Gb P x.op=false:=ap.mo (by unfold Fn at ho;simp only[Bool.and_eq_true] at ho;exact ho.1)
 obtain⟨tm,hp⟩:=s;obtain⟨v,nw,hv,hd,ha,hn,h1⟩:=Vl hm h;have t1:∀t∈looks ops o,Bj tm x.dst v t=tm t:=D3 ap.xo;change Da C P N call ops o ⟨Bj tm x.dst v,An hp nw⟩ K=some r at h1;rw[G0 (by rw[F0 t1];exact ho)] at h1
 rw[G0 ho];have hMo:Nc C P o.op=true:=by unfold Fn at ho;simp only[Bool.and_eq_true] at ho;exact ho.1
 have Aht:∀i,Ro o tm hp i->hp i≠none:=by
  rintro i (⟨y,hy,hi⟩|⟨Pt,id,c,⟨y,hy,hi⟩,hc,p,Cb,hk⟩)
  ·exact hw.1 y hy i hi
  ·exact hw.2 hMo Pt y hy id hi c hc p Cb i hk
 refine H4 (P:=P) (N:=N) (o:=o) (tm:=Bj tm x.dst v) (tm':=tm) (hp:=An hp nw) (Cb:=hp) (Rel:=fun (a b:Option R)=>a=some r->b=some r) (fun h=>by cases h) (Em t1) (fun i hi=>?_) (fun d hod=>?_) (fun i hi=>Jw ha fun p hp e=>by have:=Mb hd (hn p hp);omega) (fun u Ck Ej hT h=>?_) h1
 ·refine .inl (Jw ha fun p Ck e=>Aht i hi ?_)
  rw[←e];exact (Bg ha).1 p.1 p.2 Ck
 ·refine Jw ha fun p Ck e=>?_
  have:=hn p Ck;rw[e] at this;exact ap.ne d this hod
 ·have Ls:∀p∈nw,Ck p.1=An hp nw p.1∧Ej p.1=none:=by
   intro p hp2;have GT:=(Bg ha).1 p.1 p.2 hp2;have h3:=hT.off p.1 (Mb hd (hn p hp2)) (fun e=>ap.ne p.1 (hn p hp2) e) (.inl fun hL=>Aht _ hL GT)
   exact⟨h3.1,h3.2.trans GT⟩
  have XX:Bn Ej nw=true:=M3 ha fun i b hi=>(Ls (i,b) hi).2
  refine Yn hm (HS hm (fun t ht=>(D3 ap.ox t ht).symm) hv) hd XX ?_
  have hh:Ck=An Ej nw:=by
   refine YK ha (fun i hi=>?_) (fun i hi=>?_) XX
   ·exact hT.same i (Jw ha hi)
   ·obtain⟨p,hp2,rfl⟩:=hi;exact (Ls p hp2).1
  rw[←Ic ap.ne,←hh];exact h
theorem Aor (hw:NW C P o s)(ap:Tl C P ops x o)
  (h:Da C P N call ops x s (fun s1=>Da C P N call ops o s1 K)=some r):Da C P N call ops o s (fun s1=>Da C P N call ops x s1 K)=some r:=by
 cases hx:Fn C P ops x s.tm
 ·cases ho:Fn C P ops o s.tm
  ·exact SP hw ap.xo ap.ne ap.ox hx ho h
  ·exact Adb hw ap ho h
 ·exact Ae3 ap hx h
theorem H2 (h:Pm P o.op=true):Nc C P o.op=false:=by
 unfold Pm at h;split at h
 ·rename_i ho;rw[ho];rfl
 ·rename_i ho;rw[ho];rfl
 ·cases h
def CZ (P:Program)(ops:Array Oper)(o:Oper)(tm:Nat->PV):Prop:=Pm P o.op=true∨Fs ops o tm=some false
theorem Rs {tm tm':Nat->PV}(h:∀t∈looks ops o,tm t=tm' t)(hl:CZ P ops o tm):CZ P ops o tm':=by
 rcases hl with hl|hl
 ·exact .inl hl
 ·exact .inr (by rw[←Ig h];exact hl)
theorem DA {tm:Nat->PV}(hl:CZ P ops o tm):Fn C P ops o tm=false:=by
 rcases hl with hl|hl
 ·simp[Fn,H2 hl]
 ·simp[Fn,hl]
theorem RN {q:Pq}(hl:CZ P ops o s.tm)(h:gE C P N call ops o s=some q):q.2.1=[]∧q.2.2=[]:=by
 unfold gE at h;split at h
 ·cases h
 ·rename_i hv
  have hl:Pm P o.op=true:=by
   rcases hl with hl|hl
   ·exact hl
   ·rw[hv] at hl;cases hl
  rw[H2 hl] at h;have h:UM C P N call o s=some q:=h;unfold Pm at hl;split at hl
  ·rename_i t a ho;unfold UM Yk at h;rw[ho] at h
   have:=FK (nz:=C.nz N) (P:=P) (f:=rd s.hp) (f':=rd s.hp) (g:=Hl s.hp) (g':=Hl s.hp) (t:=t) (x:=Bv s.tm a) (Rel:=fun (a b:Option Pq)=>∀q,a=some q->q.2.1=[]∧q.2.2=[])
    (K:=fun v=>some (v,[],[])) (K':=fun v=>some (v,[],[])) (fun _ h=>by cases h) (fun _ _=>.inl ⟨rfl,rfl⟩) (fun v q hq=>by cases hq;exact⟨rfl,rfl⟩)
   exact this q h
  ·rename_i src dst y ho;unfold UM Yk at h;rw[ho] at h;simp only at h;unfold AB at h;split at hl
   ·rename_i hd;rw[hd] at h;simp only at h;split at h
    ·obtain⟨_,_,h⟩:=C7 h;obtain⟨_,_,h⟩:=B3 h;cases h;exact⟨rfl,rfl⟩
    ·split at h
     ·exact Mq (f:=Hl s.hp) (f':=Hl s.hp) (K':=fun _ _=>(none:Option Pq)) (Rel:=fun (a _:Option Pq)=>a=some q->q.2.1=[]∧q.2.2=[]) (fun h=>by cases h) (fun _ _=>.inl rfl) (fun n c h=>by
       obtain⟨_,h⟩:=Aj h;obtain⟨_,_,h⟩:=B3 h;obtain⟨_,_,h⟩:=B3 h;cases h;exact⟨rfl,rfl⟩) h
     ·exact Mq (f:=Hl s.hp) (f':=Hl s.hp) (K':=fun _ _=>(none:Option Pq)) (Rel:=fun (a _:Option Pq)=>a=some q->q.2.1=[]∧q.2.2=[]) (fun h=>by cases h) (fun _ _=>.inl rfl) (fun n c h=>by
       obtain⟨_,h⟩:=Aj h;obtain⟨_,_,h⟩:=B3 h;obtain⟨_,_,h⟩:=B3 h;cases h;exact⟨rfl,rfl⟩) h
     ·cases h
    ·cases h
   ·cases hl
  ·cases hl
 ·cases h;exact⟨rfl,rfl⟩
theorem WZ {tm tm':Nat->PV}{hp:Nat->Option Bk}(h:∀t∈looks ops o,tm t=tm' t){i:Nat}(hi:Ro o tm hp i):Ro o tm' hp i:=by
 have he:=Em (ops:=ops) (o:=o) h;rcases hi with⟨y,hy,hi⟩|⟨Pt,id,c,⟨y,hy,hi⟩,hc,q⟩
 ·exact .inl ⟨y,hy,by rw[←he y hy];exact hi⟩
 ·exact .inr ⟨Pt,id,c,⟨y,hy,by rw[←he y hy];exact hi⟩,hc,q⟩
theorem Agt {hp Ck:Nat->Option Bk}{i:Nat}(h:Ck i=hp i):rd Ck i=rd hp i∧Hl Ck i=Hl hp i:=by
 unfold rd Hl;rw[h];exact⟨rfl,rfl⟩
theorem Vh {tm:Nat->PV}{hp:Nat->Option Bk}(hl:CZ P ops o tm)(h:Da C P N call ops o ⟨tm,hp⟩ K=some r):
  ∃v,gE C P N call ops o ⟨tm,hp⟩=some (v,[],[])∧Fe N o.dst=true∧K ⟨Bj tm o.dst v,hp⟩=some r:=by
 rw[H0 (DA hl)] at h;cases e:gE C P N call ops o ⟨tm,hp⟩ with
 |none=>rw[e] at h;cases h
 |some q=>
  obtain⟨v,fz,nw⟩:=q;obtain⟨h1,h2⟩:=RN hl e;simp only at h1 h2;subst h1;subst h2;rw[e] at h;obtain⟨hb,h⟩:=Aj h;simp only[Bool.and_eq_true] at hb;exact⟨v,rfl,hb.1,h⟩
theorem Yz {tm:Nat->PV}{hp:Nat->Option Bk}{v:PV}(hl:CZ P ops o tm)(e:gE C P N call ops o ⟨tm,hp⟩=some (v,[],[])) (hd:Fe N o.dst=true)(h:K ⟨Bj tm o.dst v,hp⟩=some r):Da C P N call ops o ⟨tm,hp⟩ K=some r:=by
 rw[H0 (DA hl),e];show Bi _ _=_;have ha:Bn hp []=true:=rfl;simp only[hd,ha,Bool.and_self];exact h
theorem Adj (hw:NW C P o s)(xo:∀d,x.dst=some d->d ∉ looks ops o)(ne:∀d,x.dst=some d->o.dst≠some d)(ox:∀d,o.dst=some d->d ∉ looks ops x)(hl:CZ P ops o s.tm)
  (JU:∀y∈o.op.operands.toList,∀i∈Bo (Bv s.tm y),¬Ro x s.tm s.hp i) (hx:Fn C P ops x s.tm=true)
  (h:Da C P N call ops x s (fun s1=>Da C P N call ops o s1 K)=some r):Da C P N call ops o s (fun s1=>Da C P N call ops x s1 K)=some r:=by
 rw[G0 hx] at h;obtain⟨tm,hp⟩:=s;have look:∀v,∀t∈looks ops o,Bj tm x.dst v t=tm t:=fun v=>D3 xo
 have back:∀{u:PV} {Ck:Nat->Option Bk} {q:Pq},(∀y∈o.op.operands.toList,∀i∈Bo (Bv tm y),Ck i=hp i)->gE C P N call ops o ⟨Bj tm x.dst u,Ck⟩=some q->gE C P N call ops o ⟨tm,hp⟩=some q:=
  fun hh e=>S6 (s:=⟨Bj tm x.dst _,_⟩) (s':=⟨tm,hp⟩) (look _) (fun _ y hy i hi=>.inl (Agt (hh y hy i hi))) e
 have h1:=H4 (P:=P) (N:=N) (o:=x) (tm:=tm) (tm':=tm) (hp:=hp) (Cb:=hp) (K:=fun s1=>Da C P N call ops o s1 K) (K':=fun _=>none)
  (Rel:=fun (a:Option R)(_:Option R)=>a=some r->∃v,gE C P N call ops o ⟨tm,hp⟩=some (v,[],[])∧Fe N o.dst=true) (fun h=>by cases h) (fun _ _=>rfl) (fun _ _=>.inl rfl) (fun _ _=>rfl) (fun _ _=>rfl) (fun v Ck _ hT h=>by
   obtain⟨u,hu,hd,_⟩:=Vh (Rs (fun t ht=>(look v t ht).symm) hl) h
   exact⟨u,back (fun y hy i hi=>hT.far i (JU y hy i hi) (hw.1 y hy i hi)) hu,hd⟩) h
 obtain⟨v,hv,hd⟩:=h1;refine Yz hl hv hd ?_;have t2:∀t∈looks ops x,tm t=Bj tm o.dst v t:=fun t ht=>(D3 ox t ht).symm
 rw[G0 (by rw[←F0 t2];exact hx)]
 refine H4 (P:=P) (N:=N) (o:=x) (tm:=tm) (tm':=Bj tm o.dst v) (hp:=hp) (Cb:=hp) (Rel:=fun (a b:Option R)=>a=some r->b=some r) (fun h=>by cases h) (Em t2) (fun _ _=>.inl rfl) (fun _ _=>rfl) (fun _ _=>rfl) (fun u Ck Ej hT h=>?_) h
 have e1:Ck=Ej:=funext fun i=>hT.same i rfl
 subst e1;obtain⟨v',Lh,_,h'⟩:=Vh (Rs (fun t ht=>(look u t ht).symm) hl) h
 have he:=back (fun y hy i hi=>hT.far i (fun hR=>JU y hy i hi (WZ (fun t ht=>(t2 t ht).symm) hR)) (hw.1 y hy i hi)) Lh
 rw[hv] at he;simp only[Option.some.injEq,Prod.mk.injEq,and_true] at he;subst he;rw[←Ic ne];exact h'
theorem Ad4 (xo:∀d,x.dst=some d->d ∉ looks ops o)(ne:∀d,x.dst=some d->o.dst≠some d)(ox:∀d,o.dst=some d->d ∉ looks ops x)(hl:CZ P ops x s.tm)
  (JU:∀y∈x.op.operands.toList,∀i∈Bo (Bv s.tm y),¬Ro o s.tm s.hp i) (ho:Fn C P ops o s.tm=true)
  (h:Da C P N call ops x s (fun s1=>Da C P N call ops o s1 K)=some r):Da C P N call ops o s (fun s1=>Da C P N call ops x s1 K)=some r:=by
 obtain⟨tm,hp⟩:=s;obtain⟨v,hv,hd,h1⟩:=Vh hl h;have t1:∀t∈looks ops o,Bj tm x.dst v t=tm t:=D3 xo;rw[G0 (by rw[F0 t1];exact ho)] at h1
 rw[G0 ho];refine H4 (P:=P) (N:=N) (o:=o) (tm:=Bj tm x.dst v) (tm':=tm) (hp:=hp) (Cb:=hp) (Rel:=fun (a b:Option R)=>a=some r->b=some r) (fun h=>by cases h) (Em t1) (fun _ _=>.inl rfl) (fun _ _=>rfl) (fun _ _=>rfl) (fun u Ck Ej hT h=>?_) h1
 have e1:Ck=Ej:=funext fun i=>hT.same i rfl
 subst e1;have t2:∀t∈looks ops x,tm t=Bj tm o.dst u t:=fun t ht=>(D3 ox t ht).symm
 refine Yz (Rs t2 hl) (S6 (s:=⟨tm,hp⟩) (s':=⟨Bj tm o.dst u,Ck⟩) t2 (fun _ y hy i hi=>?_) hv) hd ?_
 ·have hi:i∈Bo (Bv tm y):=by rw[Em t2 y hy];exact hi
  by_cases hn:hp i=none
  ·exact .inr ⟨RS hn,Iw hn⟩
  ·obtain⟨h3,h4⟩:=Agt (hT.far i (JU y hy i hi) hn);exact .inl ⟨h3.symm,h4.symm⟩
 ·rw[←Ic ne];exact h
def DU (P:Program)(x:Oper)(s s1:St):Prop:=(∀t,x.dst≠some t->s1.tm t=s.tm t)∧(∀i,s.hp i≠none->s1.hp i≠none)∧(Gb P x.op=false->∀i,s.hp i≠none->s1.hp i=s.hp i)
theorem Lc {tm:Nat->PV}{d:Option Tmp}{v:PV}{t:Nat}(h:d≠some t):Bj tm d v t=tm t:=by
 cases d with
 |none=>rfl
 |some d=>exact Ai _ _ (by rintro rfl;exact h rfl)
theorem Z4 {K':St->Option R}(h:Da C P N call ops x s K=some r)(hK:∀s1,DU P x s s1->K s1=some r->K' s1=some r):Da C P N call ops x s K'=some r:=by
 cases hx:Fn C P ops x s.tm
 ·rw[H0 hx] at h ⊢;cases ex:gE C P N call ops x s with
  |none=>rw[ex] at h;cases h
  |some q=>
   rw[ex] at h;obtain⟨hb,h1⟩:=Aj h;simp only[Bool.and_eq_true] at hb;show Bi _ _=_;rw[hb.1,hb.2];refine hK _ ⟨fun t ht=>Lc ht,fun i hi=>Km hb.2 hi,fun hm i hi=>?_⟩ h1
   show An (Af s.hp q.2.1) q.2.2 i=s.hp i;rw[Ez hb.2 hi,((Pa ex).1 hm).1];simp
 ·rw[G0 hx] at h ⊢
  exact AQ (P:=P) (N:=N) (o:=x) (tm:=s.tm) (tm':=s.tm) (hp:=s.hp) (Rel:=fun (a b:Option R)=>a=some r->b=some r) (fun h=>by cases h) (fun _ _=>rfl) (fun v Ck hh h=>hK _ ⟨fun t ht=>Lc ht,hh,fun hm=>by
   have hM:Nc C P x.op=true:=by unfold Fn at hx;simp only[Bool.and_eq_true] at hx;exact hx.1
   rw[S3 hM] at hm;cases hm⟩ h) h
theorem NW.keeps {s1:St}(h:NW C P o s)(ap:Tl C P ops x o)(hk:DU P x s s1):NW C P o s1:=by
 have hop:∀y∈o.op.operands.toList,Bv s1.tm y=Bv s.tm y:=fun y hy=>Em (ops:=ops) (o:=o) (fun t ht=>hk.1 t fun hd=>ap.xo t hd ht) y hy
 refine⟨fun y hy i hi=>?_,fun hM hA y hy i hi c hc p hp k hkk=>?_⟩
 ·rw[hop y hy] at hi;exact hk.2.1 i (h.1 y hy i hi)
 ·rw[hop y hy] at hi;have hi0:=h.1 y hy i hi;rw[hk.2.2 (ap.mo hM) i hi0] at hc;exact hk.2.1 k (h.2 hM hA y hy i hi c hc p hp k hkk)
theorem AL:∀(l:List Oper){s:St}{K:St->Option R},NW C P o s->(∀x∈l,Tl C P ops x o)->J9 C P N call ops l s (fun s1=>Da C P N call ops o s1 K)=some r->Da C P N call ops o s (fun s1=>J9 C P N call ops l s1 K)=some r
 |[],_,_,_,_,h=>h
 |x::l,s,K,hw,ap,h=>by
  refine Aor hw (ap x (by simp)) ?_
  refine Z4 (K:=fun s1=>J9 C P N call ops l s1 (fun s2=>Da C P N call ops o s2 K)) h fun s1 hk h1=>?_
  exact AL l (hw.keeps (ap x (by simp)) hk) (fun y hy=>ap y (List.mem_cons_of_mem _ hy)) h1
theorem O4:∀(l l':List Oper){s:St}{K:St->Option R},J9 C P N call ops (l++l') s K=J9 C P N call ops l s (fun s1=>J9 C P N call ops l' s1 K)
 |[],_,_,_=>rfl
 |x::l,l',s,K=>by
  show Da C P N call ops x s (fun s1=>J9 C P N call ops (l++l') s1 K)=Da C P N call ops x s (fun s1=>J9 C P N call ops l s1 _)
  congr 1
  funext s1
  exact O4 l l'
theorem WI {l l':List Oper}(hw:NW C P o s)(ap:∀x∈l,Tl C P ops x o)(h:J9 C P N call ops (l++o::l') s K=some r):Da C P N call ops o s (fun s1=>J9 C P N call ops (l++l') s1 K)=some r:=by
 rw[O4] at h;have:=AL l hw ap h;refine Z4 this fun s1 _ h1=>?_
 rw[O4];exact h1
end
open Go.RowKit
section
variable {R:Type} {r:R} {P:Program} {N:Nat} {w0:World} {X0:Gq} {Y:Nat->Prop} {β β':Bt} {s:St} {a:Act} {w w':World} {o:Oper} {ops:Array Oper} {C:Fu} {call:Ax} {K:St->Option R}
theorem X5 (h:Cj N w0 X0 Y β s a w){j d:Nat}(hd:(ops[j]?).bind (·.dst)=some d) {v:Value}(ht:s.tm d=.sc v):yielded ops a.tmps j=match v with | .bool b=>some b|_=>none:=by
 have B4:d<N:=by
  rcases Nat.lt_or_ge d N with h'|h'
  ·exact h'
  ·rw[h.tmo d h'] at ht;cases ht
 have hv:=h.tms d B4;rw[ht] at hv;have hv:=Us hv;have ZV:d<a.tmps.size:=by rw[h.tsz];exact B4
 have he:a.tmps[d]?=some v:=by
  rw[Array.getElem?_eq_getElem ZV];simp[ZV] at hv;rw[hv]
 unfold yielded;rw[hd];simp only[Option.bind_some,he];cases v<;>rfl
theorem Sb (h:Cj N w0 X0 Y β s a w){G:Rx}(Ie:MZ P G w0 X0)(Df:∀f args res,call f args=some res->Cw G P f args res){i:Nat}(hi:ops[i]?=some o) (hk:Da C P N call ops o s K=some r):
  ∃s',K s'=some r∧∀(next:Act->World->Prop) (Q:Exit->Act->World->Prop),(∀a' w' β',Cj N w0 X0 Y β' s' a' w'->next a' w')->wpOp P ops Q i next a w:=by
 rw[FY] at hk
 have hw:∀b,Fs ops o s.tm=some b->Region.wanted o (yielded ops a.tmps)=b:=by
  intro b hb;unfold Fs at hb;unfold Region.wanted;cases hg:o.guard with
  |none=>rw[hg] at hb;simpa using hb
  |some q=>
   obtain⟨j,want⟩:=q;rw[hg] at hb;simp only at hb ⊢;cases hd:(ops[j]?).bind (·.dst) with
   |none=>rw[hd] at hb;cases hb
   |some d=>
    rw[hd] at hb;simp only at hb;split at hb
    ·rename_i b' ht;rw[X5 h hd ht];simp at hb;rw[←hb];cases b'<;>cases want<;>rfl
    ·rename_i ht;rw[X5 h hd ht];simp at hb;rw[hb];rfl
    ·cases hb
 split at hk
 ·cases hk
 ·rename_i hv;obtain⟨s',hs',hn⟩:=RM h Ie Df hk;refine⟨s',hs',fun next Q Ab1=>?_⟩
  unfold wpOp;rw[hi];simp only[hw _ hv,if_true];exact .inl (hn next Q Ab1)
 ·rename_i hv;obtain⟨hd,hk⟩:=Aj hk;refine⟨_,hk,fun next Q Ab1=>?_⟩
  unfold wpOp;rw[hi];simp only[hw _ hv];refine Ab1 _ _ β (h.put hd (Ar.sc _) (by simp[Bo,B6,Am]))
theorem Cj.known (h:Cj N w0 X0 Y β s a w){d:Nat}(hd:s.tm d=.ub):∃b,Cj N w0 X0 Y β ⟨Cg s.tm d (.sc (.bool b)),s.hp⟩ a w:=by
 have B4:d<N:=by
  rcases Nat.lt_or_ge d N with h'|h'
  ·exact h'
  ·rw[h.tmo d h'] at hd;cases hd
 have hu:=h.tms d B4;rw[hd] at hu;have Hc:Ar w (Ct s.hp β Y) .ub (a.tmps.getD d undef):=hu
 obtain⟨b,hv⟩:∃b,a.tmps.getD d undef=.bool b:=by
  generalize a.tmps.getD d undef=x at Hc;cases Hc with
  |ub b=>exact⟨b,rfl⟩
 refine⟨b,⟨h.dfr,h.tsz,fun i hi=>?_,fun i hi=>?_,h.box,h.inj,h.blt,fun i hi=>?_,h.wfB,h.ownd,h.rngB,h.pin,h.stp,h.Yx,h.Ylt,h.fr⟩⟩
 ·show Cg s.tm d _ i=_;rw[Ai _ _ (by omega)]
  exact h.tmo i hi
 ·by_cases e:i=d
  ·subst e;show Dx _ _ _ (Cg s.tm i _ i) _;rw[Al,hv];exact Ar.sc _
  ·show Dx _ _ _ (Cg s.tm d _ i) _;rw[Ai _ _ e];exact h.tms i hi
 ·by_cases e:i=d
  ·subst e;show ∀id∈Bo (Cg s.tm i _ i),_;rw[Al];simp[Bo,B6,Am]
  ·show ∀id∈Bo (Cg s.tm d _ i),_;rw[Ai _ _ e];exact h.wfT i hi
theorem FM {x y:Option R}(h:FO x y=some r):x=some r∧y=some r:=by
 unfold FO at h;split at h
 ·rename_i e;exact⟨h,e ▸ h⟩
 ·cases h
theorem IC (h:Cj N w0 X0 Y β s a w){F:St->Option R}(hk:RA ops o s F=some r):∃s',F s'=some r∧Cj N w0 X0 Y β s' a w:=by
 unfold RA at hk;split at hk
 ·exact⟨s,hk,h⟩
 ·split at hk
  ·exact⟨s,hk,h⟩
  ·split at hk
   ·rename_i d _ ht;obtain⟨b,hb⟩:=h.known ht;obtain⟨h1,h2⟩:=FM hk;cases b
    ·exact⟨_,h2,hb⟩
    ·exact⟨_,h1,hb⟩
   ·exact⟨s,hk,h⟩
theorem Tx {G:Rx}(Ie:MZ P G w0 X0)(Df:∀f args res,call f args=some res->Cw G P f args res){Q:Exit->Act->World->Prop}(hQ:∀s' a' w' β',K s'=some r->Cj N w0 X0 Y β' s' a' w'->Q .normal a' w'):
  ∀(l:List Nat) (os:List Oper),l.length=os.length->(∀(k i:Nat),l[k]?=some i->ops[i]?=os[k]?)->∀{s:St} {a:Act} {w:World} {β:Bt},Cj N w0 X0 Y β s a w->GM C P N call ops os s K=some r->wpOps P ops Q l a w
 |[],[],_,_,s,a,w,β,h,hk=>by
  show Q .normal a w;exact hQ s a w β hk h
 |[],_::_,hl,_,_,_,_,_,_,_=>by cases hl
 |_::_,[],hl,_,_,_,_,_,_,_=>by cases hl
 |i::l,o::os,hl,hi,s,a,w,β,h,hk=>by
  rw[wpOps_cons];obtain⟨s1,hk,h⟩:=IC h hk;obtain⟨s',hs',hn⟩:=Sb h Ie Df (by simpa using hi 0 i rfl) hk
  exact hn _ _ fun a' w' β' h'=>Tx Ie Df hQ l os (by simpa using hl) (fun k j hj=>by simpa using hi (k+1) j (by simpa using hj)) h' hs'
theorem Cj.drew (h:Cj N w0 X0 Y β s a w):Cj N w0 X0 Y β s a { w with drawn:=w.drawn+1 }:=by
 have:=h.stepR (d:=none) (v:=.top) (nw:=[]) (val:=undef) (w':={ w with drawn:=w.drawn+1 }) (β':=β) rfl rfl
  ⟨rfl,rfl,rfl,⟨Nat.le_refl _,fun _ _ _=>rfl,fun _ _=>F1.refl _ _⟩,fun _ _=>rfl,by simp,by simp,by simp,by simp,by simp,.top _,by simp[Bo,B6,Am]⟩
 exact this
theorem JJ (h:Cj N w0 X0 Y β s a w){G:Rx}(Ie:MZ P G w0 X0)(Df:∀f args res,call f args=some res->Cw G P f args res){id:Nat}{Q:Exit->Act->World->Prop}
  (hk:GM C P N call ops ops.toList s K=some r)(hQ:∀s' a' w' β',K s'=some r->Cj N w0 X0 Y β' s' a' w'->Q .normal a' w'):(Code.region id ops false).wp P Q a w:=by
 refine wp_region (Tx Ie Df hQ (List.range ops.size) ops.toList (by simp) (fun k i hi=>?_) h hk)
 rw[List.getElem?_range] at hi
 ·simp at hi;subst hi;simp
 ·rcases Nat.lt_or_ge k ops.size with h'|h'
  ·exact h'
  ·rw[List.getElem?_eq_none (by simpa using h')] at hi;cases hi
def Jy (n:Nat)(listed:Array Bool):List Nat:=(List.range n).filter fun i=> !listed.getD i true
def Ail (ops:Array Oper)(listed:Array Bool)(o:Oper):Prop:=∀e∈o.after,Region.binds .any e=true->listed.getD e.on false=true
theorem testBit_or {a b j:Nat}:(a ||| b).testBit j=(a.testBit j||b.testBit j):=Nat.testBit_or a b j
theorem FI {acc:List Nat}{j:Nat}:∀(es:List Edge)(v:Nat),(es.foldl (fun s e=>bif Region.binds .any e then s ||| 2 ^ e.on ||| acc.getD e.on 0 else s) v).testBit j=true ->
  v.testBit j=true∨∃e∈es,Region.binds .any e=true∧(j=e.on∨(acc.getD e.on 0).testBit j=true)
 |[],v,h=>.inl h
 |e::es,v,h=>by
  rcases FI es _ h with h|⟨e',he',h⟩
  ·cases hb:Region.binds .any e<;>simp only[hb] at h
   ·exact .inl h
   ·simp only[cond_true,Nat.testBit_or,Bool.or_eq_true] at h;rcases h with (h|h)|h
    ·exact .inl h
    ·refine .inr ⟨e,by simp,hb,.inl ?_⟩
     rw[Nat.testBit_two_pow] at h;exact (of_decide_eq_true h).symm
    ·exact .inr ⟨e,by simp,hb,.inr h⟩
  ·exact .inr ⟨e',by simp[he'],h⟩
theorem Nz {listed:Array Bool}(hc:∀(j:Nat) oj,ops[j]?=some oj->listed.getD j false=true->Ail ops listed oj):
  ∀(rest done:List Oper) (acc:List Nat),ops.toList=done++rest->acc.length=done.length ->
   (∀(k:Nat) o,done[k]?=some o->Ail ops listed o->∀j,(acc.getD k 0).testBit j=true->listed.getD j false=true) ->
   ∀(k:Nat) o,ops[k]?=some o->Ail ops listed o->∀j,((Gx rest acc).getD k 0).testBit j=true->listed.getD j false=true
 |[],done,acc,he,_,h,k,o,ho,hf,j,hj=>by
  refine h k o ?_ hf j hj;rw[List.append_nil] at he;rw[←he]
  simpa using ho
 |o'::rest,done,acc,he,hl,h,k,o,ho,hf,j,hj=>by
  refine Nz hc rest (done++[o']) _ (by rw[he];simp) (by simp[hl]) ?_ k o ho hf j hj
  intro k o ho hf j hj;rcases Nat.lt_trichotomy k done.length with B4|heq|hgt
  ·rw[List.getElem?_append_left B4] at ho;rw[List.getD_eq_getElem?_getD,List.getElem?_append_left (by omega),←List.getD_eq_getElem?_getD] at hj
   exact h k o ho hf j hj
  ·subst heq;simp at ho;subst ho;rw[←hl] at hj;simp only[List.getD_eq_getElem?_getD,List.getElem?_append_right (Nat.le_refl _),Nat.sub_self,List.getElem?_cons_zero,Option.getD_some] at hj
   have hj:(o'.after.toList.foldl (fun s e=>bif Region.binds .any e then s ||| 2 ^ e.on ||| acc.getD e.on 0 else s) 0).testBit j=true:=by
    simpa only[List.getD_eq_getElem?_getD] using hj
   rcases FI _ _ hj with h0|⟨e,hm,hb,h1⟩
   ·simp at h0
   ·have Ya:=hf e (by simpa using hm) hb
    rcases h1 with h1|h1
    ·rw[h1];exact Ya
    ·cases hd:done[e.on]? with
     |none=>
      have:acc.getD e.on 0=0:=by
       rw[List.getD_eq_getElem?_getD,List.getElem?_eq_none (by rw[hl];exact List.getElem?_eq_none_iff.1 hd)]
       rfl
      rw[this] at h1;simp at h1
     |some oe=>
      have hoe:ops[e.on]?=some oe:=by
       rw[←Array.getElem?_toList,he,List.getElem?_append_left (by
        rcases Nat.lt_or_ge e.on done.length with h'|h'
        ·exact h'
        ·rw[List.getElem?_eq_none h'] at hd;cases hd)]
       exact hd
      exact h e.on oe hd (hc e.on oe hoe Ya) j h1
  ·rw[List.getElem?_eq_none (by simp;omega)] at ho
   cases ho
theorem Ti {bs:List Nat}:∀(l:List Oper)(n:Nat),Xp C P ops bs l n=true->∀(k:Nat) o,l[k]?=some o->∀(j:Nat) x,ops[j]?=some x->j<n+k->Z2 C P ops x o=true->(bs.getD (n+k) 0).testBit j=true
 |[],_,_,k,o,ho,_,_,_,_,_=>by simp at ho
 |o'::l,n,h,k,o,ho,j,x,hx,hj,J6=>by
  simp only[Xp,Bool.and_eq_true] at h;cases k with
  |zero=>
   simp at ho;subst ho
   have:=List.all_eq_true.1 h.1 (x,j) (by
    rw[List.mem_zipIdx_iff_getElem?]
    simpa using hx)
   simp only[J6,Bool.not_true,Bool.or_false,Bool.or_eq_true,Bool.not_eq_true'] at this;rcases this with h'|h'
   ·have:Nat.blt j n=true:=Nat.ble_eq_true_of_le (by omega)
    rw[this] at h';cases h'
   ·exact h'
  |succ k=>
   have:=Ti l (n+1) h.2 k o (by simpa using ho) j x hx (by omega) J6
   rwa [show n+(k+1)=n+1+k by omega]
theorem Hn {n i:Nat}{listed:Array Bool}:i∈Jy n listed↔i<n∧listed.getD i true=false:=by
 unfold Jy;simp[List.mem_filter]
theorem Rz {n i:Nat}{listed:Array Bool}(hi:i∈Jy n listed)(K1:listed.size=n):∃l1 l2,Jy n listed=l1++i::l2∧Jy n (listed.setIfInBounds i true)=l1++l2∧∀j∈l1,j<i:=by
 obtain⟨B4,Hq⟩:=Hn.1 hi
 have hr:List.range n=List.range i++i::(List.range (n-i-1)).map (i+1 + ·):=by
  conv=>lhs;rw[show n=i+(1+(n-i-1)) by omega]
  rw[List.range_add,List.range_add];simp[Nat.add_assoc]
 refine⟨(List.range i).filter fun i=> !listed.getD i true,((List.range (n-i-1)).map (i+1 + ·)).filter fun i=> !listed.getD i true,?_,?_,fun j hj=>?_⟩
 ·unfold Jy;rw[hr,List.filter_append,List.filter_cons_of_pos (by rw[Hq];rfl)]
 ·unfold Jy;rw[hr,List.filter_append,List.filter_cons_of_neg (by simp[K1,B4])]
  congr 1
  ·refine List.filter_congr fun j hj=>?_
   rw[getD_set_ne true (by have:=List.mem_range.1 hj;omega)]
  ·refine List.filter_congr fun j hj=>?_
   obtain⟨k,_,rfl⟩:=List.mem_map.1 hj;rw[getD_set_ne true (by omega)]
 ·exact List.mem_range.1 (List.mem_filter.1 hj).1
theorem YN (h:Cj N w0 X0 Y β s a w)(o:Oper):NW C P o s:=by
 refine⟨fun y _ i hi=>Eg h y i hi,fun _ _ y _ i hi c hc p hp k hk=>h.wfB i c hc p hp k hk⟩
theorem DD (Aby:(ops.toList.zipIdx.all fun q=>q.1.after.toList.all fun e=> !Region.binds .any e||Nat.blt e.on q.2)=true) {listed:Array Bool}(inv:HeadInv .any ops ops.size listed)(hr:Region.ready .any ops listed=[]):Jy ops.size listed=[]:=by
 cases hp:Jy ops.size listed with
 |nil=>rfl
 |cons i l=>
  exfalso;have hi:i∈Jy ops.size listed:=by rw[hp];simp
  obtain⟨B4,Hq⟩:=Hn.1 hi;obtain⟨l1,l2,h1,_,h3⟩:=Rz hi inv.size
  have Ya:l1=[]:=by
   cases l1 with
   |nil=>rfl
   |cons j l1=>
    rw[hp] at h1;simp at h1;have:=h3 j (by simp)
    omega
  subst Ya
  have Av5:∀j,j<i->listed.getD j false=true:=by
   intro j hj;cases hh:listed.getD j false with
   |true=>rfl
   |false=>
    have:j∈Jy ops.size listed:=Hn.2 ⟨by omega,getD_in (by rw[inv.size];omega) hh⟩
    have hs:(Jy ops.size listed).Pairwise (· < ·):=List.Pairwise.filter _ List.pairwise_lt_range
    rw[h1] at this hs;simp at this;rcases this with e|e
    ·omega
    ·have:=(List.pairwise_cons.1 hs).1 j e;omega
  have:i∈Region.ready .any ops listed:=by
   refine mem_ready.2 ⟨Hq,ops[i],Array.getElem?_eq_getElem B4,fun e he hb=>Av5 _ ?_⟩
   have:=List.all_eq_true.1 Aby (ops[i],i) (by
    rw[List.mem_zipIdx_iff_getElem?];simp[B4])
   have:=List.all_eq_true.1 this e (Array.mem_toList_iff.2 he);simp only[hb,Bool.not_true,Bool.false_or] at this;exact Nat.lt_of_succ_le (Nat.le_of_ble_eq_true this)
  rw[hr] at this;simp at this
theorem HI {G:Rx}(Ie:MZ P G w0 X0)(Df:∀f args res,call f args=some res->Cw G P f args res)(hok:DO C P ops=true){Q:Exit->Act->World->Prop}(hQ:∀s' a' w' β',K s'=some r->Cj N w0 X0 Y β' s' a' w'->Q .normal a' w'):
  ∀(fuel:Nat) {listed:Array Bool} {s:St} {a:Act} {w:World} {β:Bt},HeadInv .any ops ops.size listed->(Jy ops.size listed).length=fuel->Cj N w0 X0 Y β s a w->J9 C P N call ops ((Jy ops.size listed).filterMap (ops[·]?)) s K=some r->wpAny P .any ops Q fuel listed a w:=by
 unfold DO at hok;simp only[Bool.and_eq_true] at hok;obtain⟨Aby,Akz⟩:=hok;intro fuel
 induction fuel with
 |zero=>
  intro listed s a w β inv hf h hk;have hp:=List.eq_nil_of_length_eq_zero hf;rw[hp] at hk;refine⟨?_,hQ s a w β hk h⟩;cases hr:Region.ready .any ops listed with
  |nil=>rfl
  |cons i l=>
   exfalso;have hi:i∈Region.ready .any ops listed:=by rw[hr];simp
   obtain⟨Hq,o,ho,_⟩:=mem_ready.1 hi;have:i∈Jy ops.size listed:=Hn.2 ⟨(Array.getElem?_eq_some_iff.1 ho).1,Hq⟩;rw[hp] at this;simp at this
 |succ fuel ih=>
  intro listed s a w β inv hf h hk;refine⟨fun hr=>?_,fun i hi=>?_⟩
  ·rw[DD Aby inv hr] at hf;cases hf
  ·obtain⟨Hq,o,ho,K6⟩:=mem_ready.1 hi;have B4:i<ops.size:=(Array.getElem?_eq_some_iff.1 ho).1;obtain⟨l1,l2,h1,h2,h3⟩:=Rz (Hn.2 ⟨B4,Hq⟩) inv.size;rw[h1,List.filterMap_append,List.filterMap_cons_some ho] at hk
   have Pt:∀x∈l1.filterMap (ops[·]?),Tl C P ops x o:=by
    intro x hx;obtain⟨j,hj,hxj⟩:=List.mem_filterMap.1 hx;refine YJ ?_;cases J6:Z2 C P ops x o with
    |false=>rfl
    |true=>
     exfalso;have CF:=Ti ops.toList 0 Akz i o (by simpa using ho) j x hxj (by have:=h3 j hj;omega) J6
     rw[Nat.zero_add] at CF;have hjl:=Nz (listed:=listed) (fun j oj hj hl=>inv.closed j oj hj hl) ops.toList [] [] (by simp) rfl (by simp) i o ho K6 j CF
     have:j∈Jy ops.size listed:=by rw[h1];simp[hj]
     have:=getD_both (Hn.1 this).2;rw[hjl] at this;cases this
   obtain⟨s',hs',hn⟩:=Sb h Ie Df ho (WI (YN h o) Pt hk);refine hn _ _ fun a' w' β' h'=>ih (inv.set hi B4) ?_ h' ?_
   ·rw[h2];rw[h1] at hf;simp at hf ⊢;omega
   ·rw[h2,List.filterMap_append];exact hs'
theorem Uq (h:Cj N w0 X0 Y β s a w){G:Rx}(Ie:MZ P G w0 X0)(Df:∀f args res,call f args=some res->Cw G P f args res)(hm:P.follows .mixedOrders=true)(hok:DO C P ops=true){Q:Exit->Act->World->Prop}
  (hk:J9 C P N call ops ops.toList s K=some r)(hQ:∀s' a' w' β',K s'=some r->Cj N w0 X0 Y β' s' a' w'->Q .normal a' w'):wpAny P .any ops Q ops.size (Array.replicate ops.size false) a { w with drawn:=w.drawn+1 }:=by
 have hp:Jy ops.size (Array.replicate ops.size false)=List.range ops.size:=by
  unfold Jy;refine List.filter_eq_self.2 fun i hi=>?_
  have:=List.mem_range.1 hi;simp[this]
 refine HI (C:=C) Ie Df hok hQ ops.size ⟨by simp,fun j oj _ hl=>(by rw[getD_replicate_false] at hl;cases hl),fun t ht ht'=>by omega⟩ (by rw[hp];simp) h.drew ?_
 rw[hp]
 have:(List.range ops.size).filterMap (ops[·]?)=ops.toList:=by
  refine List.ext_getElem? fun k=>?_
  have:∀(n:Nat),n<=ops.size->(List.range n).filterMap (ops[·]?)=ops.toList.take n:=by
   intro n
   induction n with
   |zero=>intro _;rfl
   |succ n ih=>
    intro hn;rw[List.range_succ,List.filterMap_append,ih (by omega),List.take_add_one]
    congr 1
    have:ops[n]?=some ops[n]:=Array.getElem?_eq_getElem (by omega)
    simp[this]
  rw[this ops.size (Nat.le_refl _)]
  congr 1
  exact List.take_of_length_le (by simp)
 rw[this];exact hk
theorem FX (h:Cj N w0 X0 Y β s a w){G:Rx}(Ie:MZ P G w0 X0)(Df:∀f args res,call f args=some res->Cw G P f args res)(hm:P.follows .mixedOrders=true)(hok:DO C P ops=true){id:Nat}{Q:Exit->Act->World->Prop}
  (hk:J9 C P N call ops ops.toList s K=some r)(hQ:∀s' a' w' β',K s'=some r->Cj N w0 X0 Y β' s' a' w'->Q .normal a' w'):(Code.region id ops true).wp P Q a w:=
 wp_region_any hm (Uq h Ie Df hm hok hk hQ)
end
end
section
open Go.RowKit
section
variable {R R':Type} {Rel:Option R->Option R'->Prop} {P:Program} {N:Nat} {tm tm':Nat->PV} {hp Cb:Nat->Option Bk} {o:Oper}
theorem UU (hn:Rel none none){C:Fu}{call:Ax}{K:St->Option R}{K':St->Option R'}(Pt:Ke o.op=true)(Hp:∀x∈o.op.operands.toList,Bv tm x=Bv tm' x)
  (hS:∀i,Ro o tm' Cb i->hp i=Cb i∨(hp i=none∧∀b,Rel none b)) (EV:∀d,o.dst=some d->hp d=Cb d)
  (hK:∀v Ck Ej,(∀M,CH M (Ro o tm' Cb) o.dst hp Cb Ck Ej)->Rel (K ⟨Bj tm o.dst v,Ck⟩) (K' ⟨Bj tm' o.dst v,Ej⟩)):Rel (Qv C P N call ⟨tm,hp⟩ o K) (Qv C P N call ⟨tm',Cb⟩ o K'):=by
 unfold Qv;have hl:∀x∈o.op.operands.toList,∀i∈Bo (Bv tm' x),Ro o tm' Cb i:=fun x hx i hi=>.inl ⟨x,hx,hi⟩
 generalize hLd:Ro o tm' Cb=S at *
 generalize hop:o.op=op at *
 unfold Ke at Pt;split at Pt
 ·rename_i c
  have H5:∀x∈c.args.toList,x∈(Op.call c).operands.toList:=by
   intro x hx;simp only[Op.operands,Call.operands,Array.toList_append,List.mem_append];exact .inr hx
  split at Pt
  ·rename_i hc;simp only[hc];refine Cs hn fun d hd=>Be hn fun x _ hx=>Be hn fun y _ hy=>Ef hn (Be hn fun _ _ _=>Be hn fun _ _ _=>?_)
   subst hy;have UD:=H5 x (by rw[hx];simp)
   have hym:=H5 y (by rw[hx];simp)
   simp only[Hp x UD,Hp y hym];refine Si hn hS (EV d hd) (fun i hi=>hl x UD i (Ew hi)) (fun i hi=>hl y hym i (Ew hi)) fun v Ck Ej hh=>?_
   have:=hK v Ck Ej (by rw[hd];exact hh)
   rw[hd] at this;exact this
  ·cases Pt
 ·cases Pt
theorem Mw {C:Fu}{call:Ax}(Pt:Ke o.op=true)(Hp:∀x∈o.op.operands.toList,Bv tm x=Bv tm' x)(hS:∀i,Ro o tm' Cb i->hp i=Cb i)(EV:∀d,o.dst=some d->hp d=Cb d){s1:St}
  (h:Qv C P N call ⟨tm,hp⟩ o some=some s1):∃v Ck Ej,s1=⟨Bj tm o.dst v,Ck⟩∧Qv C P N call ⟨tm',Cb⟩ o some=some ⟨Bj tm' o.dst v,Ej⟩∧∀M,CH M (Ro o tm' Cb) o.dst hp Cb Ck Ej:=by
 have:=UU (P:=P) (N:=N) (C:=C) (call:=call) (o:=o) (tm:=tm) (tm':=tm') (hp:=hp) (Cb:=Cb) (K:=some) (K':=some)
  (Rel:=fun (a b:Option St)=>∀s1,a=some s1->∃v Ck Ej,s1=⟨Bj tm o.dst v,Ck⟩∧b=some ⟨Bj tm' o.dst v,Ej⟩∧∀M,CH M (Ro o tm' Cb) o.dst hp Cb Ck Ej) (fun _ h=>by cases h) Pt Hp (fun i hi=>.inl (hS i hi)) EV
  (fun v Ck Ej hT s1 h=>by cases h;exact⟨v,Ck,Ej,rfl,rfl,hT⟩)
 exact this s1 h
end
section
variable {R R':Type} {r:R} {r':R'} {C:Fu} {P:Program} {N:Nat} {call:Ax} {ops:Array Oper} {o x:Oper} {s s1 s2:St} {K:St->Option R}
theorem Pi {tm:Nat->PV}(h:Fn C P ops o tm=true):Nc C P o.op=true:=by
 unfold Fn at h;simp only[Bool.and_eq_true] at h;exact h.1
theorem IL (h:Ke o.op=true):Nc C P o.op=true:=by
 unfold Ke at h;split at h
 ·rename_i c hc;rw[hc];split at h
  ·rename_i hcc;simp only[Nc,hcc];exact h
  ·cases h
 ·cases h
theorem Kb (h:Da C P N call ops x s K=some r):∃s1,Da C P N call ops x s some=some s1∧DU P x s s1∧(Pm P x.op=true->s1.hp=s.hp)∧K s1=some r:=by
 cases hx:Fn C P ops x s.tm
 ·rw[H0 hx] at h ⊢;cases ex:gE C P N call ops x s with
  |none=>rw[ex] at h;cases h
  |some q=>
   rw[ex] at h;obtain⟨hb,h1⟩:=Aj h;simp only[Bool.and_eq_true] at hb;refine⟨_,?_,⟨fun t ht=>Lc ht,fun i hi=>Km hb.2 hi,fun hm i hi=>?_⟩,fun hl=>?_,h1⟩
   ·show Bi _ _=_;rw[hb.1,hb.2];rfl
   ·show An (Af s.hp q.2.1) q.2.2 i=s.hp i;rw[Ez hb.2 hi,((Pa ex).1 hm).1];simp
   ·show An (Af s.hp q.2.1) q.2.2=s.hp;obtain⟨h1,h2⟩:=RN (.inl hl) ex;rw[h1,h2]
    funext i
    show Af s.hp [] i=_;rw[Bq];simp
 ·rw[G0 hx] at h ⊢
  exact AQ (P:=P) (N:=N) (o:=x) (tm:=s.tm) (tm':=s.tm) (hp:=s.hp) (K':=some) (Rel:=fun (a:Option R) (b:Option St)=>a=some r->∃s1,b=some s1∧DU P x s s1∧(Pm P x.op=true->s1.hp=s.hp)∧K s1=some r) (fun h=>by cases h) (fun _ _=>rfl) (fun v Ck hh h=>⟨_,rfl,⟨fun t ht=>Lc ht,hh,fun hm=>(by
   rw[S3 (Pi hx)] at hm;cases hm)⟩,fun hl=>(by
   have:=Pi hx;rw[H2 hl] at this;cases this),h⟩) h
theorem Py {K':St->Option R'}(h:Da C P N call ops x s some=some s1)(hk:K' s1=some r'):Da C P N call ops x s K'=some r':=by
 cases hx:Fn C P ops x s.tm
 ·rw[H0 hx] at h ⊢;cases ex:gE C P N call ops x s with
  |none=>rw[ex] at h;cases h
  |some q=>
   rw[ex] at h;obtain⟨hb,h1⟩:=Aj h;show Bi _ _=_;rw[hb];cases h1;exact hk
 ·rw[G0 hx] at h ⊢;exact AQ (P:=P) (N:=N) (o:=x) (tm:=s.tm) (tm':=s.tm) (hp:=s.hp) (K:=some) (Rel:=fun (a:Option St) (b:Option R')=>a=some s1->b=some r') (fun h=>by cases h) (fun _ _=>rfl) (fun v Ck hh h=>by cases h;exact hk) h
theorem JB {d:Nat}{t tx:TypeId}{b y:PV}(h:Le P N s d t tx b y K=some r):s.hp d=none:=by
 unfold Le at h;split at h
 ·obtain⟨_,h⟩:=Aj h;cases hI:So P tx
  ·rw[hI,cond_false] at h;refine Vk (P:=P) (tm:=s.tm) (tm':=s.tm) (hp:=s.hp) (Cb:=s.hp) (S:=fun _=>True) (K':=fun _ _=>(none:Option R)) (Rel:=fun (a:Option R) (_:Option R)=>a=some r->s.hp d=none) (fun h=>by cases h) (fun _ _=>.inl rfl) (fun _ _=>trivial) (fun m new h=>?_) h
   split at h
   ·split at h
    ·obtain⟨hb,_⟩:=Aj h;simp only[Bool.and_eq_true,Option.isNone_iff_eq_none] at hb;simp only[hb]
    ·cases h
   ·obtain⟨_,_,_,h,_⟩:=Ep h;obtain⟨hb,_⟩:=Aj h;simp only[Bool.and_eq_true,Option.isNone_iff_eq_none] at hb;simp only[hb]
  ·rw[hI,cond_true] at h;unfold O7 at h;obtain⟨_,_,_,h⟩:=C3 h;obtain⟨_,_,_,h,_⟩:=Ep h;obtain⟨hb,_⟩:=Aj h;simp only[Bool.and_eq_true,Option.isNone_iff_eq_none] at hb;simp only[hb]
 ·cases h
theorem Ae9 (hw:NW C P o s)(hwx:∀y∈x.op.operands.toList,∀i∈Bo (Bv s.tm y),s.hp i≠none) (xo:∀d,x.dst=some d->d ∉ looks ops o)(ne:∀d,x.dst=some d->o.dst≠some d)(ox:∀d,o.dst=some d->d ∉ looks ops x)
  (Cv:Ke x.op=true)(WF:Ke o.op=true)(JU:∀i,Ro x s.tm s.hp i->¬Ro o s.tm s.hp i)(hx:Fn C P ops x s.tm=true)(ho:Fn C P ops o s.tm=true)
  (h:Da C P N call ops x s (fun s1=>Da C P N call ops o s1 K)=some r):Da C P N call ops o s (fun s1=>Da C P N call ops x s1 K)=some r:=by
 obtain⟨tm,hp⟩:=s;obtain⟨s1,e1,_,_,h⟩:=Kb h;obtain⟨s2,e2,_,_,h⟩:=Kb h;rw[G0 hx] at e1
 have hSx:∀i,Ro x tm hp i->hp i≠none:=by
  rintro i (⟨y,hy,hi⟩|⟨Pt,_⟩)
  ·exact hwx y hy i hi
  ·rw[Cv] at Pt;cases Pt
 have hSo:∀i,Ro o tm hp i->hp i≠none:=by
  rintro i (⟨y,hy,hi⟩|⟨Pt,_⟩)
  ·exact hw.1 y hy i hi
  ·rw[WF] at Pt;cases Pt
 obtain⟨vx,hpx,Ada,rfl,e1',T1⟩:=Mw Cv (fun _ _=>rfl) (fun _ _=>rfl) (fun _ _=>rfl) e1
 have:Ada=hpx:=by
  rw[e1] at e1';injection e1' with q;injection q with _ q;exact q.symm
 subst this;have t1:∀t∈looks ops o,Bj tm x.dst vx t=tm t:=D3 xo;have t1o:=Em (ops:=ops) (o:=o) t1;rw[G0 (by rw[F0 t1];exact ho)] at e2
 have hRo:∀i,Ro o (Bj tm x.dst vx) Ada i↔Ro o tm hp i:=by
  intro i;constructor
  ·rintro (⟨y,hy,hi⟩|⟨Pt,_⟩)
   ·exact .inl ⟨y,hy,by rw[←t1o y hy];exact hi⟩
   ·rw[WF] at Pt;cases Pt
  ·rintro (⟨y,hy,hi⟩|⟨Pt,_⟩)
   ·exact .inl ⟨y,hy,by rw[t1o y hy];exact hi⟩
   ·rw[WF] at Pt;cases Pt
 have Ahn:∀{s:St} {o:Oper} {s2:St},Ke o.op=true->Qv C P N call s o some=some s2->∀d,o.dst=some d->s.hp d=none:=by
  intro s o s2 WF e d hd;unfold Qv at e;unfold Ke at WF;split at WF
  ·rename_i c hc;rw[hc] at e;simp only at e;split at WF
   ·rename_i hcc;rw[hcc] at e;simp only[hd,Dk] at e;obtain⟨_,_,_,e⟩:=A6 e;obtain⟨_,_,_,e⟩:=A6 e;obtain⟨_,e⟩:=C6 e;obtain⟨_,_,_,e⟩:=A6 e;obtain⟨_,_,_,e⟩:=A6 e;exact JB e
   ·cases WF
  ·cases WF
 have Ayz:∀d,o.dst=some d->hp d=none:=by
  intro d hd;have h0:=Ahn WF e2 d hd;cases hh:hp d with
  |none=>rfl
  |some b=>exact absurd h0 ((T1 0).keep d (by rw[hh];simp))
 have Apq:=Ahn Cv e1;simp only at Apq;have hoS:∀d,o.dst=some d->¬Ro x tm hp d:=fun d hd hR=>hSx d hR (Ayz d hd)
 have hxS:∀d,x.dst=some d->¬Ro o tm hp d:=fun d hd hR=>hSo d hR (Apq d hd)
 obtain⟨vo,Ayw,hpo,rfl,e3,T2⟩:=Mw (tm':=tm) (Cb:=hp) WF t1o (fun i hi=>(T1 0).far i (fun hR=>JU i hR hi) (hSo i hi)) (fun d hd=>((T1 (d+1)).off d (by omega) (fun e=>ne d e hd) (.inl (hoS d hd))).1) e2
 obtain⟨vo',Ay5,LU,e3a,e3b,T3⟩:=Mw (tm':=tm) (Cb:=hp) WF (fun _ _=>rfl) (fun _ _=>rfl) (fun _ _=>rfl) e3
 rw[e3] at e3b
 have Au5:Ay5=hpo∧LU=hpo:=by
  injection e3a with _ q1;injection e3b with q2;injection q2 with _ q3;exact⟨q1.symm,q3.symm⟩
 obtain⟨rfl,rfl⟩:=Au5;have t2:∀t∈looks ops x,tm t=Bj tm o.dst vo t:=fun t ht=>(D3 ox t ht).symm
 have t2x:=Em (ops:=ops) (o:=x) t2
 have hRx:∀i,Ro x (Bj tm o.dst vo) LU i↔Ro x tm hp i:=by
  intro i;constructor
  ·rintro (⟨y,hy,hi⟩|⟨Pt,_⟩)
   ·exact .inl ⟨y,hy,by rw[t2x y hy];exact hi⟩
   ·rw[Cv] at Pt;cases Pt
  ·rintro (⟨y,hy,hi⟩|⟨Pt,_⟩)
   ·exact .inl ⟨y,hy,by rw[←t2x y hy];exact hi⟩
   ·rw[Cv] at Pt;cases Pt
 obtain⟨vx2,A3e,Azt,e4a,e4,T4⟩:=Mw (tm':=Bj tm o.dst vo) (Cb:=LU) Cv t2x (fun i hi=>((T3 0).far i (JU i ((hRx i).1 hi)) (hSx i ((hRx i).1 hi))).symm) (fun d hd=>((T3 (d+1)).off d (by omega) (fun e=>ne d hd e) (.inl (hxS d hd))).1.symm) e1
 have hvx:Bj tm x.dst vx=Bj tm x.dst vx2∧Ada=A3e:=by
  injection e4a with q1 q2;exact⟨q1,q2⟩
 obtain⟨hvx,rfl⟩:=hvx;obtain⟨_,Qw,J5,e5a,e5b,T5⟩:=Mw (tm':=Bj tm x.dst vx) (Cb:=Ada) WF (fun _ _=>rfl) (fun _ _=>rfl) (fun _ _=>rfl) e2
 have hq:Qw=Ayw:=by injection e5a with _ q1;exact q1.symm
 subst hq;obtain⟨_,hu1,hu2,e6a,e6b,T6⟩:=Mw (tm':=Bj tm o.dst vo) (Cb:=LU) Cv (fun _ _=>rfl) (fun _ _=>rfl) (fun _ _=>rfl) e4
 have hu:hu1=Azt:=by injection e6a with _ q1;exact q1.symm
 subst hu
 have H5:Qw=hu1:=by
  funext i
  by_cases hi:Ro o tm hp i∨o.dst=some i
  ·have hxi:¬Ro x tm hp i:=by
    rcases hi with hi|hi
    ·exact fun hR=>JU i hR hi
    ·exact hoS i hi
   have hdi:x.dst≠some i:=by
    rcases hi with hi|hi
    ·exact fun e=>hxS i e hi
    ·exact fun e=>ne i e hi
   rw[(T2 0).same i ((T1 (i+1)).off i (by omega) hdi (.inl hxi)).1]
   exact ((T6 (i+1)).off i (by omega) hdi (.inl fun hR=>hxi ((hRx i).1 hR))).1.symm
  ·have hoi:¬Ro o tm hp i:=fun e=>hi (.inl e)
   have hdi:o.dst≠some i:=fun e=>hi (.inr e)
   rw[((T5 (i+1)).off i (by omega) hdi (.inl fun hR=>hoi ((hRo i).1 hR))).1]
   exact (T4 0).same i ((T3 (i+1)).off i (by omega) hdi (.inl hoi)).1.symm
 refine Py (s1:=⟨Bj tm o.dst vo,LU⟩) (by rw[G0 ho];exact e3) ?_
 refine Py (s1:=⟨Bj (Bj tm o.dst vo) x.dst vx2,hu1⟩) (by rw[G0 (by rw[←F0 t2];exact hx)];exact e4) ?_
 rw[←Ic ne,←hvx,←H5];exact h
theorem Sv (hM:Nc C P o.op=true){i:Nat}(h:Ro o s.tm s.hp i):i∈Jn C P s o:=by
 unfold Jn;rw[hM];cases hA:Ke o.op
 ·simp only[Bool.not_false,Bool.and_self,cond_true,List.mem_append];rcases h with⟨y,hy,hi⟩|⟨_,id,c,⟨y,hy,hi⟩,hc,p,hp,hk⟩
  ·exact .inl (List.mem_flatMap.2 ⟨y,hy,hi⟩)
  ·refine .inr (List.mem_flatMap.2 ⟨id,List.mem_flatMap.2 ⟨y,hy,hi⟩,?_⟩);rw[hc];exact List.mem_flatMap.2 ⟨p,hp,hk⟩
 ·simp only[Bool.not_true,Bool.and_false,cond_false,Bool.or_true,cond_true];rcases h with⟨y,hy,hi⟩|⟨hn,_⟩
  ·exact List.mem_flatMap.2 ⟨y,hy,hi⟩
  ·rw[hA] at hn;cases hn
theorem Xk (hl:Nc C P o.op=true∨Pm P o.op=true){y:Operand}(hy:y∈o.op.operands.toList){i:Nat}(h:i∈Bo (Bv s.tm y)):i∈Jn C P s o:=by
 rcases hl with hM|hl
 ·exact Sv hM (.inl ⟨y,hy,h⟩)
 ·unfold Jn;rw[H2 hl,hl];exact List.mem_flatMap.2 ⟨y,hy,h⟩
theorem LQ (ht:∀t∈looks ops o,s1.tm t=s.tm t)(hh:Nc C P o.op=true->Ke o.op=false->∀y∈o.op.operands.toList,∀i∈Bo (Bv s.tm y),s1.hp i=s.hp i):Jn C P s1 o=Jn C P s o:=by
 have he:=Em (ops:=ops) (o:=o) ht
 have hl:(o.op.operands.toList.flatMap fun y=>Bo (Bv s1.tm y))=o.op.operands.toList.flatMap fun y=>Bo (Bv s.tm y):=by
  have Aij:∀l:List Operand,(∀y∈l,Bv s1.tm y=Bv s.tm y)->(l.flatMap fun y=>Bo (Bv s1.tm y))=l.flatMap fun y=>Bo (Bv s.tm y):=by
   intro l
   induction l with
   |nil=>intro _;rfl
   |cons a l ih=>intro h;simp only[List.flatMap_cons];rw[h a (by simp),ih fun y hy=>h y (by simp[hy])]
  exact Aij _ he
 unfold Jn;simp only[hl];cases hM:(Nc C P o.op && !Ke o.op)
 ·rfl
 ·simp only[cond_true];simp only[Bool.and_eq_true,Bool.not_eq_true'] at hM
  congr 1
  have Aij:∀l:List Nat,(∀i∈l,s1.hp i=s.hp i)->(l.flatMap fun i=>match s1.hp i with|some (.st c)=>c.flatMap Am|_=>[])=l.flatMap fun i=>match s.hp i with|some (.st c)=>c.flatMap Am|_=>[]:=by
   intro l
   induction l with
   |nil=>intro _;rfl
   |cons a l ih=>intro h;simp only[List.flatMap_cons];rw[h a (by simp),ih fun y hy=>h y (by simp[hy])]
  exact Aij _ fun i hi=>by
   obtain⟨y,hy,hi⟩:=List.mem_flatMap.1 hi;exact hh hM.1 hM.2 y hy i hi
theorem Su {a b:List Nat}(h:XF a b=true){i:Nat}(ha:i∈a)(hb:i∈b):False:=by
 have:=List.all_eq_true.1 h i ha;have h2:b.any (Nat.beq i)=true:=List.any_eq_true.2 ⟨i,hb,Nat.beq_refl i⟩;rw[h2] at this;cases this
theorem XL {a b:List Nat}(h:XF a b=true):XF b a=true:=by
 refine List.all_eq_true.2 fun i hi=>?_
 cases hc:a.any (Nat.beq i)
 ·rfl
 ·obtain⟨j,hj,e⟩:=List.any_eq_true.1 hc;rw[Nat.eq_of_beq_eq_true e] at hi;exact (Su h hj hi).elim
theorem Rq:Hs C P x o=Hs C P o x:=by
 unfold Hs;cases Nc C P x.op<;>cases Nc C P o.op<;>cases Pm P x.op<;>cases Pm P o.op<;>cases Ke x.op<;>cases Ke o.op<;>rfl
structure Ja (C:Fu) (P:Program) (ops:Array Oper) (x o:Oper):Prop where
 xo:∀d,x.dst=some d->d ∉ looks ops o
 ne:∀d,x.dst=some d->o.dst≠some d
 ox:∀d,o.dst=some d->d ∉ looks ops x
 me:Nq C P x o=false∨Hs C P x o=true
theorem UG (h:Acq C P ops x o=false):Ja C P ops x o:=by
 unfold Acq at h;simp only[Bool.or_eq_false_iff] at h;obtain⟨h1,h2⟩:=h;have hT:=h1;unfold Abt at h1;simp only[Bool.or_eq_false_iff] at h1
 have a1:Z2 C P ops x o=false∨Nq C P x o=true:=by
  cases hc:Nq C P x o
  ·left;unfold Z2;unfold Nq at hc;simp only[Bool.or_eq_false_iff] at hc ⊢;exact⟨⟨⟨h1.1,h1.2⟩,hc.1⟩,hc.2⟩
  ·exact .inr rfl
 refine⟨fun d hd=>?_,fun d hd he=>?_,fun d hd=>?_,?_⟩
 ·have:=h1.1;simp only[hd,Bool.or_eq_false_iff] at this;exact Nm this.1
 ·have:=h1.1;simp only[hd,he,Bool.or_eq_false_iff] at this;rw[Nat.beq_refl] at this;cases this.2
 ·have:=h1.2;simp only[hd] at this;exact Nm this
 ·cases hc:Nq C P x o
  ·exact .inl rfl
  ·rw[hc] at h2;right
   simpa using h2
theorem Ja.apart (ap:Ja C P ops x o)(h:Nq C P x o=false):Tl C P ops x o:=by
 unfold Nq at h;simp only[Bool.or_eq_false_iff,Bool.and_eq_false_iff] at h;refine⟨ap.xo,ap.ne,ap.ox,fun hm=>?_,fun hm=>?_⟩
 ·rcases h.1 with h|h
  ·rw[hm] at h;cases h
  ·exact h
 ·rcases h.2 with h|h
  ·rw[hm] at h;cases h
  ·exact h
theorem Ja.same (ap:Ja C P ops x o)(hk:DU P x s s1)(hl:Pm P x.op=true->s1.hp=s.hp)(hM:Nc C P o.op=true)(hA:Ke o.op=false){i:Nat}(hi:s.hp i≠none):s1.hp i=s.hp i:=by
 rcases ap.me with h|h
 ·exact hk.2.2 ((ap.apart h).mo hM) i hi
 ·unfold Hs at h;rw[hA] at h;simp only[Bool.and_false,Bool.or_false,Bool.or_eq_true,Bool.and_eq_true] at h;rcases h with h|h
  ·have:=h.2;rw[H2 (C:=C) (P:=P) this] at hM;cases hM
  ·rw[hl h.2]
theorem NW.keepsS (h:NW C P o s)(ap:Ja C P ops x o)(hk:DU P x s s1)(hl:Pm P x.op=true->s1.hp=s.hp):NW C P o s1:=by
 have hop:∀y∈o.op.operands.toList,Bv s1.tm y=Bv s.tm y:=fun y hy=>Em (ops:=ops) (o:=o) (fun t ht=>hk.1 t fun hd=>ap.xo t hd ht) y hy
 refine⟨fun y hy i hi=>?_,fun hM hA y hy i hi c hc p hp k hkk=>?_⟩
 ·rw[hop y hy] at hi;exact hk.2.1 i (h.1 y hy i hi)
 ·rw[hop y hy] at hi;rw[ap.same hk hl hM hA (h.1 y hy i hi)] at hc;exact hk.2.1 k (h.2 hM hA y hy i hi c hc p hp k hkk)
theorem Ja.symm (ap:Ja C P ops x o):Ja C P ops o x:=by
 refine⟨ap.ox,fun d hd he=>ap.ne d he hd,ap.xo,?_⟩
 rcases ap.me with h|h
 ·left;unfold Nq at h ⊢;rw[Bool.or_comm];exact h
 ·right;rw[Rq];exact h
theorem Ar5 (hw:NW C P o s)(hwx:Hs C P x o=true->∀i∈Jn C P s x,s.hp i≠none)(ap:Ja C P ops x o)(hd:Hs C P x o=true->XF (Jn C P s x) (Jn C P s o)=true)
  (h:Da C P N call ops x s (fun s1=>Da C P N call ops o s1 K)=some r):Da C P N call ops o s (fun s1=>Da C P N call ops x s1 K)=some r:=by
 rcases ap.me with hm|hm
 ·exact Aor hw (ap.apart hm) h
 ·have hd:=hd hm;have hwx:=hwx hm;cases hx:Fn C P ops x s.tm
  ·cases ho:Fn C P ops o s.tm
   ·exact SP hw ap.xo ap.ne ap.ox hx ho h
   ·have hMo:=Pi ho
    have hlx:CZ P ops x s.tm:=by
     cases hl:Pm P x.op
     ·right
      have hMx:Nc C P x.op=true:=by
       unfold Hs at hm;simp only[hl,Bool.and_false,Bool.or_false,Bool.or_eq_true,Bool.and_eq_true] at hm;rcases hm with hm|hm
       ·exact hm.1
       ·exact IL hm.1
      cases hv:Fs ops x s.tm with
      |none=>
       exfalso;rw[H0 hx] at h;unfold gE at h;rw[hv] at h;cases h
      |some b=>
       cases b
       ·rfl
       ·unfold Fn at hx;rw[hMx,hv] at hx;cases hx
     ·exact .inl hl
    refine Ad4 ap.xo ap.ne ap.ox hlx (fun y hy i hi hR=>?_) ho h
    refine Su hd (Xk ?_ hy hi) (Sv hMo hR);unfold Hs at hm;simp only[Bool.or_eq_true,Bool.and_eq_true] at hm;rcases hm with (hm|hm)|hm
    ·exact .inl hm.1
    ·exact .inr hm.2
    ·exact .inl (IL hm.1)
  ·have hMx:=Pi hx;cases ho:Fn C P ops o s.tm
   ·have hlo:CZ P ops o s.tm:=by
     cases hl:Pm P o.op
     ·right
      have hMo:Nc C P o.op=true:=by
       unfold Hs at hm;simp only[hl,Bool.and_false,Bool.false_or,Bool.or_eq_true,Bool.and_eq_true] at hm;rcases hm with hm|hm
       ·exact hm.1
       ·exact IL hm.2
      cases hv:Fs ops o s.tm with
      |none=>
       exfalso;obtain⟨s1,_,hk,_,h⟩:=Kb h;have hv1:Fs ops o s1.tm=none:=by rw[Ig (fun t ht=>hk.1 t fun hd=>ap.xo t hd ht)];exact hv
       rw[H0 (by unfold Fn;rw[hv1];cases Nc C P o.op<;>rfl)] at h
       unfold gE at h;rw[hv1] at h;cases h
      |some b=>
       cases b
       ·rfl
       ·unfold Fn at ho;rw[hMo,hv] at ho;cases ho
     ·exact .inl hl
    refine Adj hw ap.xo ap.ne ap.ox hlo (fun y hy i hi hR=>?_) hx h
    refine Su hd (Sv hMx hR) (Xk ?_ hy hi);unfold Hs at hm;simp only[Bool.or_eq_true,Bool.and_eq_true] at hm;rcases hm with (hm|hm)|hm
    ·exact .inr hm.2
    ·exact .inl hm.1
    ·exact .inl (IL hm.2)
   ·have hMo:=Pi ho;unfold Hs at hm;simp only[Bool.or_eq_true,Bool.and_eq_true] at hm;rcases hm with (hm|hm)|hm
    ·rw[H2 (C:=C) (P:=P) hm.2] at hMo;cases hMo
    ·rw[H2 (C:=C) (P:=P) hm.2] at hMx;cases hMx
    ·exact Ae9 hw (fun y hy i hi=>hwx i (Xk (.inl hMx) hy hi)) ap.xo ap.ne ap.ox hm.1 hm.2 (fun i h1 h2=>Su hd (Sv hMx h1) (Sv hMo h2)) hx ho h
theorem ZD {α:Type}(a b:α)(l:List α)(f:α->Bool):(a::b::l).all f=(b::a::l).all f:=by
 simp only[List.all_cons];cases f a<;>cases f b<;>rfl
theorem Vy {bs:List (List Nat)}:∀(l:List Nat){dn dn':List (Nat × Oper × List Nat)} {s:St}{K:St->Option R},(∀f,dn.all f=dn'.all f)->Gl C P N call ops bs dn l s K=Gl C P N call ops bs dn' l s K
 |[],_,_,_,_,_=>rfl
 |i::l,dn,dn',s,K,h=>by
  unfold Gl;cases ops[i]? with
  |none=>rfl
  |some o=>
   simp only[Dk,h]
   congr 2
   funext s'
   exact Vy l fun f=>by simp only[List.all_cons,h]
theorem Y6 {bs:List Nat}{i:Nat}(hi:ops[i]?=some o):(V2 C P ops bs).getD i []=Tr C P ops bs i o:=by
 unfold V2;rw[List.getD_eq_getElem?_getD,List.getElem?_map,List.getElem?_zipIdx,Array.getElem?_toList,hi];simp
theorem Nh {bs:List Nat}{i j:Nat}:j∈Tr C P ops bs i o↔∃x,ops[j]?=some x∧Hs C P x o=true∧(Nat.blt j i&&(bs.getD i 0).testBit j)=false∧(Nat.blt i j&&(bs.getD j 0).testBit i)=false:=by
 unfold Tr;simp only[List.mem_map,List.mem_filter,Bool.and_eq_true,Bool.not_eq_true',Prod.exists];constructor
 ·rintro⟨x,k,⟨hm,⟨h1,h2⟩,h3⟩,rfl⟩
  rw[List.mem_zipIdx_iff_getElem?] at hm;exact⟨x,by simpa using hm,h1,h2,h3⟩
 ·rintro⟨x,hx,h1,h2,h3⟩
  refine⟨x,j,⟨?_,⟨h1,h2⟩,h3⟩,rfl⟩;rw[List.mem_zipIdx_iff_getElem?]
  simpa using hx
theorem Xi {sm:List (List Nat)} {i j:Nat}(h:j∈sm.getD i []):Xf C P sm s i o=Jn C P s o:=by
 unfold Xf;split
 ·rename_i e;rw[e] at h;simp at h
 ·rfl
theorem ZU {sm:List (List Nat)} {i:Nat}(h:sm.getD i []≠[]->Jn C P s1 o=Jn C P s o):Xf C P sm s1 i o=Xf C P sm s i o:=by
 unfold Xf;split
 ·rfl
 ·rename_i e;exact h (by rw[e];simp)
theorem RO {l:List Nat}{j:Nat}:l.any (Nat.beq j)=true↔j∈l:=by
 constructor
 ·intro h;obtain⟨k,hk,e⟩:=List.any_eq_true.1 h;rw[Nat.eq_of_beq_eq_true e];exact hk
 ·intro h;exact List.any_eq_true.2 ⟨j,h,Nat.beq_refl j⟩
theorem Tv {bs:List Nat}{sm:List (List Nat)} (XS:sm=V2 C P ops bs){i:Nat}(hi:ops[i]?=some o) {l':List Nat}:∀(l:List Nat){dn:List (Nat × Oper × List Nat)} {s:St}{K:St->Option R},NW C P o s ->
  (∀j∈l,j<i∧(bs.getD i 0).testBit j=false∧∀x,ops[j]?=some x->Ja C P ops x o)->Gl C P N call ops sm dn (l++i::l') s K=some r ->
  dn.all (CU C P sm s i o)=true∧Da C P N call ops o s (fun s1=>Gl C P N call ops sm ((i,o,Xf C P sm s i o)::dn) (l++l') s1 K)=some r
 |[],dn,s,K,hw,_,h=>by
  simp only[List.nil_append] at h ⊢;unfold Gl at h;rw[hi] at h;simp only[Dk] at h;obtain⟨hb,h⟩:=Aj h;simp only[Bool.and_eq_true] at hb;exact⟨hb.1,h⟩
 |j::l,dn,s,K,hw,hl,h=>by
  simp only[List.cons_append] at h ⊢;unfold Gl at h;obtain⟨hji,CF,Pt⟩:=hl j (by simp)
  cases hj:ops[j]? with
  |none=>rw[hj] at h;cases h
  |some x=>
   rw[hj] at h;simp only[Dk] at h;obtain⟨hb,h⟩:=Aj h;simp only[Bool.and_eq_true] at hb;have ap:=Pt x hj
   have hex:∀k∈Xf C P sm s j x,s.hp k≠none:=fun k hk=>by
    have:=List.all_eq_true.1 hb.2 k hk;intro e;rw[e] at this;cases this
   obtain⟨s1,e1,Dn,Ya,h1⟩:=Kb h;obtain⟨ha,h2⟩:=Tv XS hi l (hw.keepsS ap Dn Ya) (fun k hk=>hl k (by simp[hk])) h1
   have Awl:Jn C P s1 o=Jn C P s o:=LQ (ops:=ops) (fun t ht=>Dn.1 t fun hd=>ap.xo t hd ht) fun hM hA y hy k hk=>ap.same Dn Ya hM hA (hw.1 y hy k hk)
   have AX:Xf C P sm s1 i o=Xf C P sm s i o:=ZU fun _=>Awl
   rw[List.all_cons,Bool.and_eq_true] at ha
   have Asb:Nat.blt i j=false:=by
    cases hh:Nat.blt i j
    ·rfl
    ·have:=Nat.le_of_ble_eq_true hh;omega
   have hmi:Hs C P x o=true->j∈sm.getD i []:=fun hs=>by
    rw[XS,Y6 hi];exact Nh.2 ⟨x,hj,hs,by rw[CF,Bool.and_false],by rw[Asb,Bool.false_and]⟩
   have hmj:Hs C P x o=true->i∈sm.getD j []:=fun hs=>by
    rw[XS,Y6 hj];exact Nh.2 ⟨o,hi,by rw[Rq];exact hs,by rw[Asb,Bool.false_and],by rw[CF,Bool.and_false]⟩
   have Ahs:Hs C P x o=true->XF (Xf C P sm s j x) (Xf C P sm s i o)=true:=by
    intro hs;have:=ha.1;unfold CU at this;rw[RO.2 (hmi hs),AX] at this
    simpa using this
   have hok:∀q,CU C P sm s1 i o q=CU C P sm s i o q:=fun q=>by unfold CU;rw[AX]
   have K6:dn.all (CU C P sm s i o)=true:=by
    refine List.all_eq_true.2 fun q hq=>?_
    rw[←hok];exact List.all_eq_true.1 ha.2 q hq
   refine⟨K6,?_⟩;rw[AX] at h2
   have h3:=Ar5 hw (fun hs k hk=>hex k (by rw[Xi (hmj hs)];exact hk)) ap (fun hs=>by have:=Ahs hs;rw[Xi (hmj hs),Xi (hmi hs)] at this;exact this)
    (Py (K':=fun s1=>Da C P N call ops o s1 (fun s2=>Gl C P N call ops sm ((i,o,Xf C P sm s i o)::(j,x,Xf C P sm s j x)::dn) (l++l') s2 K)) e1 h2)
   obtain⟨s2,e2,D8,On,h4⟩:=Kb h3;refine Py e2 ?_
   have FR:Xf C P sm s2 j x=Xf C P sm s j x:=ZU fun Ec=>by
    obtain⟨q,hq⟩:=List.exists_mem_of_ne_nil _ Ec;refine LQ (ops:=ops) (fun t ht=>D8.1 t fun hd=>ap.ox t hd ht) fun hM hA y hy k hk=>ap.symm.same D8 On hM hA (hex k ?_)
    rw[Xi hq];exact Xk (.inl hM) hy hk
   unfold Gl;rw[hj];simp only[Dk]
   have hc:(((i,o,Xf C P sm s i o)::dn).all (CU C P sm s2 j x)&&(Xf C P sm s2 j x).all fun k=>(s2.hp k).isSome)=true:=by
    simp only[List.all_cons,Bool.and_eq_true];refine⟨⟨?_,?_⟩,?_⟩
    ·unfold CU;simp only[FR];cases hs:(sm.getD j []).any (Nat.beq i)
     ·rfl
     ·have hm:=RO.1 hs;rw[XS,Y6 hj] at hm;obtain⟨o',MU,SK,_⟩:=Nh.1 hm;rw[hi] at MU;cases MU;rw[Rq] at SK;rw[XL (Ahs SK)];rfl
    ·refine List.all_eq_true.2 fun q hq=>?_
     have:=List.all_eq_true.1 hb.1 q hq;unfold CU at this ⊢;rw[FR];exact this
    ·rw[FR];refine List.all_eq_true.2 fun k hk=>?_
     have:=D8.2.1 k (hex k hk);cases hh:s2.hp k with
     |none=>exact absurd hh this
     |some _=>rfl
   rw[hc,FR];show Da C P N call ops x s2 _=some r
   have:(fun s'=>Gl C P N call ops sm ((j,x,Xf C P sm s j x)::(i,o,Xf C P sm s i o)::dn) (l++l') s' K)=fun s2=>Gl C P N call ops sm ((i,o,Xf C P sm s i o)::(j,x,Xf C P sm s j x)::dn) (l++l') s2 K:=by
    funext s'
    exact Vy _ fun f=>ZD _ _ _ f
   rw[this];exact h4
end
section
variable {R:Type} {r:R} {P:Program} {N:Nat} {w0:World} {X0:Gq} {Y:Nat->Prop} {β β':Bt} {s:St} {a:Act} {w w':World} {o:Oper} {ops:Array Oper} {C:Fu} {call:Ax} {K:St->Option R}
theorem Q2 {bs:List Nat}:∀(l:List Oper)(n:Nat),Tp C P ops bs l n=true->∀(k:Nat) o,l[k]?=some o->∀(j:Nat) x,ops[j]?=some x->j<n+k->Acq C P ops x o=true->(bs.getD (n+k) 0).testBit j=true
 |[],_,_,k,o,ho,_,_,_,_,_=>by simp at ho
 |o'::l,n,h,k,o,ho,j,x,hx,hj,J6=>by
  simp only[Tp,Bool.and_eq_true] at h;cases k with
  |zero=>
   simp at ho;subst ho
   have:=List.all_eq_true.1 h.1 (x,j) (by
    rw[List.mem_zipIdx_iff_getElem?]
    simpa using hx)
   simp only[J6,Bool.not_true,Bool.or_false,Bool.or_eq_true,Bool.not_eq_true'] at this;rcases this with h'|h'
   ·have:Nat.blt j n=true:=Nat.ble_eq_true_of_le (by omega)
    rw[this] at h';cases h'
   ·exact h'
  |succ k=>
   have:=Q2 l (n+1) h.2 k o (by simpa using ho) j x hx (by omega) J6
   rwa [show n+(k+1)=n+1+k by omega]
theorem GP {G:Rx}(Ie:MZ P G w0 X0)(Df:∀f args res,call f args=some res->Cw G P f args res)(hok:Z5 C P ops=true){Q:Exit->Act->World->Prop}(hQ:∀s' a' w' β',K s'=some r->Cj N w0 X0 Y β' s' a' w'->Q .normal a' w'):
  ∀(fuel:Nat) {dn:List (Nat × Oper × List Nat)} {listed:Array Bool} {s:St} {a:Act} {w:World} {β:Bt},HeadInv .any ops ops.size listed->(Jy ops.size listed).length=fuel->Cj N w0 X0 Y β s a w->Gl C P N call ops (V2 C P ops (Gx ops.toList [])) dn (Jy ops.size listed) s K=some r->wpAny P .any ops Q fuel listed a w:=by
 unfold Z5 at hok;simp only[Bool.and_eq_true] at hok;obtain⟨Aby,Akz⟩:=hok;intro fuel
 induction fuel with
 |zero=>
  intro dn listed s a w β inv hf h hk;have hp:=List.eq_nil_of_length_eq_zero hf;rw[hp] at hk;refine⟨?_,hQ s a w β hk h⟩;cases hr:Region.ready .any ops listed with
  |nil=>rfl
  |cons i l=>
   exfalso;have hi:i∈Region.ready .any ops listed:=by rw[hr];simp
   obtain⟨Hq,o,ho,_⟩:=mem_ready.1 hi;have:i∈Jy ops.size listed:=Hn.2 ⟨(Array.getElem?_eq_some_iff.1 ho).1,Hq⟩;rw[hp] at this;simp at this
 |succ fuel ih=>
  intro dn listed s a w β inv hf h hk;refine⟨fun hr=>?_,fun i hi=>?_⟩
  ·rw[DD Aby inv hr] at hf;cases hf
  ·obtain⟨Hq,o,ho,K6⟩:=mem_ready.1 hi;have B4:i<ops.size:=(Array.getElem?_eq_some_iff.1 ho).1;obtain⟨l1,l2,h1,h2,h3⟩:=Rz (Hn.2 ⟨B4,Hq⟩) inv.size;rw[h1] at hk
   have hnb:∀j∈l1,((Gx ops.toList []).getD i 0).testBit j=false:=by
    intro j hj;cases CF:((Gx ops.toList []).getD i 0).testBit j with
    |false=>rfl
    |true=>
     exfalso;have hjl:=Nz (listed:=listed) (fun j oj hj hl=>inv.closed j oj hj hl) ops.toList [] [] (by simp) rfl (by simp) i o ho K6 j CF
     have:j∈Jy ops.size listed:=by rw[h1];simp[hj]
     have:=getD_both (Hn.1 this).2;rw[hjl] at this;cases this
   have Pt:∀j∈l1,j<i∧((Gx ops.toList []).getD i 0).testBit j=false∧∀x,ops[j]?=some x->Ja C P ops x o:=by
    intro j hj;refine⟨h3 j hj,hnb j hj,fun x hxj=>UG ?_⟩
    cases J6:Acq C P ops x o with
    |false=>rfl
    |true=>
     exfalso;have CF:=Q2 ops.toList 0 Akz i o (by simpa using ho) j x hxj (by have:=h3 j hj;omega) J6
     rw[Nat.zero_add,hnb j hj] at CF;cases CF
   obtain⟨s',hs',hn⟩:=Sb h Ie Df ho (Tv rfl ho l1 (YN h o) Pt hk).2;refine hn _ _ fun a' w' β' h'=>ih (dn:=(i,o,Xf C P (V2 C P ops (Gx ops.toList [])) s i o)::dn) (inv.set hi B4) ?_ h' ?_
   ·rw[h2];rw[h1] at hf;simp at hf ⊢;omega
   ·rw[h2];exact hs'
theorem Wn (h:Cj N w0 X0 Y β s a w){G:Rx}(Ie:MZ P G w0 X0)(Df:∀f args res,call f args=some res->Cw G P f args res)(hm:P.follows .mixedOrders=true)(hok:Z5 C P ops=true){Q:Exit->Act->World->Prop}
  (hk:Gl C P N call ops (V2 C P ops (Gx ops.toList [])) [] (List.range ops.size) s K=some r) (hQ:∀s' a' w' β',K s'=some r->Cj N w0 X0 Y β' s' a' w'->Q .normal a' w'):wpAny P .any ops Q ops.size (Array.replicate ops.size false) a { w with drawn:=w.drawn+1 }:=by
 have hp:Jy ops.size (Array.replicate ops.size false)=List.range ops.size:=by
  unfold Jy;refine List.filter_eq_self.2 fun i hi=>?_
  have:=List.mem_range.1 hi;simp[this]
 refine GP (C:=C) (dn:=[]) Ie Df hok hQ ops.size ⟨by simp,fun j oj _ hl=>(by rw[getD_replicate_false] at hl;cases hl),fun t ht ht'=>by omega⟩ (by rw[hp];simp) h.drew ?_
 rw[hp];exact hk
theorem LI (h:Cj N w0 X0 Y β s a w){G:Rx}(Ie:MZ P G w0 X0)(Df:∀f args res,call f args=some res->Cw G P f args res)(hm:P.follows .mixedOrders=true)(hok:Z5 C P ops=true){id:Nat}{Q:Exit->Act->World->Prop}
  (hk:Gl C P N call ops (V2 C P ops (Gx ops.toList [])) [] (List.range ops.size) s K=some r) (hQ:∀s' a' w' β',K s'=some r->Cj N w0 X0 Y β' s' a' w'->Q .normal a' w'):(Code.region id ops true).wp P Q a w:=
 wp_region_any hm (Wn h Ie Df hm hok hk hQ)
end
open Go.RowKit
section
variable {R:Type} {r:R} {N:Nat} {w0:World} {X0:Gq} {Y:Nat->Prop} {β β':Bt} {s:St} {a:Act} {w w':World}
theorem Abk {i:Nat}(hi:i<a.tmps.size):a.put (some i) (a.tmps.getD i undef)=a:=by
 obtain⟨tmps,dfr⟩:=a;change i<tmps.size at hi
 have:tmps.setIfInBounds i (tmps.getD i undef)=tmps:=by
  apply Array.ext_getElem?;intro k;by_cases e:i=k
  ·subst e;simp[hi]
  ·rw[Array.getElem?_setIfInBounds_ne e]
 simp only[Act.put,this]
theorem RZ {A:Nat->Prop}{es:Nat}{v:Value}(h:Ar w A (.lst true es 0 []) v):v=.slice none 0 0:=by
 cases h;rfl
theorem SZ {id:Nat}(Bf:s.hp id=none){v:PV}{val:Value}(hv:Dx w (Ct (An s.hp [(id,.ar false [])]) (Cg β id none) Y) (Cg β id none) v val) (hr:∀i∈Bo v,s.hp i≠none∨i=id):
  DX Y β s w v [(id,.ar false [])] val w (Cg β id none):=by
 refine⟨rfl,rfl,rfl,B2.refl _ _,fun j hj=>Ai _ _ (by rintro rfl;exact hj Bf),?_,?_,?_,?_,?_,hv,?_⟩
 ·intro j bx hm;simp at hm;rw[hm.2];trivial
 ·intro j bx hm;simp at hm;obtain⟨rfl,rfl⟩:=hm;exact .inl ⟨Al _ _ _,rfl⟩
 ·intro j bx k q hm hq;simp at hm;obtain⟨rfl,rfl⟩:=hm;rw[Al] at hq;cases hq
 ·intro j bx j' bx' k q q' hm Hw _ _;simp at hm Hw;rw[hm.1,Hw.1]
 ·intro j cells hm;simp at hm
 ·intro j hj;rcases hr j hj with h|rfl
  ·exact .inl h
  ·exact .inr ⟨.ar false [],by simp⟩
theorem CM (h:Cj N w0 X0 Y β s a w)(i:Nat):∃β',Cj N w0 X0 Y β' (Xo N s i) a w:=by
 unfold Xo;split
 ·rename_i es ht
  have B4:i<N:=by
   rcases Nat.lt_or_ge i N with h'|h'
   ·exact h'
   ·rw[h.tmo i h'] at ht;cases ht
  have hv:=h.tms i B4;rw[ht] at hv;have hv:=RZ hv;have hd:Fe N (some i)=true:=by simp[Fe,Nat.blt];omega
  have go:∀j,s.hp j=none->∃β',Cj N w0 X0 Y β' ⟨Cg s.tm i (.view j es 0 0),Cg s.hp j (some (.ar false []))⟩ a w:=by
   intro j hn;have:=h.stepR (d:=some i) hd (by simp[Bn,hn]) (SZ (v:=.view j es 0 0) (val:=.slice none 0 0) hn (.inl ⟨Al _ _ _,rfl,rfl,none,rfl⟩) (by simp[Bo,B6,Am]))
   rw[←hv,Abk (by rw[h.tsz];exact B4)] at this
   exact⟨_,this⟩
  cases hn:(s.hp i).isNone
  ·cases hn2:(s.hp (i+N*3000)).isNone
   ·exact⟨β,h⟩
   ·exact go _ (by simpa using hn2)
  ·exact go _ (by simpa using hn)
 ·exact⟨β,h⟩
theorem Cj.recell (h:Cj N w0 X0 Y β s a w){id:Nat}{c c':List PV}(h0:s.hp id=some (.st c)) (hl:c'.length=c.length)
  (hc:∀(j:Nat) p,c'[j]?=some p->∃q,c[j]?=some q∧(∀v,Bu w (Ct s.hp β Y) β q v->Bu w (Ct s.hp β Y) β p v)∧∀i∈Am p,s.hp i≠none):
  Cj N w0 X0 Y β ⟨s.tm,Cg s.hp id (some (.st c'))⟩ a w:=by
 have Fj:∀i,Cu (Cg s.hp id (some (.st c')) i)↔Cu (s.hp i):=by
  intro i;by_cases e:i=id
  ·subst e;rw[Al,h0];exact Iff.rfl
  ·rw[Ai _ _ e]
 have hX:HW (Cg s.hp id (some (.st c'))) β=HW s.hp β:=by
  funext b
  apply propext;constructor
  ·rintro⟨i,o,hl,hb⟩;exact⟨i,o,(Fj i).1 hl,hb⟩
  ·rintro⟨i,o,hl,hb⟩;exact⟨i,o,(Fj i).2 hl,hb⟩
 have hA:Ct (Cg s.hp id (some (.st c'))) β Y=Ct s.hp β Y:=by
  funext b;unfold Ct;rw[hX]
 have Ec:∀i,s.hp i≠none->Cg s.hp id (some (.st c')) i≠none:=by
  intro i hi;by_cases e:i=id
  ·subst e;rw[Al];simp
  ·rw[Ai _ _ e];exact hi
 have Aln:∀i,Cg s.hp id (some (.st c')) i≠none->s.hp i≠none:=by
  intro i hi;by_cases e:i=id
  ·subst e;rw[h0];simp
  ·rw[Ai _ _ e] at hi;exact hi
 refine⟨h.dfr,h.tsz,h.tmo,?_,?_,?_,?_,?_,?_,?_,?_,fun i hi=>⟨Ec _ (h.pin i hi).1,(h.pin i hi).2⟩,?_,?_,h.Ylt,h.fr⟩
 ·intro i hi;show Dx w (Ct (Cg s.hp id _) β Y) β _ _;rw[hA];exact h.tms i hi
 ·intro i b hb;show Nf w (Ct (Cg s.hp id _) β Y) β i b;rw[hA];by_cases e:i=id
  ·subst e;change Cg s.hp i (some (.st c')) i=some b at hb;rw[Al] at hb;cases hb;obtain⟨b,o,h1,h2,h3⟩:=h.box i _ h0;refine⟨b,o,h1,fun j p hj=>?_,fun j hj=>h3 j (by rw[←hl];exact hj)⟩
   obtain⟨q,hq,hqp,_⟩:=hc j p hj;obtain⟨v,hv,hr⟩:=h2 j q hq;exact⟨v,hv,hqp v hr⟩
  ·change Cg s.hp id (some (.st c')) i=some b at hb;rw[Ai _ _ e] at hb;exact h.box i b hb
 ·intro i i' b o o' hl Ib hb Gi;exact h.inj i i' b o o' ((Fj i).1 hl) ((Fj i').1 Ib) hb Gi
 ·intro i b o hn hb;exact h.blt i b o (Aln i hn) hb
 ·intro i hi j hj;exact Ec j (h.wfT i hi j hj)
 ·intro i cells hb p hp j hj;change Cg s.hp id (some (.st c')) i=_ at hb;by_cases e:i=id
  ·subst e;rw[Al] at hb;cases hb;obtain⟨k,hk⟩:=List.mem_iff_getElem?.1 hp;obtain⟨_,_,_,hr⟩:=hc k p hk;exact Ec j (hr j hj)
  ·rw[Ai _ _ e] at hb;exact Ec j (h.wfB i cells hb p hp j hj)
 ·intro b hb;exact h.ownd b (by rw[←hX];exact hb)
 ·intro i bx b o hb hlb hβ B4 j hj;change Cg s.hp id (some (.st c')) i=some bx at hb;by_cases e:i=id
  ·subst e;rw[Al] at hb;cases hb;exact h.rngB i _ b o h0 trivial hβ B4 j (by unfold BR at hj ⊢;simp only[hl] at hj;exact hj)
  ·rw[Ai _ _ e] at hb;exact h.rngB i bx b o hb hlb hβ B4 j hj
 ·intro i c1 b o hb hβ B4;change Cg s.hp id (some (.st c')) i=_ at hb;by_cases e:i=id
  ·subst e;exact h.stp i c b o h0 hβ B4
  ·rw[Ai _ _ e] at hb;exact h.stp i c1 b o hb hβ B4
 ·intro b hY hb;exact h.Yx b hY (by rw[←hX];exact hb)
theorem CV (h:Cj N w0 X0 Y β s a w)(id j:Nat):∃β',Cj N w0 X0 Y β' (JK N id s j) a w:=by
 unfold JK;split
 ·rename_i c h0;split
  ·rename_i es hj;cases hn:(s.hp (id+N*(j+1))).isNone
   ·exact⟨β,h⟩
   ·have hn:s.hp (id+N*(j+1))=none:=by simpa using hn
    have Ec:id≠id+N*(j+1):=by
     intro e;rw[←e,h0] at hn;cases hn
    have h1:=h.stepR (d:=none) (v:=.top) (val:=undef) rfl (by simp[Bn,hn]) (SZ hn (.top _) (by simp[Bo,B6,Am]))
    change Cj N w0 X0 Y (Cg β (id+N*(j+1)) none) ⟨s.tm,Cg s.hp (id+N*(j+1)) (some (.ar false []))⟩ a w at h1
    have h2:=h1.recell (id:=id) (c:=c) (c':=c.set j (.view (id+N*(j+1)) es 0 0)) (by show Cg _ _ _ _=_;rw[Ai _ _ Ec];exact h0) (by simp) (by
     intro k p hp;by_cases e:k=j
     ·subst e
      have B4:k<c.length:=by
       rcases Nat.lt_or_ge k c.length with h'|h'
       ·exact h'
       ·rw[List.getElem?_eq_none h'] at hj;cases hj
      rw[List.getElem?_set_self B4] at hp;cases hp;refine⟨_,hj,fun v hv=>.inl ⟨Al _ _ _,rfl,rfl,none,RZ hv⟩,fun i hi=>?_⟩
      simp[Am] at hi;subst hi;show Cg _ _ _ _≠none;rw[Al];simp
     ·rw[List.getElem?_set_ne (fun h=>e h.symm)] at hp
      refine⟨p,hp,fun _ hv=>hv,fun i hi=>?_⟩
      have:=h.wfB id c h0 p (List.mem_of_getElem? hp) i hi;show Cg _ _ _ _≠none;by_cases e':i=id+N*(j+1)
      ·subst e';rw[Al];simp
      ·rw[Ai _ _ e'];exact this)
    refine⟨Cg β (id+N*(j+1)) none,?_⟩;have e3:Cg (Cg s.hp (id+N*(j+1)) (some (.ar false []))) id (some (.st (c.set j (.view (id+N*(j+1)) es 0 0))))=Cg (Cg s.hp id (some (.st (c.set j (.view (id+N*(j+1)) es 0 0))))) (id+N*(j+1)) (some (.ar false [])):=MG _ _ _ (fun h=>Ec h.symm)
    change Cj N w0 X0 Y (Cg β (id+N*(j+1)) none) ⟨s.tm,Cg (Cg s.hp (id+N*(j+1)) (some (.ar false []))) id (some (.st (c.set j (.view (id+N*(j+1)) es 0 0))))⟩ a w at h2;rw[e3] at h2;exact h2
  ·exact⟨β,h⟩
 ·exact⟨β,h⟩
theorem Lo {f:St->Nat->St}(hf:∀s β,Cj N w0 X0 Y β s a w->∀i,∃β',Cj N w0 X0 Y β' (f s i) a w):∀(l:List Nat){s:St}{β:Bt},Cj N w0 X0 Y β s a w->∃β',Cj N w0 X0 Y β' (l.foldl f s) a w
 |[],_,β,h=>⟨β,h⟩
 |i::l,s,β,h=>by
  obtain⟨β1,h1⟩:=hf s β h i;exact Lo hf l h1
theorem GF (h:Cj N w0 X0 Y β s a w)(i:Nat):∃β',Cj N w0 X0 Y β' (HP N s i) a w:=by
 unfold HP;split
 ·split
  ·exact Lo (fun s β h i=>CV h _ i) _ h
  ·exact⟨β,h⟩
 ·exact⟨β,h⟩
theorem EI:∀{m:List (Nat × Nat)},Dq (m.map (·.2))=true->∀{i i' j:Nat},(i,j)∈m->(i',j)∈m->i=i'
 |[],_,_,_,_,h,_=>by simp at h
 |(x,y)::m,hn,i,i',j,h,h'=>by
  simp only[List.map_cons,Dq,Bool.and_eq_true,Bool.not_eq_true'] at hn
  have hy:∀k,(k,y) ∉ m:=by
   intro k hk;exact Nm hn.1 (List.mem_map.2 ⟨(k,y),hk,rfl⟩)
  rcases List.mem_cons.1 h with e|h
  ·cases e;rcases List.mem_cons.1 h' with e|h'
   ·cases e;rfl
   ·exact absurd h' (hy _)
  ·rcases List.mem_cons.1 h' with e|h'
   ·cases e;exact absurd h (hy _)
   ·exact EI hn.2 h h'
theorem Vd:∀{m:List (Nat × Nat)},Dq (m.map (·.1))=true->∀{i j j':Nat},(i,j)∈m->(i,j')∈m->j=j'
 |[],_,_,_,_,h,_=>by simp at h
 |(x,y)::m,hn,i,j,j',h,h'=>by
  simp only[List.map_cons,Dq,Bool.and_eq_true,Bool.not_eq_true'] at hn
  have hx:∀k,(x,k) ∉ m:=by
   intro k hk;exact Nm hn.1 (List.mem_map.2 ⟨(x,k),hk,rfl⟩)
  rcases List.mem_cons.1 h with e|h
  ·cases e;rcases List.mem_cons.1 h' with e|h'
   ·cases e;rfl
   ·exact absurd h' (hx _)
  ·rcases List.mem_cons.1 h' with e|h'
   ·cases e;exact absurd h (hx _)
   ·exact Vd hn.2 h h'
theorem Jz {i j:Nat}(h:Nat.beq i j=false):i≠j:=by rintro rfl;rw[Nat.beq_refl] at h;cases h
theorem Sh:∀{m:List (Nat × Nat)} {i j:Nat},Qu m i=some j->(i,j)∈m
 |[],_,_,h=>by cases h
 |(x,y)::m,i,j,h=>by
  unfold Qu at h;cases hb:Nat.beq i x<;>rw[hb] at h
  ·exact List.mem_cons_of_mem _ (Sh h)
  ·have:=Nat.eq_of_beq_eq_true hb;cases h;rw[this];simp
theorem Ug {m:List (Nat × Nat)} {hp:Nat->Option Bk}:∀{l:List (Nat × Nat)} {j:Nat}{b:Bk},Jl (Jq m hp l) j=some b->∃i b0,(i,j)∈l∧hp i=some b0∧b=Af2 m b0
 |[],_,_,h=>by cases h
 |(x,y)::l,j,b,h=>by
  unfold Jq at h;cases hx:hp x with
  |none=>
   rw[hx] at h;obtain⟨i,b0,h1,h2⟩:=Ug h;exact⟨i,b0,List.mem_cons_of_mem _ h1,h2⟩
  |some bx=>
   rw[hx] at h;simp only[Jl] at h;cases hb:Nat.beq j y<;>rw[hb] at h
   ·obtain⟨i,b0,h1,h2⟩:=Ug h;exact⟨i,b0,List.mem_cons_of_mem _ h1,h2⟩
   ·have:=Nat.eq_of_beq_eq_true hb;subst this;cases h;exact⟨x,bx,by simp,hx,rfl⟩
theorem Kg {m:List (Nat × Nat)} {hp:Nat->Option Bk}:∀{l:List (Nat × Nat)} {i j:Nat},(i,j)∈l->hp i≠none->Jl (Jq m hp l) j≠none
 |[],_,_,h,_=>by simp at h
 |(x,y)::l,i,j,h,hi=>by
  unfold Jq;cases hx:hp x with
  |none=>
   rcases List.mem_cons.1 h with e|h
   ·cases e;exact absurd hx hi
   ·exact Kg h hi
  |some bx=>
   simp only[Jl];cases hb:Nat.beq j y
   ·rcases List.mem_cons.1 h with e|h
    ·cases e;exact absurd rfl (Jz hb)
    ·exact Kg h hi
   ·simp
def CA (m:List (Nat × Nat)) (j:Nat):Option Nat:=
 match m with
 |[]=>none
 |(x,y)::r=>bif Nat.beq j y then some x else CA r j
theorem TS:∀{m:List (Nat × Nat)} {i j:Nat},CA m j=some i->(i,j)∈m
 |[],_,_,h=>by cases h
 |(x,y)::m,i,j,h=>by
  unfold CA at h;cases hb:Nat.beq j y<;>rw[hb] at h
  ·exact List.mem_cons_of_mem _ (TS h)
  ·have:=Nat.eq_of_beq_eq_true hb;cases h;rw[this];simp
theorem LM:∀{m:List (Nat × Nat)} {i j:Nat},(i,j)∈m->∃k,CA m j=some k
 |[],_,_,h=>by simp at h
 |(x,y)::m,i,j,h=>by
  unfold CA;cases hb:Nat.beq j y
  ·rcases List.mem_cons.1 h with e|h
   ·cases e;exact absurd rfl (Jz hb)
   ·exact LM h
  ·exact⟨x,rfl⟩
theorem IQ {f:Nat->PV}:∀{l:List Nat}{i:Nat},lk (l.map fun i=>(i,f i)) i=if i∈l then f i else .top
 |[],_=>rfl
 |x::l,i=>by
  simp only[List.map_cons,lk];cases hb:Nat.beq i x
  ·have:=Jz hb;simp only[cond_false,IQ,List.mem_cons,this,false_or]
  ·have:=Nat.eq_of_beq_eq_true hb;subst this;simp
theorem FF {m:Nat}:∀{n i:Nat},i∈I8 m n->i<n
 |0,_,h=>by simp[I8] at h
 |n+1,i,h=>by
  simp only[I8,List.mem_append] at h;rcases h with h|h
  ·have:=FF h;omega
  ·cases hb:m.testBit n<;>rw[hb] at h
   ·simp at h
   ·simp at h;omega
theorem HG (h:Cj N w0 X0 Y β s a w){m:List (Nat × Nat)} (h1:Dq (m.map (·.1))=true) (h2:Dq (m.map (·.2))=true) {ls:List Nat}(hls:∀i∈ls,i<N)(hpn:∀i,X0.pn i->(C4 N i,C4 N i)∈m):
  ∃β',Cj N w0 X0 Y β' ⟨lk (ls.map fun i=>(i,XM m (s.tm i))),Jl (Jq m s.hp m)⟩ a w:=by
 refine⟨fun j=>(CA m j).bind β,?_⟩
 have hβ:∀{i j:Nat},(i,j)∈m->(CA m j).bind β=β i:=by
  intro i j hm;obtain⟨k,hk⟩:=LM hm;rw[hk];have:=EI h2 (TS hk) hm;subst this;rfl
 have hold:∀{j:Nat} {b:Bk},Jl (Jq m s.hp m) j=some b->∃i b0,(i,j)∈m∧s.hp i=some b0∧b=Af2 m b0∧(CA m j).bind β=β i:=by
  intro j b hb;obtain⟨i,b0,hm,h3,h4⟩:=Ug hb;exact⟨i,b0,hm,h3,h4,hβ hm⟩
 have Fj:∀{j:Nat},Cu (Jl (Jq m s.hp m) j)->∃i,(i,j)∈m∧Cu (s.hp i)∧(CA m j).bind β=β i:=by
  intro j hl;cases hb:Jl (Jq m s.hp m) j with
  |none=>rw[hb] at hl;exact hl.elim
  |some b=>
   obtain⟨i,b0,hm,h3,rfl,h5⟩:=hold hb;refine⟨i,hm,?_,h5⟩;rw[hb] at hl;rw[h3];cases b0<;>exact hl
 have hX:∀b,HW (Jl (Jq m s.hp m)) (fun j=>(CA m j).bind β) b->HW s.hp β b:=by
  rintro b ⟨j,o,hl,hb⟩
  obtain⟨i,_,Ib,e⟩:=Fj hl;exact⟨i,o,Ib,by rw[←e];exact hb⟩
 have hA:∀b,Ct (Jl (Jq m s.hp m)) (fun j=>(CA m j).bind β) Y b->Ct s.hp β Y b:=fun b hb=>hb.imp (hX b) id
 have hC:∀p v,Bu w (Ct s.hp β Y) β p v->Bu w (Ct (Jl (Jq m s.hp m)) (fun j=>(CA m j).bind β) Y) (fun j=>(CA m j).bind β) (QL m p) v:=by
  intro p v hp;cases p with
  |view id es off n=>
   show Bu _ _ _ (match Qu m id with|some j=>.view j es off n|none=>.top) v
   cases hj:Qu m id with
   |some j=>
    have e:=hβ (Sh hj);rcases hp with⟨e1,e2⟩|⟨b,o,x,cap,e1,e2⟩
    ·exact .inl ⟨by show (CA m j).bind β=none;rw[e];exact e1,e2⟩
    ·exact .inr ⟨b,o,x,cap,by show (CA m j).bind β=_;rw[e];exact e1,e2⟩
   |none=>exact Ar.top _
  |ptr id off=>
   show Bu _ _ _ (match Qu m id with|some j=>.ptr j off|none=>.top) v
   cases hj:Qu m id with
   |some j=>
    have e:=hβ (Sh hj);obtain⟨b,o,e1,e2⟩:=hp;exact⟨b,o,by show (CA m j).bind β=_;rw[e];exact e1,e2⟩
   |none=>exact Ar.top _
  |sc v=>exact Ar.step (B2.refl _ _) (fun b _=>hA b) hp
  |lst z es n c=>exact Ar.step (B2.refl _ _) (fun b _=>hA b) hp
  |iptr c off=>exact Bu.step (p:=.iptr c off) (B2.refl _ _) (fun b _=>hA b) (by simp[Am]) hp
  |_=>exact Ar.top _
 have hV:∀p v,Dx w (Ct s.hp β Y) β p v->Dx w (Ct (Jl (Jq m s.hp m)) (fun j=>(CA m j).bind β) Y) (fun j=>(CA m j).bind β) (XM m p) v:=by
  intro p v hp;cases p with
  |agg c=>
   obtain⟨vs,e1,e2⟩:=hp;refine⟨vs,e1,Bb.of_at (by simp;exact e2.len) fun i q u hq hu=>?_⟩
   rw[List.getElem?_map] at hq;cases hc:c[i]? with
   |none=>rw[hc] at hq;cases hq
   |some q0=>
    rw[hc] at hq;cases hq;exact hC _ _ (e2.at_ hc hu)
  |view id es off n=>
   have:=hC (.view id es off n) v hp;change Bu _ _ _ (match Qu m id with|some j=>.view j es off n|none=>.top) v at this
   show Dx _ _ _ (match Qu m id with|some j=>.view j es off n|none=>.top) v
   cases hj:Qu m id<;>rw[hj] at this<;>exact this
  |ptr id off=>
   have:=hC (.ptr id off) v hp;change Bu _ _ _ (match Qu m id with|some j=>.ptr j off|none=>.top) v at this
   show Dx _ _ _ (match Qu m id with|some j=>.ptr j off|none=>.top) v
   cases hj:Qu m id<;>rw[hj] at this<;>exact this
  |sc v'=>exact hC (.sc v') v hp
  |lst z es n c=>exact hC (.lst z es n c) v hp
  |iptr c off=>exact hC (.iptr c off) v hp
  |_=>exact Ar.top _
 have hrC:∀p i,i∈Am (QL m p)->∃k∈Am p,(k,i)∈m:=by
  intro p i hi;cases p with
  |view id es off n=>
   change i∈Am (match Qu m id with|some j=>.view j es off n|none=>.top) at hi
   cases hj:Qu m id<;>rw[hj] at hi
   ·simp[Am] at hi
   ·simp[Am] at hi;subst hi;exact⟨id,by simp[Am],Sh hj⟩
  |ptr id off=>
   change i∈Am (match Qu m id with|some j=>.ptr j off|none=>.top) at hi
   cases hj:Qu m id<;>rw[hj] at hi
   ·simp[Am] at hi
   ·simp[Am] at hi;subst hi;exact⟨id,by simp[Am],Sh hj⟩
  |_=>simp[QL,Am] at hi
 have hrV:∀p i,i∈Bo (XM m p)->∃k∈Bo p,(k,i)∈m:=by
  intro p i hi;cases p with
  |agg c=>
   simp only[XM,Bo,B6,List.mem_flatMap,List.mem_map] at hi;obtain⟨_,⟨q,hq,rfl⟩,hi⟩:=hi;obtain⟨k,hk,hm⟩:=hrC q i hi;exact⟨k,by simp only[Bo,B6,List.mem_flatMap];exact⟨q,hq,hk⟩,hm⟩
  |view id es off n=>
   refine (hrC (.view id es off n) i ?_).imp fun k hk=>hk
   change i∈Bo (match Qu m id with|some j=>.view j es off n|none=>.top) at hi
   show i∈Am (match Qu m id with|some j=>.view j es off n|none=>.top)
   cases hj:Qu m id<;>rw[hj] at hi<;>exact hi
  |ptr id off=>
   refine (hrC (.ptr id off) i ?_).imp fun k hk=>hk
   change i∈Bo (match Qu m id with|some j=>.ptr j off|none=>.top) at hi
   show i∈Am (match Qu m id with|some j=>.ptr j off|none=>.top)
   cases hj:Qu m id<;>rw[hj] at hi<;>exact hi
  |_=>simp[XM,QL,Bo,B6,Am] at hi
 refine⟨h.dfr,h.tsz,?_,?_,?_,?_,?_,?_,?_,?_,?_,?_,?_,?_,h.Ylt,h.fr⟩
 ·intro i hi;show lk _ i=_;rw[IQ,if_neg (fun hm=>by have:=hls i hm;omega)]
 ·intro i hi;show Dx w _ _ (lk _ i) _;rw[IQ];split
  ·exact hV _ _ (h.tms i hi)
  ·exact Ar.top _
 ·intro j b hb;obtain⟨i,b0,hm,h3,rfl,e⟩:=hold hb;have I2:=h.box i b0 h3;cases b0 with
  |st c=>
   obtain⟨b,o,e1,e2,e3⟩:=I2;refine⟨b,o,by show (CA m j).bind β=_;rw[e];exact e1,fun k p hp=>?_,fun k hk=>e3 k (by simpa using hk)⟩
   rw[List.getElem?_map] at hp;cases hc:c[k]? with
   |none=>rw[hc] at hp;cases hp
   |some q=>
    rw[hc] at hp;cases hp;obtain⟨v,hv,hr⟩:=e2 k q hc;exact⟨v,hv,hC _ _ hr⟩
  |ar fz c=>
   have:=Nf.step' hA I2;show Nf _ _ _ _ (.ar fz c);rcases this with⟨e1,e2⟩|⟨b,o,e1,e2⟩
   ·exact .inl ⟨by show (CA m j).bind β=_;rw[e];exact e1,e2⟩
   ·exact .inr ⟨b,o,by show (CA m j).bind β=_;rw[e];exact e1,e2⟩
  |mv=>exact trivial
 ·intro j j' b o o' hl Ib hb Gi;obtain⟨i,hm,Ya,e⟩:=Fj hl;obtain⟨i',Hw,Ayv,e'⟩:=Fj Ib;have:=h.inj i i' b o o' Ya Ayv (by rw[←e];exact hb) (by rw[←e'];exact Gi)
  subst this;exact Vd h1 hm Hw
 ·intro j b o hn hb;cases hj:Jl (Jq m s.hp m) j with
  |none=>exact absurd hj hn
  |some bx=>
   obtain⟨i,b0,_,h3,_,e⟩:=hold hj;exact h.blt i b o (by rw[h3];simp) (by rw[←e];exact hb)
 ·intro i hi j hj;change j∈Bo (lk _ i) at hj;rw[IQ] at hj;split at hj
  ·obtain⟨k,hk,hm⟩:=hrV _ j hj;exact Kg hm (h.wfT i hi k hk)
  ·simp[Bo,B6,Am] at hj
 ·intro j cells hb p hp k hk;obtain⟨i,b0,_,h3,h4,_⟩:=hold hb;cases b0 with
  |st c=>
   cases h4;obtain⟨q,hq,rfl⟩:=List.mem_map.1 hp;obtain⟨k',I3,hm⟩:=hrC q k hk;exact Kg hm (h.wfB i c h3 q hq k' I3)
  |ar fz c=>cases h4
  |mv=>cases h4
 ·intro b hb;exact h.ownd b (hX b hb)
 ·intro j bx b o hb hlb hβ1 B4 k hk;obtain⟨i,b0,_,h3,h4,e⟩:=hold hb;subst h4;refine h.rngB i b0 b o h3 ?_ (by rw[←e];exact hβ1) B4 k ?_
  ·cases b0<;>exact hlb
  ·cases b0 with
   |st c=>simpa [BR,Af2] using hk
   |ar fz c=>exact hk
   |mv=>exact hk
 ·intro i hi;exact⟨Kg (hpn i hi) (h.pin i hi).1,(hβ (hpn i hi)).trans (h.pin i hi).2⟩
 ·intro j c b o hb hβ1 B4;obtain⟨i,b0,hm,h3,h4,e⟩:=hold hb;cases b0 with
  |st c0=>
   obtain⟨k,rfl,hk⟩:=h.stp i c0 b o h3 (by rw[←e];exact hβ1) B4
   exact⟨k,Vd h1 hm (hpn k hk),hk⟩
  |ar fz c0=>cases h4
  |mv=>cases h4
 ·intro b hY hb;exact h.Yx b hY (hX b hb)
theorem P5 {m:List (Nat × Nat)} {q:Nat × Nat}{o n:Nat}(h:q∈m):q∈EA m o n:=by
 unfold EA;split
 ·exact h
 ·exact List.mem_append.2 (.inl h)
theorem It {q:Nat × Nat}{new:Nat}:∀{c:List PV}{j:Nat}{m:List (Nat × Nat)},q∈m->q∈Nw N new c j m
 |[],_,_,h=>h
 |p::c,j,m,h=>by
  unfold Nw;split
  ·rename_i e;cases e
  ·rename_i e;cases e;exact It (P5 h)
  ·rename_i e;cases e;exact It h
theorem MO {q:Nat × Nat}{m:List (Nat × Nat)} {i:Nat}(h:q∈m):q∈Xg N s m i:=by
 unfold Xg;split
 ·exact P5 h
 ·split
  ·exact h
  ·split
   ·exact It (P5 h)
   ·exact P5 h
 ·exact It h
 ·exact h
theorem S2 {q:Nat × Nat}:∀{l:List Nat}{m:List (Nat × Nat)},q∈m->q∈l.foldl (Xg N s) m
 |[],_,h=>h
 |_::l,_,h=>S2 (l:=l) (MO h)
theorem Nb {q:Nat × Nat}{m:List (Nat × Nat)} (h:q∈m):∀k,q∈Pg N s.hp k m
 |0=>h
 |k+1=>by
  unfold Pg;split
  ·exact It (Nb h k)
  ·exact Nb h k
theorem ET:∀{k i:Nat},i<k->s.hp (C4 N i)≠none->(C4 N i,C4 N i)∈LE N s.hp k
 |0,_,h,_=>by omega
 |k+1,i,h,hn=>by
  unfold LE;by_cases e:i=k
  ·subst e
   have:(s.hp (C4 N i)).isSome=true:=by
    cases hq:s.hp (C4 N i) with
    |none=>exact absurd hq hn
    |some b=>rfl
   rw[this];simp
  ·have:=ET (k:=k) (i:=i) (by omega) hn
   cases (s.hp (C4 N k)).isSome
   ·exact this
   ·exact List.mem_append.2 (.inl this)
theorem Vp (h:Cj N w0 X0 Y β s a w){L:Nat}{q:Bool}{K:St->Option R}(hk:SO N (I8 L N) q s K=some r):∃β' s',K s'=some r∧Cj N w0 X0 Y β' s' a w:=by
 unfold SO at hk;obtain⟨hb,Dn⟩:=Aj hk;simp only[Bool.and_eq_true] at hb
 obtain⟨β2,h2⟩:∃β2,Cj N w0 X0 Y β2 (bif q then s else (I8 L N).foldl (HP N) ((I8 L N).foldl (Xo N) s)) a w:=by
  cases q
  ·obtain⟨β1,h1⟩:=Lo (fun s β h i=>CM h i) (I8 L N) h
   obtain⟨β2,h2⟩:=Lo (fun s β h i=>GF h i) (I8 L N) h1
   exact⟨β2,h2⟩
  ·exact⟨β,h⟩
 obtain⟨β3,h3⟩:=HG h2 hb.1 hb.2 (ls:=I8 L N) (fun i hi=>FF hi) (fun i hi=>S2 (Nb (ET (X0.p8 i hi) (h2.pin i hi).1) 8))
 exact⟨β3,_,Dn,h3⟩
theorem O3 (h:Cj N w0 X0 Y β s a w){L:Nat}{K:St->Option R}(hk:Tw N L s K=some r):∃β' s',K s'=some r∧Cj N w0 X0 Y β' s' a w:=Vp h hk
theorem LJ (h:Cj N w0 X0 Y β s a w){L:Nat}{K:St->Option R}(hk:SG N L s K=some r):∃β' s',K s'=some r∧Cj N w0 X0 Y β' s' a w:=Vp h hk
end
open Go.RowKit
section
variable {R:Type} {r:R} {P:Program} {N:Nat} {w0:World} {X0:Gq} {Y:Nat->Prop} {C:Fu} {call:Ax}
theorem FJ {n:Nat}{F:St->Option R}{s:St}(h:Zj n F s=some r):F s=some r:=by
 unfold Zj at h;split at h
 ·cases h
 ·exact h
theorem LD {β:Bt}{s:St}{a:Act}{w:World}(h:Cj N w0 X0 Y β s a w){c:Operand}{kt kf:St->Option R}(hk:ZW s c kt kf=some r):(a.eval c=.bool true∧kt s=some r)∨(a.eval c=.bool false∧kf s=some r):=by
 unfold ZW at hk;split at hk
 ·rename_i d;split at hk
  ·rename_i b ht;have hv:a.eval (.tmp d)=.bool b:=B1 h (x:=.tmp d) ht;cases b
   ·change kf ⟨Cg s.tm d (.sc (.bool false)),s.hp⟩=some r at hk;rw[Sf s.tm ht] at hk;exact .inr ⟨hv,hk⟩
   ·change kt ⟨Cg s.tm d (.sc (.bool true)),s.hp⟩=some r at hk;rw[Sf s.tm ht] at hk;exact .inl ⟨hv,hk⟩
  ·rename_i ht;have hu:=Cn h (.tmp d);change Dx _ _ _ (s.tm d) _ at hu;rw[ht] at hu;have Hc:Ar w _ .ub (a.eval (.tmp d)):=hu
   obtain⟨b,hv⟩:∃b,a.eval (.tmp d)=.bool b:=by
    generalize a.eval (.tmp d)=x at Hc;cases Hc with
    |ub b=>exact⟨b,rfl⟩
   obtain⟨h1,h2⟩:=FM hk;cases b
   ·exact .inr ⟨hv,h2⟩
   ·exact .inl ⟨hv,h1⟩
  ·cases hk
 ·exact .inl ⟨rfl,hk⟩
 ·exact .inr ⟨rfl,hk⟩
 ·cases hk
theorem AF {c:Code}{Q:Exit->Act->World->Prop}{F:(St->Option R)->St->Option R} {nm:St->(St->Option R)->Option R}
  (CY:∀{β s a w} {K:St->Option R},Cj N w0 X0 Y β s a w->nm s K=some r->∃β' s',K s'=some r∧Cj N w0 X0 Y β' s' a w)
  (hF:∀{β s a w} {K:St->Option R}{Q':Act->World->Prop},Cj N w0 X0 Y β s a w->F K s=some r->(∀s' a' w' β',K s'=some r->Cj N w0 X0 Y β' s' a' w'->Q' a' w')->c.wp P (Exit.then Q' Q) a w):
  ∀(n:Nat) {β s a w},Cj N w0 X0 Y β s a w->Aaa F nm n s=some r->Code.rounds P c Q n a w
 |0,_,_,_,_,_,hk=>by cases hk
 |n+1,β,s,a,w,h,hk=>by
  rw[rounds_succ];refine hF h hk fun s' a' w' β' I3 h'=>?_
  obtain⟨β1,s1,Dn,h1⟩:=CY h' I3;exact AF CY hF n h1 Dn
theorem QT {G:Rx}(Ie:MZ P G w0 X0)(Df:∀f args res,call f args=some res->Cw G P f args res)(hm:P.follows .mixedOrders=true){fu:Nat}:
  ∀(c:Code) {ln:Nat} {lx:Nat->Nat} {lr:Nat} {kn:St->Option R} {kx:Nat->St->Option R} {kr:St->Option R} {β:Bt} {s:St} {a:Act} {w:World} {Q:Exit->Act->World->Prop},Cj N w0 X0 Y β s a w ->
   Ly C P fu N call c ln lx lr kn kx kr s=some r->(∀s' a' w' β',kn s'=some r->Cj N w0 X0 Y β' s' a' w'->Q .normal a' w') ->
   (∀id s' a' w' β',kx id s'=some r->Cj N w0 X0 Y β' s' a' w'->Q (.exit id) a' w')->(∀s' a' w' β',kr s'=some r->Cj N w0 X0 Y β' s' a' w'->Q .ret a' w')->c.wp P Q a w:=by
 intro c
 induction c with
 |skip=>intro ln lx lr kn kx kr β s a w Q h hk hn hx hr;exact wp_skip (hn s a w β hk h)
 |region id ops draw=>
  intro ln lx lr kn kx kr β s a w Q h hk hn hx hr;unfold Ly at hk;cases draw
  ·simp only[KN,Bool.false_and,cond_false] at hk;exact JJ h Ie Df hk hn
  ·simp only[KN,Ahw,Bool.true_and,cond_true] at hk;cases hb:DO C P ops<;>rw[hb] at hk
   ·obtain⟨Gi,Dn⟩:=Aj (show Bi _ _=some r from hk)
    exact LI h Ie Df hm Gi Dn hn
   ·exact FX h Ie Df hm hb hk hn
 |seq c1 c2 ih1 ih2=>
  intro ln lx lr kn kx kr β s a w Q h hk hn hx hr;unfold Ly at hk
  refine wp_seq (ih1 h hk (fun s' a' w' β' I3 h'=>by
    cases hc:Aae P c1 c2
    ·rw[hc] at I3;exact ih2 h' I3 hn hx hr
    ·rw[hc] at I3;cases hq:Xl c1 c2
     ·rw[hq] at I3;obtain⟨β1,s1,Dn,h1⟩:=O3 h' (show Tw _ _ _ _=some r from I3)
      exact ih2 h1 (FJ Dn) hn hx hr
     ·rw[hq] at I3;obtain⟨β1,s1,Dn,h1⟩:=LJ h' (show SG _ _ _ _=some r from I3)
      exact ih2 h1 (FJ Dn) hn hx hr) (fun id s' a' w' β' I3 h'=>hx id s' a' w' β' I3 h') (fun s' a' w' β' I3 h'=>hr s' a' w' β' I3 h'))
 |cond c c1 c2 ih1 ih2=>
  intro ln lx lr kn kx kr β s a w Q h hk hn hx hr;unfold Ly at hk;rcases LD h hk with⟨hc,Dn⟩|⟨hc,Dn⟩
  ·exact wp_cond_true hc (ih1 h Dn hn hx hr)
  ·exact wp_cond_false hc (ih2 h Dn hn hx hr)
 |block id c ih=>
  intro ln lx lr kn kx kr β s a w Q h hk hn hx hr;unfold Ly at hk;refine wp_block (ih h hk (fun s' a' w' β' I3 h'=>hn s' a' w' β' I3 h') (fun j s' a' w' β' I3 h'=>?_) (fun s' a' w' β' I3 h'=>hr s' a' w' β' I3 h'))
  show (if j=id then _ else _)
  by_cases e:j=id
  ·subst e;rw[if_pos rfl];rw[Nat.beq_refl] at I3;exact hn s' a' w' β' I3 h'
  ·rw[if_neg e]
   have:Nat.beq j id=false:=by
    cases hb:Nat.beq j id
    ·rfl
    ·exact absurd (Nat.eq_of_beq_eq_true hb) e
   rw[this] at I3;exact hx j s' a' w' β' I3 h'
 |loop c ih=>
  intro ln lx lr kn kx kr β s a w Q h hk hn hx hr;unfold Ly at hk;obtain⟨β1,s1,Dn,h1⟩:=O3 h hk;refine wp_loop_rounds fu (AF (fun h hk=>O3 h hk) (fun h hk hQ=>?_) fu h1 Dn)
  exact ih h hk hQ (fun id s' a' w' β' I3 h'=>hx id s' a' w' β' I3 h') (fun s' a' w' β' I3 h'=>hr s' a' w' β' I3 h')
 |«exit» id=>intro ln lx lr kn kx kr β s a w Q h hk hn hx hr;exact wp_exit (hx id s a w β hk h)
 |ret=>intro ln lx lr kn kx kr β s a w Q h hk hn hx hr;exact wp_ret (hr s a w β hk h)
 |_=>intro ln lx lr kn kx kr β s a w Q h hk hn hx hr;cases hk
end
open Go.RowKit
theorem J2:∀{l:List (Nat × Bk)} {i:Nat}{b:Bk},Jl l i=some b->(i,b)∈l
 |[],_,_,h=>by cases h
 |(j,c)::l,i,b,h=>by
  unfold Jl at h;cases hb:Nat.beq i j<;>rw[hb] at h
  ·exact List.mem_cons_of_mem _ (J2 h)
  ·have:=Nat.eq_of_beq_eq_true hb;cases h;rw[this];simp
theorem GS:∀{l:List (Nat × Bk)},(l.map (·.1)).Nodup->∀{i b},(i,b)∈l->Jl l i=some b
 |[],_,_,_,h=>by cases h
 |(j,c)::l,hn,i,b,h=>by
  simp only[List.map_cons,List.nodup_cons] at hn;unfold Jl;rcases List.mem_cons.1 h with e|h
  ·cases e;simp only[Nat.beq_refl,cond_true]
  ·have:Nat.beq i j=false:=by
    cases hb:Nat.beq i j
    ·rfl
    ·exact absurd (Nat.eq_of_beq_eq_true hb ▸ List.mem_map.2 ⟨_,h,rfl⟩) hn.1
   simp only[this,cond_false];exact GS hn.2 h
section
variable {R:Type} {r:R} {P:Program} {N:Nat} {w0:World} {X0:Gq} {Y:Nat->Prop} {β β':Bt} {s:St} {a:Act} {w w':World} {A:Nat->Prop}
theorem YW {id:Nat}{t:CT}{p:PV}{K:PV->List (Nat × Bk)->Option R} (hk:Aax id t p K=some r):
  (∃c,K c []=some r∧Q6 c∧∀w A q u,Fd w A q p u->Ar w A c u)∨∃es n cc,p=.own es n cc∧K (.view id es 0 n) [(id,.ar false cc)]=some r:=by
 have tree:∀t',(Uh t' p fun c=>K c [])=some r->∃c,K c []=some r∧Q6 c∧∀w A q u,Fd w A q p u->Ar w A c u:=by
  intro t' hk;obtain⟨c,hk,hT,Ze,hv⟩:=J0 hk;refine⟨c,hk,hT,fun w A q u h=>(hv w A (fun _=>none) u ?_).1⟩
  cases p<;>first|exact h|exact Ze.elim
 unfold Aax at hk;cases t with
 |sl es=>
  dsimp only at hk;split at hk
  ·rename_i es' n c;cases hb:Nat.beq es' es<;>rw[hb] at hk
   ·cases hk
   ·have:=Nat.eq_of_beq_eq_true hb;subst this;exact .inr ⟨_,_,_,rfl,hk⟩
  ·exact .inl (tree (.sl es) hk)
 |int k=>exact .inl (tree _ hk)
 |bool=>exact .inl (tree _ hk)
 |str=>exact .inl (tree _ hk)
 |any=>exact .inl (tree _ hk)
theorem Mt:∀{ts:List CT}{id:Nat}{ps:List PV}{K:List PV->List (Nat × Bk)->Option R},V7 N id ts ps K=some r ->
  ∃cs bs,∃qs:List (Nat × Nat),K cs bs=some r∧cs.length=ps.length∧ps.length=ts.length∧bs.map (·.1)=qs.map (·.1)∧(∀q∈qs,∀q'∈qs,q.2=q'.2->q.1=q'.1) ∧
   (∀i bx,(i,bx)∈bs->∃c,bx=.ar false c)∧(∀c∈cs,BM c)∧(∀c∈cs,∀i∈Am c,∃bx,(i,bx)∈bs) ∧
   ∀(w:World) (A:Nat->Prop) (own β':Bt) (j0:Nat) (us:List Value),(∀q∈qs,β' q.1=own (j0+q.2))->D6 w A own j0 ps us->Bb (Bu w A β') cs us∧∀i bx,(i,bx)∈bs->Nf w A β' i bx
 |[],id,ps,K,hk=>by
  obtain⟨rfl,hk⟩:=C6 hk;refine⟨[],[],[],hk,rfl,rfl,rfl,by simp,by simp,by simp,by simp,fun w A own β' j0 us _ h=>⟨?_,by simp⟩⟩
  cases us with
  |nil=>trivial
  |cons u us=>exact h.elim
 |t::ts,id,ps,K,hk=>by
  unfold V7 at hk;obtain⟨p,ps',Wx,Dn⟩:=A6 hk;subst Wx;rcases YW Dn with⟨c,D8,hT,hv⟩|⟨es,n,cc,rfl,D8⟩
  ·obtain⟨cs,bs,qs,I1,hl,On,hb,J5,Ee,hF,Gw,Of⟩:=Mt D8;refine⟨c::cs,bs,qs.map (fun q=>(q.1,q.2+1)),I1,by simp[hl],by simp[On],by rw[hb];simp,?_,Ee,?_,?_,fun w A own β' j0 us hβ ho=>?_⟩
   ·intro q hq q' Ex e;obtain⟨q0,Qq,rfl⟩:=List.mem_map.1 hq;obtain⟨q1,Hg,rfl⟩:=List.mem_map.1 Ex;exact J5 q0 Qq q1 Hg (by simp only at e;omega)
   ·intro y hy;rcases List.mem_cons.1 hy with rfl|hy
    ·exact Nu hT
    ·exact hF y hy
   ·intro y hy i hi;rcases List.mem_cons.1 hy with rfl|hy
    ·rw[Gd hT] at hi;cases hi
    ·exact Gw y hy i hi
   ·cases us with
    |nil=>exact ho.elim
    |cons u us=>
     obtain⟨h1,h2⟩:=Of w A own β' (j0+1) us (fun q hq=>by rw[hβ _ (List.mem_map_of_mem hq)];congr 1;simp only;omega) ho.2
     exact⟨⟨Abs (hv w A _ u ho.1),h1⟩,h2⟩
  ·obtain⟨cs,bs,qs,I1,hl,On,hb,J5,Ee,hF,Gw,Of⟩:=Mt D8;refine⟨_::cs,(id,.ar false cc)::bs,(id,0)::qs.map (fun q=>(q.1,q.2+1)),I1,by simp[hl],by simp[On],by simp only[List.map_cons,hb];simp,?_,?_,?_,?_,fun w A own β' j0 us hβ ho=>?_⟩
   ·intro q hq q' Ex e;rcases List.mem_cons.1 hq with rfl|hq
    ·rcases List.mem_cons.1 Ex with rfl|Ex
     ·rfl
     ·obtain⟨q0,Qq,rfl⟩:=List.mem_map.1 Ex;simp only at e;omega
    ·obtain⟨q0,Qq,rfl⟩:=List.mem_map.1 hq;rcases List.mem_cons.1 Ex with rfl|Ex
     ·simp only at e;omega
     ·obtain⟨q1,Hg,rfl⟩:=List.mem_map.1 Ex;exact J5 q0 Qq q1 Hg (by simp only at e;omega)
   ·intro i bx hm;rcases List.mem_cons.1 hm with e|hm
    ·cases e;exact⟨cc,rfl⟩
    ·exact Ee i bx hm
   ·intro y hy;rcases List.mem_cons.1 hy with rfl|hy
    ·trivial
    ·exact hF y hy
   ·intro y hy i hi;rcases List.mem_cons.1 hy with rfl|hy
    ·simp only[Am,List.mem_singleton] at hi;subst hi;exact⟨_,List.mem_cons_self⟩
    ·obtain⟨bx,I2⟩:=Gw y hy i hi;exact⟨bx,List.mem_cons_of_mem _ I2⟩
   ·cases us with
    |nil=>exact ho.elim
    |cons u us=>
     obtain⟨h1,h2⟩:=Of w A own β' (j0+1) us (fun q hq=>by rw[hβ _ (List.mem_cons_of_mem _ (List.mem_map_of_mem hq))];congr 1;simp only;omega) ho.2
     have h0:=hβ (id,0) List.mem_cons_self;simp only[Nat.add_zero] at h0;refine⟨⟨?_,h1⟩,fun i bx hm=>?_⟩
     ·rcases ho.1 with⟨h3,rfl,_,h5⟩|⟨b,ob,cap,h3,h4,h5,h6,h7,_⟩
      ·exact .inl ⟨h0.trans h3,rfl,rfl,h5⟩
      ·exact .inr ⟨b,ob,ob,cap,h0.trans h3,h4,.inl rfl,h5,h6,h7⟩
     ·rcases List.mem_cons.1 hm with e|hm
      ·cases e;exact S1 ho.1 h0
      ·exact h2 i bx hm
theorem Agg {i:Nat}{t:TypeId}{p:PV}{K:PV->List (Nat × Bk)->Option R} (hk:inK P N i t p K=some r):
  ∃v bs,∃qs:List (Nat × Nat),K v bs=some r∧bs.map (·.1)=qs.map (·.1)∧(∀q∈qs,∀q'∈qs,q.2=q'.2->q.1=q'.1)∧(Uc p=true->(C4 N i,0)∈qs∧i<8) ∧
   (∀id bx,(id,bx)∈bs->Cu (some bx)∧∀c,bx=.st c->id=C4 N i∧Uc p=true)∧(∀id∈Bo v,∃bx,(id,bx)∈bs)∧Uo bs ∧
   ∀(w:World) (A:Nat->Prop) (bt β':Bt) (u:Value),(∀q∈qs,β' q.1=bt q.2)->NP w A bt p u->Dx w A β' v u∧(∀id bx,(id,bx)∈bs->Nf w A β' id bx) ∧
    ∀id bx b o,(id,bx)∈bs->β' id=some (b,o)->∀j,BR bx o j->Akd bt p b j:=by
 have owns:∀{bs:List (Nat × Bk)} {qs:List (Nat × Nat)},bs.map (·.1)=qs.map (·.1)->(∀i bx,(i,bx)∈bs->∃c,bx=.ar false c)->∀{bt β':Bt},(∀q∈qs,β' q.1=bt (1+q.2))->∀id bx b o,(id,bx)∈bs->β' id=some (b,o)->∀j,BR bx o j->∃k o',bt (k+1)=some (b,o')∧o'<=j:=by
  intro bs qs hb Ee bt β' hβ id bx b o hm GK j hj;have:id∈qs.map (·.1):=by rw[←hb];exact List.mem_map.2 ⟨_,hm,rfl⟩
  obtain⟨q,hq,rfl⟩:=List.mem_map.1 this;obtain⟨c,rfl⟩:=Ee _ _ hm;rw[hβ q hq,Nat.add_comm] at GK;exact⟨q.2,o,GK,hj⟩
 have nost:∀{bs:List (Nat × Bk)},(∀i bx,(i,bx)∈bs->∃c,bx=.ar false c)->Uo bs:=by
  intro bs Ee id cells hm;obtain⟨c,e⟩:=Ee id _ hm;cases e
 unfold inK at hk;split at hk
 ·rename_i e he;obtain⟨ps,rfl,Dn⟩:=EW hk;obtain⟨hi8,D8⟩:=Aj Dn;have hi8:i<8:=Nat.lt_of_succ_le (Nat.le_of_ble_eq_true hi8);obtain⟨cs,bs,qs,I1,hl,On,hb,J5,Ee,hF,Gw,hv⟩:=Mt D8;refine⟨_,_,(C4 N i,0)::qs.map (fun q=>(q.1,q.2+1)),I1,by simp only[List.map_cons,hb];simp,?_,fun _=>⟨List.mem_cons_self,hi8⟩,?_,?_,?_,fun w A bt β' u hβ hp=>?_⟩
  ·intro q hq q' Ex e;rcases List.mem_cons.1 hq with rfl|hq
   ·rcases List.mem_cons.1 Ex with rfl|Ex
    ·rfl
    ·obtain⟨q0,Qq,rfl⟩:=List.mem_map.1 Ex;simp only at e;omega
   ·obtain⟨q0,Qq,rfl⟩:=List.mem_map.1 hq;rcases List.mem_cons.1 Ex with rfl|Ex
    ·simp only at e;omega
    ·obtain⟨q1,Hg,rfl⟩:=List.mem_map.1 Ex;exact J5 q0 Qq q1 Hg (by simp only at e;omega)
  ·intro id bx hm;rcases List.mem_cons.1 hm with e|hm
   ·cases e;exact⟨trivial,fun _ _=>⟨rfl,rfl⟩⟩
   ·obtain⟨c,rfl⟩:=Ee id bx hm;exact⟨trivial,fun _ e=>by cases e⟩
  ·intro id Bf;simp only[Bo,B6,Am,List.mem_singleton] at Bf;subst Bf;exact⟨_,List.mem_cons_self⟩
  ·intro id cells hm c hc k hk;rcases List.mem_cons.1 hm with e|hm
   ·cases e;obtain⟨bx,I2⟩:=Gw c hc k hk;exact⟨bx,List.mem_cons_of_mem _ I2⟩
   ·obtain⟨c,e⟩:=Ee id _ hm;cases e
  ·obtain⟨b,o,h1,rfl,_,vs,h3,h4,h5⟩:=hp;have h0:=hβ (C4 N i,0) List.mem_cons_self;simp only at h0;have hβ1:∀q∈qs,β' q.1=bt (1+q.2):=fun q hq=>by rw[hβ _ (List.mem_cons_of_mem _ (List.mem_map_of_mem hq)),Nat.add_comm]
   obtain⟨h6,h7⟩:=hv w A bt β' 1 vs hβ1 h3;refine⟨⟨b,o,h0.trans h1,by simp⟩,fun id bx hm=>?_,fun id bx b' o' hm Gi j hj=>?_⟩
   ·rcases List.mem_cons.1 hm with e|hm
    ·cases e;refine⟨b,o,h0.trans h1,fun k c hk=>?_,fun k hk=>h5 k (by omega)⟩
     obtain⟨v,hv,LK⟩:=h6.get hk;exact⟨v,h4 k v hv,LK⟩
    ·exact h7 id bx hm
   ·rcases List.mem_cons.1 hm with e|hm
    ·cases e;rw[h0] at Gi;have hj:o'<=j∧j<o'+cs.length:=hj;exact .inr ⟨o',ps,Gi,hj.1,.inl ⟨rfl,by omega⟩⟩
    ·exact .inl (owns hb Ee hβ1 id bx b' o' hm Gi j hj)
 ·split at hk
  ·rename_i ps;obtain⟨e,he,Dn⟩:=B3 hk;obtain⟨hi8,D8⟩:=Aj Dn;have hi8:i<8:=Nat.lt_of_succ_le (Nat.le_of_ble_eq_true hi8);obtain⟨q,qr,hq,I1⟩:=A6 D8;subst hq;obtain⟨Ut,Qy⟩:=C6 I1;subst Ut;unfold OC at Qy;split at Qy
   ·rename_i es' n c;cases hb:Nat.beq es' (A7 P e)<;>rw[hb] at Qy
    ·cases Qy
    ·have Qp:=Nat.eq_of_beq_eq_true hb;subst Qp;refine⟨_,_,[(C4 N i,0)],Qy,rfl,by simp,fun _=>⟨by simp,hi8⟩,?_,?_,?_,fun w A bt β' u hβ hp=>?_⟩
     ·intro id bx hm;simp only[List.mem_singleton] at hm;cases hm;exact⟨trivial,fun _ e=>by cases e⟩
     ·intro id Bf;simp only[Bo,B6,Am,List.mem_singleton] at Bf;subst Bf;exact⟨_,List.mem_cons_self⟩
     ·intro id cells hm;simp only[List.mem_singleton] at hm;cases hm
     ·obtain⟨es,n',c',h1,h2⟩:=hp;cases h1;have h0:=hβ (C4 N i,0) List.mem_cons_self;simp only at h0;refine⟨?_,fun id bx hm=>?_,fun id bx b' o' hm Gi j hj=>?_⟩
      ·rcases h2 with⟨h3,rfl,_,h5⟩|⟨b,ob,cap,h3,h4,h5,h6,h7,_⟩
       ·exact .inl ⟨h0.trans h3,rfl,rfl,h5⟩
       ·exact .inr ⟨b,ob,ob,cap,h0.trans h3,h4,.inl rfl,h5,h6,h7⟩
      ·simp only[List.mem_singleton] at hm;cases hm;exact S1 h2 h0
      ·simp only[List.mem_singleton] at hm;cases hm;rw[h0] at Gi;exact .inr ⟨o',_,Gi,hj,.inr rfl⟩
   ·cases Qy
  ·rename_i PQ;cases E6:B0 P t<;>rw[E6] at hk
   ·simp only[cond_false] at hk;obtain⟨cs,bs,qs,I1,hl,On,hb,J5,Ee,hF,Gw,hv⟩:=Mt hk;obtain⟨c,cs',Xt,Qy⟩:=A6 I1;subst Xt;obtain⟨Ut,PH⟩:=C6 Qy;subst Ut;have hFc:=hF c (by simp)
    have hnL:Uc p=false∨∃ps,p=.pbox ps:=by
     cases p<;>first|exact .inl rfl|exact .inr ⟨_,rfl⟩|exact absurd rfl (PQ _)
    have hpb:∀ps,p ≠ .pbox ps:=by
     rintro ps rfl
     cases JS:Gr P t with
     |nil=>rw[JS] at On;simp at On
     |cons t' ts=>
      rw[JS] at hk;unfold V7 Aax at hk;obtain⟨q,qs1,hq,Dn⟩:=A6 hk;cases hq;cases t'<;>simp[Uh,R8,Ak,Aq,Az,WV] at Dn
    have hpa:∀ps,p ≠ .agg ps:=by
     rintro ps rfl
     cases JS:Gr P t with
     |nil=>rw[JS] at On;simp at On
     |cons t' ts=>
      rw[JS] at hk;unfold V7 Aax at hk;obtain⟨q,qs1,hq,Dn⟩:=A6 hk;cases hq;cases t'<;>simp[Uh,R8,Ak,Aq,Az,WV] at Dn
    have hnL:Uc p=false:=hnL.elim id (fun ⟨ps,e⟩=>absurd e (hpb ps))
    have Q3:Bo c=Am c:=by cases c<;>first|rfl|exact hFc.elim
    refine⟨c,bs,qs.map (fun q=>(q.1,q.2+1)),PH,by rw[hb];simp,?_,(fun h=>by rw[hnL] at h;cases h),?_,fun id Bf=>Gw c (by simp) id (by rw[←Q3];exact Bf),nost Ee,fun w A bt β' u hβ hp=>?_⟩
    ·intro q hq q' Ex e;obtain⟨q0,Qq,rfl⟩:=List.mem_map.1 hq;obtain⟨q1,Hg,rfl⟩:=List.mem_map.1 Ex;exact J5 q0 Qq q1 Hg (by simp only at e;omega)
    ·intro id bx hm;obtain⟨c,rfl⟩:=Ee id bx hm;exact⟨trivial,fun _ e=>by cases e⟩
    ·have Ck:Fd w A (bt 1) p u:=by cases p<;>first|exact hp.2|exact absurd rfl (hpa _)|exact absurd rfl (hpb _)|exact absurd rfl (PQ _)
     have hβ1:∀q∈qs,β' q.1=bt (1+q.2):=fun q hq=>by rw[hβ _ (List.mem_map_of_mem hq),Nat.add_comm]
     obtain⟨h6,h7⟩:=hv w A bt β' 1 [u] hβ1 ⟨Ck,trivial⟩;refine⟨?_,h7,fun id bx b' o' hm Gi j hj=>.inl (owns hb Ee hβ1 id bx b' o' hm Gi j hj)⟩
     have h8:=h6.1;cases c<;>first|exact h8|exact hFc.elim
   ·simp only[cond_true] at hk;obtain⟨ps,Gm,Dn⟩:=F2 hk;subst Gm;obtain⟨cs,bs,qs,I1,hl,On,hb,J5,Ee,hF,Gw,hv⟩:=Mt Dn;refine⟨_,bs,qs.map (fun q=>(q.1,q.2+1)),I1,by rw[hb];simp,?_,(fun h=>by cases h),?_,fun id Bf=>?_,nost Ee,fun w A bt β' u hβ hp=>?_⟩
    ·intro q hq q' Ex e;obtain⟨q0,Qq,rfl⟩:=List.mem_map.1 hq;obtain⟨q1,Hg,rfl⟩:=List.mem_map.1 Ex;exact J5 q0 Qq q1 Hg (by simp only at e;omega)
    ·intro id bx hm;obtain⟨c,rfl⟩:=Ee id bx hm;exact⟨trivial,fun _ e=>by cases e⟩
    ·obtain⟨c,hc,hi⟩:=List.mem_flatMap.1 (show id∈cs.flatMap Am from Bf)
     exact Gw c hc id hi
    ·obtain⟨vs,h1,_,h3⟩:=hp;have hβ1:∀q∈qs,β' q.1=bt (1+q.2):=fun q hq=>by rw[hβ _ (List.mem_map_of_mem hq),Nat.add_comm]
     obtain⟨h6,h7⟩:=hv w A bt β' 1 vs hβ1 h3;exact⟨⟨vs,h1,h6⟩,h7,fun id bx b' o' hm Gi j hj=>.inl (owns hb Ee hβ1 id bx b' o' hm Gi j hj)⟩
theorem MY:∀{ts:List TypeId}{i:Nat}{ps:List PV}{K:List (Nat × PV)->List (Nat × Bk)->Option R},Aad P N i ts ps K=some r ->
  ∃tms bs,∃qs:List (Nat × Nat × Nat),K tms bs=some r∧bs.map (·.1)=qs.map (·.1)∧(∀q∈qs,i<=q.2.1)∧(∀q∈qs,∀q'∈qs,q.2=q'.2->q.1=q'.1) ∧
   (∀k p,ps[k]?=some p->Uc p=true->(C4 N (i+k),i+k,0)∈qs∧i+k<8)∧(∀id bx,(id,bx)∈bs->Cu (some bx)∧∀c,bx=.st c->∃k p,ps[k]?=some p∧Uc p=true∧id=C4 N (i+k)) ∧
   (∀j,∀id∈Bo (lk tms j),∃bx,(id,bx)∈bs)∧Uo bs ∧
   ∀(w:World) (A:Nat->Prop) (bt:Ud) (β':Bt) (us:List Value),(∀q∈qs,β' q.1=bt q.2.1 q.2.2)->Il w A bt i ps us ->
    (∀j,(∃u,i<=j∧us[j-i]?=some u∧Dx w A β' (lk tms j) u)∨(lk tms j=.top∧(i<=j->us[j-i]?=none)))∧(∀id bx,(id,bx)∈bs->Nf w A β' id bx) ∧
    ∀id bx b o,(id,bx)∈bs->β' id=some (b,o)->∀j,BR bx o j->∃k p,ps[k]?=some p∧Akd (bt (i+k)) p b j
 |[],i,ps,K,hk=>by
  obtain⟨Wx,hk⟩:=C6 hk;subst Wx;refine⟨[],[],[],hk,rfl,by simp,by simp,by simp,by simp,(fun j id Bf=>by cases Bf),(by intro i cells hm;cases hm),fun w A bt β' us _ h=>?_⟩
  cases us with
  |nil=>exact⟨fun j=>.inr ⟨rfl,fun _=>by simp⟩,by simp,by simp⟩
  |cons u us=>exact h.elim
 |t::ts,i,ps,K,hk=>by
  unfold Aad at hk;obtain⟨p,ps',Wx,Dn⟩:=A6 hk;subst Wx;obtain⟨v,bs,qs,D8,hb,hqi,Zm,I2,hr,PI,hv⟩:=Agg Dn;obtain⟨tms,bs',qs',I1,Gi,Akf,A1k,Aou,A1q,hr',Auo,Lh⟩:=MY D8;refine⟨(i,v)::tms,bs++bs',qs.map (fun q=>(q.1,i,q.2))++qs',I1,by simp only[List.map_append,hb,Gi];simp,?_,?_,?_,?_,?_,?_,fun w A bt β' us hβ hp=>?_⟩
  ·intro q hq;rcases List.mem_append.1 hq with hq|hq
   ·obtain⟨q0,Qq,rfl⟩:=List.mem_map.1 hq;exact Nat.le_refl _
   ·have:=Akf q hq;omega
  ·intro q hq q' Ex e;rcases List.mem_append.1 hq with hq|hq
   ·obtain⟨q0,Qq,rfl⟩:=List.mem_map.1 hq;rcases List.mem_append.1 Ex with Ex|Ex
    ·obtain⟨q1,Hg,rfl⟩:=List.mem_map.1 Ex;simp only[Prod.mk.injEq,true_and] at e;exact hqi q0 Qq q1 Hg e
    ·have:=Akf q' Ex;rw[←e] at this;simp only at this;omega
   ·have h5:=Akf q hq;rcases List.mem_append.1 Ex with Ex|Ex
    ·obtain⟨q1,Hg,rfl⟩:=List.mem_map.1 Ex;rw[e] at h5;simp only at h5;omega
    ·exact A1k q hq q' Ex e
  ·intro k p' I3 hL;cases k with
   |zero=>
    simp only[List.getElem?_cons_zero,Option.some.injEq] at I3;subst I3;obtain⟨h1,h2⟩:=Zm hL;exact⟨List.mem_append.2 (.inl (List.mem_map.2 ⟨_,h1,rfl⟩)),h2⟩
   |succ k=>
    obtain⟨h1,h2⟩:=Aou k p' (by simpa using I3) hL
    rw[show i+1+k=i+(k+1) by omega] at h1 h2
    exact⟨List.mem_append.2 (.inr h1),h2⟩
  ·intro id bx hm;rcases List.mem_append.1 hm with hm|hm
   ·obtain⟨h1,h2⟩:=I2 id bx hm;exact⟨h1,fun c hc=>⟨0,p,rfl,(h2 c hc).2,(h2 c hc).1⟩⟩
   ·obtain⟨h1,h2⟩:=A1q id bx hm;refine⟨h1,fun c hc=>?_⟩
    obtain⟨k,p',h3,h4,h5⟩:=h2 c hc;exact⟨k+1,p',by simpa using h3,h4,by rw[h5,show i+1+k=i+(k+1) by omega]⟩
  ·intro j id Bf;unfold lk at Bf;cases hbq:Nat.beq j i<;>rw[hbq] at Bf
   ·obtain⟨bx,h1⟩:=hr' j id Bf;exact⟨bx,List.mem_append.2 (.inr h1)⟩
   ·obtain⟨bx,h1⟩:=hr id Bf;exact⟨bx,List.mem_append.2 (.inl h1)⟩
  ·intro id cells hm c hc k hk;rcases List.mem_append.1 hm with hm|hm
   ·obtain⟨bx,h1⟩:=PI id cells hm c hc k hk;exact⟨bx,List.mem_append.2 (.inl h1)⟩
   ·obtain⟨bx,h1⟩:=Auo id cells hm c hc k hk;exact⟨bx,List.mem_append.2 (.inr h1)⟩
  ·cases us with
   |nil=>exact hp.elim
   |cons u us=>
    obtain⟨h1,h2,h3⟩:=hv w A (bt i) β' u (fun q hq=>hβ _ (List.mem_append.2 (.inl (List.mem_map_of_mem hq)))) hp.1
    obtain⟨GU,h2',h3'⟩:=Lh w A bt β' us (fun q hq=>hβ q (List.mem_append.2 (.inr hq))) hp.2
    refine⟨fun j=>?_,fun id bx hm=>?_,fun id bx b o hm GK j hj=>?_⟩
    ·unfold lk;cases hbq:Nat.beq j i
     ·have Ec:=Jz hbq;simp only[cond_false];rcases GU j with⟨u',h4,h5,h6⟩|⟨h4,h5⟩
      ·refine .inl ⟨u',by omega,?_,h6⟩
       rw[show j-i=(j-(i+1))+1 by omega]
       simpa using h5
      ·refine .inr ⟨h4,fun hij=>?_⟩
       rw[show j-i=(j-(i+1))+1 by omega]
       simpa using h5 (by omega)
     ·have:=Nat.eq_of_beq_eq_true hbq;subst this;exact .inl ⟨u,Nat.le_refl _,by simp,h1⟩
    ·rcases List.mem_append.1 hm with hm|hm
     ·exact h2 id bx hm
     ·exact h2' id bx hm
    ·rcases List.mem_append.1 hm with hm|hm
     ·exact⟨0,p,rfl,h3 id bx b o hm GK j hj⟩
     ·obtain⟨k,p',h4,h5⟩:=h3' id bx b o hm GK j hj;exact⟨k+1,p',by simpa using h4,by rw[show i+(k+1)=i+1+k by omega];exact h5⟩
def QS (bt:Ud)(args:List PV)(h8:∀k p,args[k]?=some p->Uc p=true->k<8):Gq:=
 ⟨UR bt,Yr bt args,fun i=>∃p,args[i]?=some p∧Uc p=true,fun i=>bt i 0,fun i ⟨p,h1,h2⟩=>h8 i p h1 h2⟩
theorem UO {ts:List TypeId}{args:List PV}{us:List Value}{bt:Ud}{K:List (Nat × PV)->List (Nat × Bk)->Option R} (Y1:Ins w Y bt args us)(hk:Aad P N 0 ts args K=some r):
  ∃tms bs,K tms bs=some r∧(Bn (fun _=>none) bs=true->us.length<=N->∃(h8:∀k p,args[k]?=some p->Uc p=true->k<8),∃β0,
   Cj N w (QS bt args h8) Y β0 ⟨lk tms,Jl bs⟩ { tmps:=us.toArray++Array.replicate (N-us.toArray.size) undef,defers:=[] } w):=by
 obtain⟨tms,bs,qs,Dn,hb,Qq,hqi,Zm,I2,hr,PI,hv⟩:=MY hk;refine⟨tms,bs,Dn,fun Lw hN=>?_⟩
 have OQ:=Ny Lw
 have h8:∀k p,args[k]?=some p->Uc p=true->k<8:=fun k p h1 h2=>by
  have:=(Zm k p h1 h2).2;omega
 have AW:(qs.map (·.1)).Nodup:=by rw[←hb];exact OQ
 obtain⟨β0,hβ0⟩:∃β0:Bt,∀q∈qs,β0 q.1=bt q.2.1 q.2.2:=by
  have:∀(l:List (Nat × Nat × Nat)),(l.map (·.1)).Nodup->∃β0:Bt,∀q∈l,β0 q.1=bt q.2.1 q.2.2:=by
   intro l
   induction l with
   |nil=>intro _;exact⟨fun _=>none,by simp⟩
   |cons q l ih=>
    intro hn;simp only[List.map_cons,List.nodup_cons] at hn;obtain⟨b1,h1⟩:=ih hn.2;refine⟨Cg b1 q.1 (bt q.2.1 q.2.2),fun q' Ex=>?_⟩
    rcases List.mem_cons.1 Ex with rfl|Ex
    ·exact Al _ _ _
    ·have Ec:q'.1≠q.1:=fun e=>hn.1 (by rw[←e];exact List.mem_map.2 ⟨q',Ex,rfl⟩)
     rw[Ai _ _ Ec];exact h1 q' Ex
  exact this qs AW
 refine⟨h8,β0,?_⟩;obtain⟨hs,JP,hL⟩:=hv w _ bt β0 us hβ0 Y1.args
 have hqm:∀id bx,(id,bx)∈bs->∃ik,(id,ik)∈qs∧β0 id=bt ik.1 ik.2:=by
  intro id bx hm;have:id∈qs.map (·.1):=by rw[←hb];exact List.mem_map.2 ⟨_,hm,rfl⟩
  obtain⟨q,hq,rfl⟩:=List.mem_map.1 this;exact⟨q.2,hq,hβ0 q hq⟩
 have hX:∀b,HW (Jl bs) β0 b->UR bt b:=by
  rintro b ⟨id,o,hl,hβ⟩
  cases hq:Jl bs id with
  |none=>rw[hq] at hl;exact hl.elim
  |some bx=>
   obtain⟨ik,_,h2⟩:=hqm id bx (J2 hq);rw[h2] at hβ;exact⟨_,_,_,hβ⟩
 have hA:∀b,Ct (Jl bs) β0 Y b->UR bt b∨Y b:=fun b hb=>hb.imp (hX b) id
 have Adf:∀{p:PV} {u:Value},Dx w (fun b=>UR bt b∨Y b) β0 p u->Dx w (Ct (Jl bs) β0 Y) β0 p u:=fun h=>h.step (B2.refl _ _) (fun b _=>hA b) (fun _ _=>rfl)
 refine⟨rfl,by simp;omega,fun i hi=>?_,fun i hi=>?_,?_,?_,?_,fun i hi id Bf=>?_,?_,fun b hb=>.inl (hX b hb),?_,?_,?_,fun b hY hXb=>Y1.Yx b hY (hX b hXb),Y1.Ylt,⟨rfl,rfl,rfl,B2.refl _ _,fun _ _ _ _=>⟨rfl,rfl⟩⟩⟩
 ·rcases hs i with⟨u,_,h,_⟩|⟨h,_⟩
  ·rw[Nat.sub_zero,List.getElem?_eq_none (by omega)] at h;cases h
  ·exact h
 ·rcases hs i with⟨u,_,h,hv⟩|⟨h,h'⟩
  ·rw[Nat.sub_zero] at h
   have B4:i<us.length:=by
    rcases Nat.lt_or_ge i us.length with h'|h'
    ·exact h'
    ·rw[List.getElem?_eq_none h'] at h;cases h
   have:(us.toArray++Array.replicate (N-us.toArray.size) undef).getD i undef=u:=by
    rw[Array.getD_eq_getD_getElem?,Array.getElem?_append_left (by simpa using B4)]
    simp[h]
   show Dx w _ _ _ ((us.toArray++Array.replicate (N-us.toArray.size) undef).getD i undef);rw[this];exact Adf hv
  ·show Dx w _ _ (lk tms i) _;rw[h];exact Ar.top _
 ·intro id bx hq;exact (JP id bx (J2 hq)).step' hA
 ·intro id id' b o o' hl Ib hβ hβ';cases hq:Jl bs id with
  |none=>change Cu (Jl bs id) at hl;rw[hq] at hl;exact hl.elim
  |some bx=>
   cases Ex:Jl bs id' with
   |none=>change Cu (Jl bs id') at Ib;rw[Ex] at Ib;exact Ib.elim
   |some bx'=>
    obtain⟨ik,h1,h2⟩:=hqm id bx (J2 hq);obtain⟨ik',GU,h2'⟩:=hqm id' bx' (J2 Ex);rw[h2] at hβ;rw[h2'] at hβ';obtain⟨h3,h4⟩:=Y1.inj _ _ _ _ b o o' hβ hβ';exact hqi _ h1 _ GU (Prod.ext h3 h4)
 ·intro id b o hn hβ;cases hq:Jl bs id with
  |none=>exact absurd hq hn
  |some bx=>
   obtain⟨ik,h1,h2⟩:=hqm id bx (J2 hq);rw[h2] at hβ;exact Y1.lt b ⟨_,_,_,hβ⟩
 ·obtain⟨bx,hm⟩:=hr i id Bf;show Jl bs id≠none;rw[GS OQ hm];simp
 ·intro id cells hq c hc k hk;obtain⟨bx,hm⟩:=PI id cells (J2 hq) c hc k hk;show Jl bs k≠none;rw[GS OQ hm];simp
 ·intro id bx b o hq hl hβ _ j hj;obtain⟨k,p,h1,h2⟩:=hL id bx b o (J2 hq) hβ j hj;rw[Nat.zero_add] at h2;exact⟨k,p,h1,h2⟩
 ·rintro i ⟨p,h1,h2⟩
  have h3:=(Zm i p h1 h2).1;rw[Nat.zero_add] at h3;refine⟨?_,hβ0 _ h3⟩;have:C4 N i∈bs.map (·.1):=by rw[hb];exact List.mem_map.2 ⟨_,h3,rfl⟩
  obtain⟨⟨id,bx⟩,hm,e⟩:=List.mem_map.1 this;show Jl bs (C4 N i)≠none;rw[←e,GS OQ hm];simp
 ·intro id c b o hq _ _;obtain⟨k,p,h1,h2,h3⟩:=(I2 id _ (J2 hq)).2 c rfl;rw[Nat.zero_add] at h3;exact⟨k,h3,p,h1,h2⟩
end
open Go.RowKit
def Ii (β:Bt)(l:List (Option Nat)) (j:Nat):Option (Nat × Nat):=((l[j]?).bind id).bind β
section
variable {R:Type} {r:R} {P:Program} {N:Nat} {w0:World} {X0:Gq} {Y:Nat->Prop} {β β':Bt} {s:St} {a:Act} {w w':World} {A:Nat->Prop}
def Acw (s:St)(l:List (Option Nat)):Prop:=∀id,some id∈l->Cu (s.hp id)
def Jk (s:St)(z:List Nat):Prop:=∀id∈z,∃f c,s.hp id=some (.ar f c)
theorem DT (h : Cj N w0 X0 Y β s a w) {shr : Bool} {t : CT} {p : PV} {K : PV -> List Nat -> List Nat -> Option R} (hk : TG shr s.hp t p K = some r) :
    ∃ c q z, K c (Option.toList q) z = some r ∧ (∀ x, c ≠ .agg x ∧ c ≠ .pbox x) ∧ BM p ∧ (∀ id, q = some id -> ∃ c, s.hp id = some (.ar false c)) ∧ Jk s z ∧
      ∀ (fz : List Nat) A u, (∀ i ∈ z, i ∈ fz) -> Jk s fz -> (∀ b, A b -> Ct (Af s.hp fz) β Y b) -> Bu w (Ct s.hp β Y) β p u -> Fd w A (q.bind β) c u := by
  have notree : ∀ {c : PV}, Q6 c -> ∀ x, c ≠ .agg x ∧ c ≠ .pbox x := fun hT x => ⟨S5 hT x, by rintro rfl; exact hT⟩
  unfold TG at hk
  cases shr <;> simp only[cond_true, cond_false] at hk
  · have tree : ∀ t', (∀ es, t' ≠ .sl es) -> (Uh t' p fun c => K c [] []) = some r -> ∃ c q z, K c (Option.toList q) z = some r ∧ (∀ x, c ≠ .agg x ∧ c ≠ .pbox x) ∧ BM p ∧ (∀ id, q = some id -> ∃ c, s.hp id = some (.ar false c)) ∧ Jk s z ∧
        ∀ (fz : List Nat) A u, (∀ i ∈ z, i ∈ fz) -> Jk s fz -> (∀ b, A b -> Ct (Af s.hp fz) β Y b) -> Bu w (Ct s.hp β Y) β p u -> Fd w A (q.bind β) c u := by
      intro t' Ec hk
      obtain⟨c, Dn, hT, Ze, hv⟩ := J0 hk
      refine⟨c, none, [], Dn, notree hT, Nu Ze, by simp, (by intro i hi; cases hi), fun fz A u _ _ hA hc => H7 hT ?_⟩
      exact (hv w _ β u hc).1.step (B2.refl _ _) (fun b _ hb => Kj (hA b hb))
    unfold Agp at hk
    cases t with
    | sl es =>
      dsimp only at hk
      split at hk
      · rename_i id es' off n
        cases hb : (Nat.beq es' es && Nat.beq off 0) <;> rw[hb] at hk
        · cases hk
        · simp only[Bool.and_eq_true] at hb
          have he := Nat.eq_of_beq_eq_true hb.1
          have ho := Nat.eq_of_beq_eq_true hb.2
          subst he ho
          simp only[cond_true] at hk
          split at hk
          · rename_i c h0
            obtain⟨hl, Dn⟩ := Aj hk
            refine⟨_, some id, [], Dn, by simp, trivial, fun i hi => by cases hi; exact⟨c, h0⟩, (by intro i hi; cases hi), fun fz A u _ _ hA hc => ?_⟩
            rcases hc with⟨h1, _, rfl, h4⟩ | ⟨b, o, x, cap, h1, h2, hx, h3, h4, h5⟩
            · exact .inl ⟨h1, rfl, by simp, h4⟩
            · have hx : x = o := by rcases hx with e | ⟨_, e⟩ <;> omega
              subst hx
              rcases h.box id _ h0 with⟨h6, _⟩ | ⟨b', o', h6, h7, h8, _⟩
              · rw[h1] at h6; cases h6
              · rw[h1] at h6
                cases h6
                refine .inr ⟨b, x, cap, h1, h2, h3, h4, h5, fun j q hq => ?_, fun j hj Om => h8 rfl j hj Om⟩
                rw[List.getElem?_take] at hq
                split at hq
                · obtain⟨v, hv, h9, ht⟩ := h7 j q hq
                  exact⟨v, hv, h9, ht.step (B2.refl _ _) (fun b _ hb => Kj (hA b hb))⟩
                · cases hq
          · cases hk
      · obtain⟨z, n, c, Dn, hp⟩ := Ep hk
        obtain⟨hz, D8⟩ := Aj Dn
        subst hz
        have hpF : BM p := by rcases hp with e | ⟨e, _⟩ <;> (rw[e]; trivial)
        refine⟨_, none, [], D8, by simp, hpF, by simp, (by intro i hi; cases hi), fun fz A u _ _ _ hc => ?_⟩
        have hu : u = .slice none 0 0 := by
          rcases hp with rfl | ⟨rfl, _⟩
          · cases hc; rfl
          · exact Ar.val hc
        exact .inl ⟨rfl, rfl, rfl, none, hu⟩
    | int k => exact tree _ (by simp) hk
    | bool => exact tree _ (by simp) hk
    | str => exact tree _ (by simp) hk
    | any => exact tree _ (by simp) hk
  · obtain⟨c, m, Dn, hT, hF, hm, hv⟩ := Yi h hk
    exact⟨c, none, m, Dn, notree hT, hF, by simp, hm, fun fz A u h1 h2 hA hc => H7 hT ((hv fz h1 h2 u hc).1.step (B2.refl _ _) (fun b _ hb => hA b hb))⟩
structure W0 (s:St) (β:Bt) (Y:Nat->Prop) (w:World) (cs:List PV) (l:List (Option Nat)) (z:List Nat) (ps:List PV):Prop where
 len:l.length=cs.length
 pl:cs.length=ps.length
 na:∀c∈cs,∀x,c ≠ .agg x∧c ≠ .pbox x
 fr:∀p∈ps,BM p
 own:∀id,some id∈l->∃c,s.hp id=some (.ar false c)
 row:Jk s z
 sem:∀(fz:List Nat) A us,(∀i∈z,i∈fz)->Jk s fz->(∀b,A b->Ct (Af s.hp fz) β Y b)->Bb (Bu w (Ct s.hp β Y) β) ps us->∀own j0,(∀j,j<l.length->own (j0+j)=Ii β l j)->D6 w A own j0 cs us
theorem W0.nil:W0 s β Y w [] [] [] []:=⟨rfl,rfl,by simp,by simp,by simp,(by intro i hi;cases hi),fun fz A us _ _ _ hu own j0 _=>by
 cases us with
 |nil=>trivial
 |cons u us=>exact hu.elim⟩
theorem W0.cons {c p:PV}{q:Option Nat}{z zs:List Nat}{cs ps:List PV}{l:List (Option Nat)} (U9:∀x,c ≠ .agg x∧c ≠ .pbox x)(hF:BM p)(hq:∀id,q=some id->∃c,s.hp id=some (.ar false c)) (hz:Jk s z)
  (hv:∀(fz:List Nat) A u,(∀i∈z,i∈fz)->Jk s fz->(∀b,A b->Ct (Af s.hp fz) β Y b)->Bu w (Ct s.hp β Y) β p u->Fd w A (q.bind β) c u) (H:W0 s β Y w cs l zs ps):W0 s β Y w (c::cs) (q::l) (z++zs) (p::ps):=by
 refine⟨by simp[H.len],by simp[H.pl],?_,?_,?_,?_,fun fz A us OD Lk hA hu own j0 Fa=>?_⟩
 ·intro x hx;rcases List.mem_cons.1 hx with rfl|hx
  ·exact U9
  ·exact H.na x hx
 ·intro x hx;rcases List.mem_cons.1 hx with rfl|hx
  ·exact hF
  ·exact H.fr x hx
 ·intro id Bf;rcases List.mem_cons.1 Bf with e|Bf
  ·exact hq id e.symm
  ·exact H.own id Bf
 ·intro i hi;rcases List.mem_append.1 hi with hi|hi
  ·exact hz i hi
  ·exact H.row i hi
 ·cases us with
  |nil=>exact hu.elim
  |cons u us=>
   have h0:=Fa 0 (by simp)
   rw[Nat.add_zero] at h0;refine⟨?_,H.sem fz A us (fun i hi=>OD i (by simp[hi])) Lk hA hu.2 own (j0+1) fun j hj=>?_⟩
   ·rw[h0];exact hv fz A u (fun i hi=>OD i (by simp[hi])) Lk hA hu.1
   ·have:=Fa (j+1) (by simp;omega)
    rw[show j0+1+j=j0+(j+1) by omega,this]
    simp[Ii]
theorem M8 (h:Cj N w0 X0 Y β s a w){shr:Bool}:∀{ts:List CT}{ps:List PV}{K:List PV->List Nat->List Nat->Option R},Vm shr s.hp ts ps K=some r ->
  ∃cs l z,K cs (l.filterMap id) z=some r∧W0 s β Y w cs l z ps
 |[],[],K,hk=>⟨[],[],[],hk,W0.nil⟩
 |[],_::_,K,hk=>by cases hk
 |_::_,[],K,hk=>by cases hk
 |t::ts,p::ps,K,hk=>by
  unfold Vm at hk;obtain⟨c,q,z,Dn,U9,hF,hq,hz,hv⟩:=DT h hk;obtain⟨cs,l,zs,D8,H⟩:=M8 h Dn;refine⟨c::cs,q::l,z++zs,?_,W0.cons U9 hF hq hz hv H⟩;cases q<;>exact D8
theorem Vv (h:Cj N w0 X0 Y β s a w):∀{ts:List CT}{ws ps:List PV}{K:List PV->List Nat->List Nat->Option R},Xq s.hp ts ws ps K=some r ->
  ∃cs l z,K cs (l.filterMap id) z=some r∧cs.length=ws.length∧W0 s β Y w cs l z ps
 |[],[],[],K,hk=>⟨[],[],[],hk,rfl,W0.nil⟩
 |[],_::_,_,K,hk=>by cases hk
 |[],[],_::_,K,hk=>by cases hk
 |_::_,[],_,K,hk=>by cases hk
 |_::_,_::_,[],K,hk=>by cases hk
 |t::ts,x::ws,p::ps,K,hk=>by
  unfold Xq at hk;obtain⟨c,q,z,Dn,U9,hF,hq,hz,hv⟩:=DT h hk;obtain⟨cs,l,zs,D8,hl,H⟩:=Vv h Dn;refine⟨c::cs,q::l,z++zs,?_,by simp[hl],W0.cons U9 hF hq hz hv H⟩
  cases q<;>exact D8
theorem OK {own:Bt}{zz j:Nat}{p:PV}{u:Value}(hp:∀x,p ≠ .agg x∧p ≠ .pbox x)(h:D6 w A own j [p] [u]):Agm w A own zz j p u:=by
 cases p<;>first|exact h.1|exact absurd rfl (hp _).1|exact absurd rfl (hp _).2
theorem SE (h:Cj N w0 X0 Y β s a w){id b o:Nat}{c cs:List PV}{l:List (Option Nat)} {z:List Nat}(h0:s.hp id=some (.st c)) (hβ:β id=some (b,o)) (H:W0 s β Y w cs l z c){fz:List Nat}{A:Nat->Prop}(h1:∀i∈z,i∈fz)(h2:Jk s fz)(hA:∀b,A b->Ct (Af s.hp fz) β Y b)
  {own:Bt} {j0:Nat} (Fa:∀j,j<l.length->own (j0+j)=Ii β l j):Aag w A own j0 b o cs:=by
 obtain⟨b',o',Ee,Gw,Rv⟩:=h.box id _ h0;rw[hβ] at Ee;cases Ee;refine⟨c.mapIdx (fun j _=>(w.cell? ⟨b,o+j,none⟩).getD undef),H.sem fz A _ h1 h2 hA ?_ own j0 Fa,?_,fun k hk=>Rv k (by have:=H.pl;omega)⟩
 ·refine Bb.of_at (by simp) fun j p v hp hv=>?_
  obtain⟨u,hu,LK⟩:=Gw j p hp;rw[List.getElem?_mapIdx,hp,Option.map_some,hu] at hv;simp at hv;subst hv;exact LK
 ·intro k v TX;rw[List.getElem?_mapIdx] at TX;cases hp:c[k]? with
  |none=>rw[hp] at TX;cases TX
  |some p=>
   obtain⟨u,hu,LK⟩:=Gw k p hp;rw[hp,Option.map_some,hu] at TX;simp at TX;subst TX;exact hu
theorem UJ (h:Cj N w0 X0 Y β s a w){shr:Bool}{t:TypeId}{p:PV}{u:Value}(hp:Dx w (Ct s.hp β Y) β p u) {K:PV->List Nat->List Nat->Option R}(hk:Aak P shr s.hp t p K=some r):
  ∃v l z,K v (l.filterMap id) z=some r∧l.length=UE v∧Acw s l∧Jk s z ∧
   ∀(fz:List Nat) A zz,(∀i∈z,i∈fz)->Jk s fz->(∀b,A b->Ct (Af s.hp fz) β Y b)->(∀id c b o,some id∈l->s.hp id=some (.st c)->β id=some (b,o)->zz<=b) ->
    ∀own j0,(∀j,j<l.length->own (j0+j)=Ii β l j)->Agm w A own zz j0 v u:=by
 unfold Aak at hk;split at hk
 ·rename_i e he;split at hk
  ·rename_i id off;split at hk
   ·rename_i c h0;obtain⟨hof,Dn⟩:=Aj hk;have hof:=Nat.eq_of_beq_eq_true hof;subst hof;obtain⟨cs,l,z,D8,H⟩:=M8 h Dn;obtain⟨b,o,hβ,hu⟩:=hp;refine⟨.pbox cs,some id::l,z,D8,by simp only[UE,List.length_cons,H.len];omega,?_,H.row,fun fz A zz h1 h2 hA hz own j0 Fa=>?_⟩
    ·intro i hi;rcases List.mem_cons.1 hi with e|hi
     ·cases e;rw[h0];trivial
     ·obtain⟨c',Nn⟩:=H.own i hi;rw[Nn];trivial
    ·have h3:=Fa 0 (by simp)
     rw[Nat.add_zero] at h3;refine⟨b,o,by rw[h3];exact hβ,hz id c b o (by simp) h0 hβ,by rw[hu,Nat.add_zero],SE h h0 hβ H h1 h2 hA fun j hj=>?_⟩
     have:=Fa (j+1) (by simp;omega)
     rw[show j0+1+j=j0+(j+1) by omega,this]
     simp[Ii]
   ·cases hk
  ·cases hk
 ·cases E6:B0 P t<;>rw[E6] at hk<;>simp only[cond_true,cond_false] at hk
  ·obtain⟨cs,l,z,Dn,H⟩:=M8 h hk;obtain⟨c,cs',Xt,D8⟩:=A6 Dn;subst Xt;obtain⟨Ut,I1⟩:=C6 D8;subst Ut;have U9:=H.na c (by simp)
   have AU:UE c=1:=by cases c<;>first|rfl|exact absurd rfl (U9 _).1|exact absurd rfl (U9 _).2
   have hF:=H.fr p (by simp)
   refine⟨c,l,z,I1,by rw[AU];exact H.len,fun i hi=>?_,H.row,fun fz A zz h1 h2 hA _ own j0 Fa=>OK U9 (H.sem fz A [u] h1 h2 hA ⟨?_,trivial⟩ own j0 Fa)⟩
   ·obtain⟨c',Nn⟩:=H.own i hi;rw[Nn];trivial
   ·cases p<;>first|exact hp|exact hF.elim
  ·obtain⟨ps,Wx,Dn⟩:=F2 hk;subst Wx;obtain⟨cs,l,z,D8,H⟩:=M8 h Dn;obtain⟨vs,hu,Of⟩:=hp;refine⟨.agg cs,l,z,D8,H.len,fun i hi=>?_,H.row,fun fz A zz h1 h2 hA _ own j0 Fa=>⟨vs,hu,H.sem fz A vs h1 h2 hA Of own j0 Fa⟩⟩
   obtain⟨c',Nn⟩:=H.own i hi;rw[Nn];trivial
def IF (P:Program)(tmps:Array Value)(w:World)(rv:ResultVar)(u:Value):Prop:=
  (match rv with
   |.tmp t=>(pure (tmps.getD t undef):Sem Value)
   |.cell a t=>do loadVar t (←asAddr (tmps.getD a undef))).run P w=.ok u w
theorem Abn (h:Cj N w0 X0 Y β s a w)(t:Nat):Dx w (Ct s.hp β Y) β (s.tm t) (a.tmps.getD t undef):=by
 rcases Nat.lt_or_ge t N with h'|h'
 ·exact h.tms t h'
 ·rw[h.tmo t h'];exact Ar.top _
theorem WY (h:Cj N w0 X0 Y β s a w){rv:ResultVar}{K:PV->Option R}(hk:ZP P s rv K=some r):∃p u,K p=some r∧IF P a.tmps w rv u∧Dx w (Ct s.hp β Y) β p u:=by
 unfold ZP at hk;split at hk
 ·rename_i t;exact⟨_,_,hk,rfl,Abn h t⟩
 ·rename_i x t;obtain⟨v,ad,val,Dn,Cv,hl,hv,_⟩:=MH h (Abn h x) hk;refine⟨v,val,Dn,?_,hv⟩;unfold IF;simp[Cv,asAddr,hl]
theorem R5 {l l':List (Option Nat)} {j:Nat}(h:j<l.length):Ii β (l++l') j=Ii β l j:=by
 unfold Ii;rw[List.getElem?_append_left h]
theorem R2 {l l':List (Option Nat)} {j:Nat}:Ii β (l++l') (l.length+j)=Ii β l' j:=by
 unfold Ii;rw[List.getElem?_append_right (by omega),Nat.add_sub_cancel_left]
theorem AA (h:Cj N w0 X0 Y β s a w){shr:Bool}:∀{rs:List ResultVar}{ts:List TypeId}{K:List PV->List Nat->List Nat->Option R},GH P shr s rs ts K=some r ->
  ∃vs l z us,K vs (l.filterMap id) z=some r∧Bb (IF P a.tmps w) rs us∧l.length=I6 vs∧Acw s l∧Jk s z ∧
   ∀(fz:List Nat) A zz,(∀i∈z,i∈fz)->Jk s fz->(∀b,A b->Ct (Af s.hp fz) β Y b)->(∀id c b o,some id∈l->s.hp id=some (.st c)->β id=some (b,o)->zz<=b) ->
    ∀own j0,(∀j,j<l.length->own (j0+j)=Ii β l j)->DV w A own zz j0 vs us
 |[],[],K,hk=>⟨[],[],[],[],hk,trivial,rfl,(by intro id Bf;cases Bf),(by intro id Bf;cases Bf),fun _ _ _ _ _ _ _ _ _ _=>trivial⟩
 |[],_::_,K,hk=>by cases hk
 |_::_,[],K,hk=>by cases hk
 |rv::rs,t::ts,K,hk=>by
  unfold GH at hk;obtain⟨p,u,Dn,hu,hp⟩:=WY h hk;obtain⟨v,l,z,D8,hl,hL,hz,hv⟩:=UJ h hp Dn;obtain⟨vs,l',z',us,I1,XT,Ib,VH,WB,Of⟩:=AA h D8;refine⟨v::vs,l++l',z++z',u::us,?_,⟨hu,XT⟩,by simp only[List.length_append,I6,List.map_cons,List.sum_cons,hl];rw[Ib];rfl,?_,?_,fun fz A zz h1 h2 hA E8 own j0 Fa=>⟨?_,?_⟩⟩
  ·rw[List.filterMap_append];exact I1
  ·intro id Bf;rcases List.mem_append.1 Bf with Bf|Bf
   ·exact hL id Bf
   ·exact VH id Bf
  ·intro id Bf;rcases List.mem_append.1 Bf with Bf|Bf
   ·exact hz id Bf
   ·exact WB id Bf
  ·exact hv fz A zz (fun i hi=>h1 i (by simp[hi])) h2 hA (fun id c b o hi=>E8 id c b o (by simp[hi])) own j0 fun j hj=>by rw[Fa j (by simp;omega),R5 hj]
  ·refine Of fz A zz (fun i hi=>h1 i (by simp[hi])) h2 hA (fun id c b o hi=>E8 id c b o (by simp[hi])) own (j0+UE v) fun j hj=>?_
   rw[←hl,Nat.add_assoc,Fa (l.length+j) (by simp;omega),R2]
theorem Nd (h:Cj N w0 X0 Y β s a w){bt:Ud}(hpt:∀i,X0.pt i=bt i 0):∀{ts:List TypeId}{i:Nat}{ps:List PV}{K:List (List PV)->List Nat->List Nat->List Nat->Option R},Vf P N s.hp i ts ps K=some r ->
  (∀k p,ps[k]?=some p->Uc p=true->X0.pn (i+k)) ->
  ∃os l z q,K os (l.filterMap id) z q=some r∧(∀id,some id∈l->∃c,s.hp id=some (.ar false c))∧Jk s z∧(∀id∈q,Cu (s.hp id))∧(∀k p,ps[k]?=some p->Uc p=true->C4 N (i+k)∈q) ∧
   ∀(fz:List Nat) A,(∀i∈z,i∈fz)->Jk s fz->(∀i∈q,i ∉ fz)->(∀b,A b->Ct (Af s.hp fz) β Y b) ->
    ∀own j0,(∀j,j<l.length->own (j0+j)=Ii β l j)->Q1 w A own bt j0 i ps os
 |[],i,ps,K,hk,_=>by
  obtain⟨Wx,hk⟩:=C6 hk;subst Wx;exact⟨[],[],[],[],hk,by simp,(by intro id Bf;cases Bf),by simp,by simp,fun _ _ _ _ _ _ _ _ _=>rfl⟩
 |t::ts,i,ps,K,hk,hpn=>by
  unfold Vf at hk;obtain⟨p,ps',Wx,Dn⟩:=A6 hk;subst Wx
  have Alq:∀k p,ps'[k]?=some p->Uc p=true->X0.pn (i+1+k):=fun k p' h1 h2=>by
   have:=hpn (k+1) p' (by simpa using h1) h2
   rw[show i+1+k=i+(k+1) by omega]
   exact this
  have hpq:∀{q:List Nat},(Uc p=true->C4 N i∈q)->(∀k p,ps'[k]?=some p->Uc p=true->C4 N (i+1+k)∈q)->∀k p',(p::ps')[k]?=some p'->Uc p'=true->C4 N (i+k)∈q:=by
   intro q h1 h2 k p' h3 h4;cases k with
   |zero=>
    simp only[List.getElem?_cons_zero,Option.some.injEq] at h3;subst h3;exact h1 h4
   |succ k=>
    have:=h2 k p' (by simpa using h3) h4
    rw[show i+1+k=i+(k+1) by omega] at this
    exact this
  split at Dn
  ·rename_i ws;obtain⟨e,he,D8⟩:=B3 Dn;split at D8
   ·rename_i c h0;obtain⟨cs,l,z,I1,J6,H⟩:=Vv h D8;obtain⟨os,l',z',q,Qy,VH,WB,Ex,hpi,hv⟩:=Nd h hpt I1 Alq;refine⟨cs::os,l++l',z++z',C4 N i::q,by rw[List.filterMap_append];exact Qy,?_,?_,?_,hpq (fun _=>List.mem_cons_self) (fun k p h1 h2=>List.mem_cons_of_mem _ (hpi k p h1 h2)),fun fz A h1 h2 h3 hA own j0 Fa=>?_⟩
    ·intro id Bf;rcases List.mem_append.1 Bf with Bf|Bf
     ·exact H.own id Bf
     ·exact VH id Bf
    ·intro id Bf;rcases List.mem_append.1 Bf with Bf|Bf
     ·exact H.row id Bf
     ·exact WB id Bf
    ·intro id Bf;rcases List.mem_cons.1 Bf with rfl|Bf
     ·rw[h0];trivial
     ·exact Ex id Bf
    ·have Zm:=(h.pin i (by have:=hpn 0 _ rfl rfl;rwa [Nat.add_zero] at this)).2
     obtain⟨b,o,Ee,_,_⟩:=h.box _ _ h0;rw[Ee,hpt] at Zm;refine⟨⟨b,o,Zm.symm,J6,SE h h0 Ee H (fun i hi=>h1 i (by simp[hi])) h2 hA fun j hj=>by rw[Fa j (by simp;omega),R5 hj]⟩,?_⟩
     refine hv fz A (fun i hi=>h1 i (by simp[hi])) h2 (fun i hi=>h3 i (by simp[hi])) hA own (j0+cs.length) fun j hj=>?_
     rw[←H.len,Nat.add_assoc,Fa (l.length+j) (by simp;omega),R2]
   ·cases D8
  ·split at Dn
   ·rename_i c h0;obtain⟨os,l',z',q,Qy,VH,WB,Ex,hpi,hv⟩:=Nd h hpt Dn Alq;refine⟨c::os,l',z',C4 N i::q,Qy,VH,WB,?_,hpq (fun _=>List.mem_cons_self) (fun k p h1 h2=>List.mem_cons_of_mem _ (hpi k p h1 h2)),fun fz A h1 h2 h3 hA own j0 Fa=>⟨?_,hv fz A h1 h2 (fun i hi=>h3 i (by simp[hi])) hA own j0 Fa⟩⟩
    ·intro id Bf;rcases List.mem_cons.1 Bf with rfl|Bf
     ·rw[h0];trivial
     ·exact Ex id Bf
    ·have Zm:=(h.pin i (by have:=hpn 0 _ rfl rfl;rwa [Nat.add_zero] at this)).2
     rw[hpt] at Zm;rcases h.box _ _ h0 with⟨h4,h5⟩|⟨b,o,h4,h5,h6,_⟩
     ·exact .inl ⟨by rw[←Zm];exact h4,h5⟩
     ·exact .inr ⟨b,o,by rw[←Zm];exact h4,h5.weak (fun b _ hb=>Kj (hA b hb)),h6 rfl⟩
   ·cases Dn
  ·rename_i KH hn2;have hnL:Uc p=false:=by cases p<;>first|rfl|exact absurd rfl (KH _)|exact absurd rfl (hn2 _)
   obtain⟨os,l',z',q,Qy,VH,WB,Ex,hpi,hv⟩:=Nd h hpt Dn Alq;refine⟨os,l',z',q,Qy,VH,WB,Ex,hpq (fun e=>by rw[hnL] at e;cases e) hpi,fun fz A h1 h2 h3 hA own j0 Fa=>?_⟩
   have:=hv fz A h1 h2 h3 hA own j0 Fa;cases p<;>first|exact this|cases hnL
theorem NG {f:ResultVar->Sem Value}:∀{rs:List ResultVar}{us:List Value},Bb (fun rv u=>(f rv).run P w=.ok u w) rs us->(rs.mapM f).run P w=.ok us w
 |[],[],_=>by simp
 |[],_::_,h=>h.elim
 |_::_,[],h=>h.elim
 |rv::rs,u::us,h=>by
  rw[List.mapM_cons];simp[h.1,NG h.2]
theorem LH {fn:Func}{us:List Value}(h:Bb (IF P a.tmps w) fn.results.toList us):(results fn a.tmps).run P w=.ok (Gn us) w:=by
 unfold results;rw[Array.mapM_eq_mapM_toList];simp only[map_eq_pure_bind,bind_assoc,pure_bind,Sem.run_bind];refine Eq.trans (congrArg (fun x=>Result.andThen x _) (NG h)) ?_
 simp only[Result.andThen_ok,Sem.run_pure]
 congr 1
 clear h
 match us with
 |[]=>rfl
 |[u]=>rfl
 |u::v::us=>exact dif_neg (by simp)
theorem NS:∀{l:List (Option Nat)},Dq (l.filterMap id)=true->∀{j j' i:Nat},l[j]?=some (some i)->l[j']?=some (some i)->j=j'
 |[],_,j,j',i,h,_=>by simp at h
 |q::l,hn,j,j',i,h,h'=>by
  have hn':Dq (l.filterMap id)=true:=by
   cases q with
   |none=>exact hn
   |some x=>
    simp only[List.filterMap_cons,id_eq,Dq,Bool.and_eq_true] at hn;exact hn.2
  have hq:∀(x k:Nat),q=some x->l[k]?≠some (some x):=by
   intro x k e hk;subst e;simp only[List.filterMap_cons,id_eq,Dq,Bool.and_eq_true,Bool.not_eq_true'] at hn;exact Nm hn.1 (List.mem_filterMap.2 ⟨some x,List.mem_of_getElem? hk,rfl⟩)
  cases j with
  |zero=>
   cases j' with
   |zero=>rfl
   |succ k'=>
    simp at h h';exact absurd h' (hq i k' h)
  |succ k=>
   cases j' with
   |zero=>
    simp at h h';exact absurd h (hq i k h')
   |succ k'=>
    simp at h h';rw[NS hn' h h']
theorem EP {C:Fu}{f:FuncId}{fn:Func}{args:List PV}{res:Ay}{w:World}{Y:Nat->Prop}{bt:Ud}{us:List Value}(Y1:Ins w Y bt args us){h8:∀k p,args[k]?=some p->Uc p=true->k<8}
  {s':St} {a':Act} {w':World} {β':Bt} (hr:VF C P f fn args s'=some res) (h:Cj fn.ntmps w (QS bt args h8) Y β' s' a' w'):
  a'.defers=[]∧∃v,(results fn a'.tmps).run P w'=.ok v w'∧∃vs own,Ending.returned v=.returned (Gn vs)∧Out w w' Y bt args own res vs:=by
 unfold VF at hr;obtain⟨vs,l,z,us',AX,XT,hll,hL,hz,hv⟩:=AA h hr;obtain⟨os,l',z',q,FR,VH,WB,hq,hpi,Lh⟩:=Nd h (bt:=bt) (fun _=>rfl) AX (fun k p h1 h2=>by rw[Nat.zero_add];exact⟨p,h1,h2⟩)
 obtain⟨hnd,TN⟩:=Aj FR;cases TN;simp only[Bool.and_eq_true] at hnd;obtain⟨hnd,Amt⟩:=hnd;obtain⟨KH,hn2,hn3⟩:=G2 hnd
 have Ur:∀i∈z++z',i ∉ (l.filterMap id++l'.filterMap id)++q:=by
  intro i hi Hw;have:=List.all_eq_true.1 Amt i hi;have h2:((l.filterMap id++l'.filterMap id)++q).any (Nat.beq i)=true:=List.any_eq_true.2 ⟨i,Hw,Nat.beq_refl i⟩;rw[h2] at this;cases this
 have UQ:Jk s' (z++z'):=by
  intro i hi;rcases List.mem_append.1 hi with hi|hi
  ·exact hz i hi
  ·exact WB i hi
 refine⟨h.dfr,Gn us',LH XT,us',Ii β' (l++l'),rfl,?_⟩;have A2v:Dq ((l++l').filterMap id)=true:=by rw[List.filterMap_append];exact KH
 have Fa:∀j b o,Ii β' (l++l') j=some (b,o)->∃id,(l++l')[j]?=some (some id)∧β' id=some (b,o):=by
  intro j b o hj;unfold Ii at hj;cases hlj:(l++l')[j]? with
  |none=>rw[hlj] at hj;cases hj
  |some q=>
   cases q with
   |none=>rw[hlj] at hj;cases hj
   |some id=>
    rw[hlj] at hj;exact⟨id,rfl,hj⟩
 have H5:∀(j i:Nat),(l++l')[j]?=some (some i)->i∈l.filterMap id++l'.filterMap id:=by
  intro j i hj;rw[←List.filterMap_append];exact List.mem_filterMap.2 ⟨some i,List.mem_of_getElem? hj,rfl⟩
 have Fj:∀(j i:Nat),(l++l')[j]?=some (some i)->Cu (s'.hp i):=by
  intro j i hj;rcases List.mem_append.1 (List.mem_of_getElem? hj) with Hw|Hw
  ·exact hL i Hw
  ·obtain⟨c,hc⟩:=VH i Hw;rw[hc];trivial
 have Ago:∀i,i∈(l.filterMap id++l'.filterMap id)++q->Af s'.hp (z++z') i=s'.hp i:=by
  intro i hi;rw[Bq,if_neg (fun Hw=>Ur i Hw hi)]
 have Ah1:∀i b o,bt i 0=some (b,o)->C4 fn.ntmps i∈q∧Cu (s'.hp (C4 fn.ntmps i))∧β' (C4 fn.ntmps i)=some (b,o):=by
  intro i b o BU;obtain⟨p,h1,h2⟩:=Y1.l0 i _ BU;have h3:=hpi i p h1 h2;rw[Nat.zero_add] at h3;exact⟨h3,hq _ h3,(h.pin i ⟨p,h1,h2⟩).2.trans BU⟩
 have hAO:∀b,Zr bt (Ii β' (l++l')) Y b->Ct (Af s'.hp (z++z')) β' Y b:=by
  rintro b (⟨j,o,hj⟩|⟨i,o,BU⟩|hY)
  ·obtain⟨id,h1,h2⟩:=Fa j b o hj;refine .inl ⟨id,o,?_,h2⟩;rw[Ago id (List.mem_append.2 (.inl (H5 j id h1)))];exact Fj j id h1
  ·obtain⟨h1,h2,h3⟩:=Ah1 i b o BU;refine .inl ⟨_,o,?_,h3⟩;rw[Ago _ (List.mem_append.2 (.inr h1))];exact h2
  ·exact .inr hY
 have Sa:∀(j id b o:Nat),(l++l')[j]?=some (some id)->β' id=some (b,o)->b<w.heap.size->∃i k o',bt i (k+1)=some (b,o'):=by
  intro j id b o hj hβ B4;rcases h.ownd b ⟨id,o,Fj j id hj,hβ⟩ with⟨i,k,o',BU⟩|XW
  ·cases k with
   |zero=>
    obtain⟨h1,h2,h3⟩:=Ah1 i b o' BU;have:=h.inj id _ b o o' (Fj j id hj) h2 hβ h3;subst this;exact absurd h1 (hn3 _ (H5 j _ hj))
   |succ k=>exact⟨i,k,o',BU⟩
  ·omega
 refine⟨h.fr.os,h.fr.tape,h.fr.output,h.fr.step,h.fr.rng,?_,?_,?_,?_⟩
 ·refine hv (z++z') _ _ (fun i hi=>List.mem_append.2 (.inl hi)) UQ hAO (fun id c b o hi hc hβ=>?_) _ 0 (fun j hj=>by rw[Nat.zero_add,R5 hj])
  rcases Nat.lt_or_ge b w.heap.size with B4|XW
  ·obtain⟨k,I3,p,h1,h2⟩:=h.stp id c b o hc hβ B4;have h3:=hpi k p h1 h2;rw[Nat.zero_add,←I3] at h3;obtain⟨j,hj⟩:=List.mem_iff_getElem?.1 hi;refine absurd h3 (hn3 id ?_);exact List.mem_append.2 (.inl (List.mem_filterMap.2 ⟨some id,hi,rfl⟩))
  ·exact XW
 ·refine Lh (z++z') _ (fun i hi=>List.mem_append.2 (.inr hi)) UQ (fun i hi Hw=>Ur i Hw (List.mem_append.2 (.inr hi))) hAO _ _ (fun j hj=>?_)
  rw[←hll,R2]
 ·intro j b o hj;obtain⟨id,h1,h2⟩:=Fa j b o hj;refine⟨h.blt id b o (Cl (Fj j id h1)) h2,fun B4=>⟨Sa j id b o h1 h2 B4,fun x hx=>?_⟩⟩
  cases I2:s'.hp id with
  |none=>have:=Fj j id h1;rw[I2] at this;exact this.elim
  |some bx=>
   have Ya:=Fj j id h1;rw[I2] at Ya;cases bx with
   |st c=>
    obtain⟨k,I3,p,h3,h4⟩:=h.stp id c b o I2 h2 B4;have h5:=hpi k p h3 h4;rw[Nat.zero_add,←I3] at h5;exact absurd h5 (hn3 _ (H5 j _ h1))
   |ar fz c=>exact h.rngB id _ b o I2 Ya h2 B4 x hx
   |mv=>exact Ya.elim
 ·intro j j' b o o' hj Om;obtain⟨id,h1,h2⟩:=Fa j b o hj;obtain⟨id',GU,h2'⟩:=Fa j' b o' Om;have:=h.inj id id' b o o' (Fj j id h1) (Fj j' id' GU) h2 h2';subst this;exact NS A2v h1 GU
theorem QR {G:Rx}(Ie:NoNG P)(hm:P.follows .mixedOrders=true){C:Fu}{fu:Nat}{call:Ax}(Df:∀f args res,call f args=some res->Cw G P f args res){f:FuncId}{fn:Func}{c:Code}(hf:P.funcs[f]?=some fn) (hb:fn.body=some c)
  {args:List PV} {res:Ay} (hk:Aif C P fu call f fn c args=some res):Cw G P f args res:=by
 refine⟨⟨fn,hf,by rw[hb];rfl⟩,fun w Y bt us Y1 hG hGY=>?_⟩
 unfold Aif at hk;obtain⟨tms,bs,Dn,E8⟩:=UO Y1 hk;obtain⟨Ee,D8⟩:=Aj Dn;simp only[Bool.and_eq_true] at Ee
 have Dc:us.length<=fn.ntmps:=by
  rw[←Y1.args.len];exact Nat.le_of_ble_eq_true Ee.1
 obtain⟨h8,β0,hs⟩:=E8 Ee.2 Dc;refine calls_of_wp hf hb ?_;have hE:MZ P G w (QS bt args h8):=⟨Ie,fun w' XZ=>G.stable w w' (fun b hb B4=>XZ.step.keep b B4 (hGY b hb).2) hG,hGY⟩
 refine QT hE Df hm c hs D8 (fun s' a' w' β' hr h=>EP Y1 hr h) (fun id s' a' w' β' hr h=>by cases hr) (fun s' a' w' β' hr h=>EP Y1 hr h)
def DC (G:Rx)(P:Program)(C:Fu):Prop:=∀f g args res,C.ext f=some g->g args=some res->Cw G P f args res
theorem G9 {G:Rx}(Ie:NoNG P)(hm:P.follows .mixedOrders=true){C:Fu}(hx:DC G P C){fu:Nat}:∀(d:Nat)(f:FuncId)(args:List PV)(res:Ay),Ae C P fu d f args=some res->Cw G P f args res
 |0,_,_,_,h=>by cases h
 |d+1,f,args,res,h=>by
  unfold Ae at h;split at h
  ·rename_i g hg;exact hx f g args res hg h
  ·split at h
   ·cases h
   ·rename_i fn hf;split at h
    ·cases h
    ·rename_i c hb;exact QR Ie hm (G9 Ie hm hx d) hf hb h
end
open Go.ChangeShapes Go.WideShapes Go.ChangeAt Go.RowKit Go.Deep
def IP (P:Program):List Field->Nat->Nat->Bool
 |[],i,n=>Nat.beq i n
 |f::r,i,n=>Nat.beq f.offset i&&IP P r (i+P.cellsOf f.type) n
def Jx (P:Program):Nat->TypeId->Bool
 |0,_=>false
 |d+1,t=>
  match P.underlying t with
  |some .bool=>true
  |some (.int _)=>true
  |some .string=>true
  |some (.slice e)=>Jx P d e&&Nat.blt 0 (P.cellsOf e)
  |some (.struct fs)=>IP P fs.toList 0 (P.cellsOf t)&&fs.toList.all fun f=>Jx P d f.type
  |some (.array n e)=>Nat.beq (P.cellsOf t) (n*P.cellsOf e)&&Jx P d e
  |_=>false
def WT (P:Program):Nat->TypeId->List PV->Prop
 |0,_,_=>False
 |d+1,t,ps=>
  match P.underlying t with
  |some .bool=>∃b,ps=[.sc (.bool b)]
  |some (.int k)=>∃n,ps=[.sc (.int k n)]∧(Lit.int k n).wf=true
  |some .string=>∃s:ByteArray,ps=[.sc (.string s)]∧s.size<=maxLen
  |some (.slice e)=>∃rows:List (List PV),ps=[.lst false (P.cellsOf e) rows.length rows.flatten]∧rows.length<=maxLen∧∀r∈rows,r.length=P.cellsOf e∧WT P d e r
  |some (.struct fs)=>∃rows:List (List PV),ps=rows.flatten∧Bb (fun f r=>WT P d f.type r) fs.toList rows
  |some (.array n e)=>∃rows:List (List PV),ps=rows.flatten∧rows.length=n∧∀r∈rows,r.length=P.cellsOf e∧WT P d e r
  |_=>False
def WTv (P:Program)(t:TypeId)(p:PV):Prop:=
 match B0 P t with
 |true=>∃ps,p=.agg ps∧WT P 12 t ps
 |false=>WT P 12 t [p]
section
variable {P:Program} {d:Nat} {t e:TypeId} {ps:List PV}
theorem Ad9 (hu:P.underlying t=some .bool):WT P (d+1) t ps↔∃b,ps=[.sc (.bool b)]:=by
 show (match P.underlying t with|some .bool=>_|some (.int k)=>_|some .string=>_|some (.slice e)=>_|some (.struct fs)=>_|some (.array n e)=>_|_=>_)↔_
 rw[hu]
theorem Aku {k:IntKind}(hu:P.underlying t=some (.int k)):WT P (d+1) t ps↔∃n,ps=[.sc (.int k n)]∧(Lit.int k n).wf=true:=by
 show (match P.underlying t with|some .bool=>_|some (.int k)=>_|some .string=>_|some (.slice e)=>_|some (.struct fs)=>_|some (.array n e)=>_|_=>_)↔_
 rw[hu]
theorem DW (hu:P.underlying t=some .string):WT P (d+1) t ps↔∃s:ByteArray,ps=[.sc (.string s)]∧s.size<=maxLen:=by
 show (match P.underlying t with|some .bool=>_|some (.int k)=>_|some .string=>_|some (.slice e)=>_|some (.struct fs)=>_|some (.array n e)=>_|_=>_)↔_
 rw[hu]
theorem YG (hu:P.underlying t=some (.slice e)):WT P (d+1) t ps↔∃rows:List (List PV),ps=[.lst false (P.cellsOf e) rows.length rows.flatten]∧rows.length<=maxLen∧∀r∈rows,r.length=P.cellsOf e∧WT P d e r:=by
 show (match P.underlying t with|some .bool=>_|some (.int k)=>_|some .string=>_|some (.slice e)=>_|some (.struct fs)=>_|some (.array n e)=>_|_=>_)↔_
 rw[hu]
theorem WD {fs:Array Field}(hu:P.underlying t=some (.struct fs)):WT P (d+1) t ps↔∃rows:List (List PV),ps=rows.flatten∧Bb (fun f r=>WT P d f.type r) fs.toList rows:=by
 show (match P.underlying t with|some .bool=>_|some (.int k)=>_|some .string=>_|some (.slice e)=>_|some (.struct fs)=>_|some (.array n e)=>_|_=>_)↔_
 rw[hu]
theorem YV {n:Nat}(hu:P.underlying t=some (.array n e)):WT P (d+1) t ps↔∃rows:List (List PV),ps=rows.flatten∧rows.length=n∧∀r∈rows,r.length=P.cellsOf e∧WT P d e r:=by
 show (match P.underlying t with|some .bool=>_|some (.int k)=>_|some .string=>_|some (.slice e)=>_|some (.struct fs)=>_|some (.array n e)=>_|_=>_)↔_
 rw[hu]
end
inductive Ki where
 |bool
 |int (k:IntKind)
 |str
 |sl (e:TypeId)
 |st (ts:List TypeId)
 |ar (n:Nat) (e:TypeId)
 |no
def PS (P:Program)(t:TypeId):Ki:=
 match P.underlying t with
 |some .bool=>.bool
 |some (.int k)=>.int k
 |some .string=>.str
 |some (.slice e)=>.sl e
 |some (.struct fs)=>.st (fs.toList.map (·.type))
 |some (.array n e)=>.ar n e
 |_=>.no
section
variable {P:Program} {d:Nat} {t e:TypeId} {ps:List PV} {p:PV}
theorem Bb.cons_inv {α β:Type}{R:α->β->Prop}{a:α}{zs:List α}:∀{rs:List β},Bb R (a::zs) rs->∃r rs',rs=r::rs'∧R a r∧Bb R zs rs'
 |[],h=>h.elim
 |r::rs,h=>⟨r,rs,rfl,h.1,h.2⟩
theorem Bb.nil_inv {α β:Type}{R:α->β->Prop}:∀{rs:List β},Bb R ([]:List α) rs->rs=[]
 |[],_=>rfl
 |_::_,h=>h.elim
theorem Alf (hk:PS P t=.str)(h:WT P d t ps):∃s:ByteArray,ps=[.sc (.string s)]∧s.size<=maxLen:=by
 cases d with
 |zero=>exact h.elim
 |succ d=>
 unfold PS at hk;split at hk<;>first|cases hk|skip
 rename_i hu;exact (DW hu).1 h
theorem Ad8 (hk:B0 P t=false)(h:WTv P t p):WT P 12 t [p]:=by
 unfold WTv at h;rw[hk] at h;exact h
theorem Adh (ha:B0 P t=false)(hk:PS P t=.str)(h:WTv P t p):∃s:ByteArray,p=.sc (.string s)∧s.size<=maxLen:=by
 obtain⟨b,e,h⟩:=Alf hk (Ad8 ha h);exact⟨b,by injection e,h⟩
end
abbrev No:Nat->Prop:=fun _=>False
section
variable {H:Type} {enc:TypeId × Value->H} {P:Program} {w:World} {base:Nat} {held:Bool}
theorem Bb.flat {α β:Type}{R:α->β->Prop}:∀{l:List Nat}{f:Nat->List α}{g:Nat->List β},(∀i∈l,Bb R (f i) (g i))->Bb R (l.map f).flatten (l.map g).flatten
 |[],_,_,_=>trivial
 |i::l,f,g,h=>by
  simp only[List.map_cons,List.flatten_cons];exact (h i (by simp)).app (Bb.flat fun j hj=>h j (by simp[hj]))
theorem UL {a:Addr}{v:Value}(h:w.cell? a=some v):a.spot=none∧a.block<w.heap.size:=by
 unfold World.cell? at h;split at h
 ·rename_i c t f e;refine⟨?_,?_⟩
  ·cases hs:a.spot with
   |none=>rfl
   |some x=>rw[hs] at h;simp at h
  ·rcases Nat.lt_or_ge a.block w.heap.size with h1|h1
   ·exact h1
   ·rw[Array.getElem?_eq_none h1] at e;cases e
 ·cases h
theorem AH {α:Type}{g:Nat->List α}{es:Nat}:∀{n:Nat},(∀i,i<n->(g i).length=es)->((List.range n).map g).flatten.length=n*es
 |0,_=>by simp
 |n+1,h=>by
  rw[List.range_succ,List.map_append,List.flatten_append,List.length_append,AH (fun i hi=>h i (by omega))]
  simp[h n (by omega),Nat.succ_mul]
theorem Zk {a:Addr}{g:Nat->List Value}{es:Nat}:∀{n:Nat},(∀i,i<n->(g i).length=es)->(∀i,i<n->∀k,k<es->w.cell? (a.add (i*es+k))=(g i)[k]?) ->
  ∀j,j<n*es->w.cell? (a.add j)=(((List.range n).map g).flatten)[j]?
 |0,_,_,j,hj=>by omega
 |n+1,hl,hc,j,hj=>by
  have CL:=AH (fun i (hi:i<n)=>hl i (by omega))
  rw[List.range_succ,List.map_append,List.flatten_append,List.getElem?_append,CL];rw[Nat.succ_mul] at hj;split
  ·rename_i h1;exact Zk (fun i hi=>hl i (by omega)) (fun i hi=>hc i (by omega)) j h1
  ·rename_i h1;have:=hc n (by omega) (j-n*es) (by omega)
   rw[show n*es+(j-n*es)=j by omega] at this
   simpa using this
abbrev TR (w:World)(c:PV)(v:Value):Prop:=(Q6 c∧Ar w No c v)∧v.oneCell'=true
theorem Wh {d:Nat}{cs:List Value}{n:Nat}(hn:cs.length=n):∀(l:List Field)(i:Nat),IP P l i n=true ->
  (∀f∈l,∃ps,WT P d f.type ps∧Bb (TR w) ps ((cs.drop f.offset).take (P.cellsOf f.type)))->∃rows:List (List PV),Bb (fun f r=>WT P d f.type r) l rows∧Bb (TR w) rows.flatten (cs.drop i)
 |[],i,ho,_=>by
  have:=Nat.eq_of_beq_eq_true ho;refine⟨[],trivial,?_⟩;rw[List.drop_of_length_le (by omega)]
  trivial
 |f::l,i,ho,h=>by
  simp only[IP,Bool.and_eq_true] at ho;have ho1:=Nat.eq_of_beq_eq_true ho.1;obtain⟨ps,h1,h2⟩:=h f (by simp)
  obtain⟨rows,h3,h4⟩:=Wh hn l _ ho.2 fun g hg=>h g (by simp[hg])
  refine⟨ps::rows,⟨h1,h3⟩,?_⟩;rw[ho1] at h2;have:cs.drop i=(cs.drop i).take (P.cellsOf f.type)++cs.drop (i+P.cellsOf f.type):=by rw[←List.drop_drop];exact (List.take_append_drop _ _).symm
  rw[this,List.flatten_cons];exact h2.app h4
theorem Zy {d:Nat}{e:TypeId}{cs:List Value}{k:Nat}:∀(n:Nat),n*k<=cs.length ->
  (∀i,i<n->∃ps,(ps.length=k∧WT P d e ps)∧Bb (TR w) ps ((cs.drop (i*k)).take k))->∃rows:List (List PV),rows.length=n∧(∀r∈rows,r.length=k∧WT P d e r)∧Bb (TR w) rows.flatten (cs.take (n*k))
 |0,_,_=>⟨[],rfl,by simp,by simp[Bb]⟩
 |n+1,hl,h=>by
  rw[Nat.succ_mul] at hl;obtain⟨rows,h1,h2,h3⟩:=Zy n (by omega) fun i hi=>h i (by omega)
  obtain⟨ps,h4,h5⟩:=h n (by omega)
  refine⟨rows++[ps],by simp[h1],?_,?_⟩
  ·intro r hr;rcases List.mem_append.1 hr with hr|hr
   ·exact h2 r hr
   ·rw[List.mem_singleton.1 hr];exact h4
  ·rw[List.flatten_append,Nat.succ_mul,List.take_add];refine h3.app ?_
   simpa using h5
theorem Qi:∀(d:Nat)(t:TypeId),Jx P d t=true->∀(fuel:Nat)(cs:List Value)(x:DataW H × List MemPlace),DataW.trod enc P w base (fun _=>true) held fuel t cs=some x ->
  ∃ps,WT P d t ps∧Bb (TR w) ps cs
 |0,_,h,_,_,_,_=>by cases h
 |d+1,t,hp,fuel,cs,x,h=>by
  unfold Jx at hp;split at hp
  ·rename_i hu;obtain⟨b,rfl,_⟩:=DataW.trod_bool hu h;simp only[Ad9 hu];exact⟨[.sc (.bool b)],⟨b,rfl⟩,⟨⟨trivial,Ar.sc _⟩,rfl⟩,trivial⟩
  ·rename_i k hu;obtain⟨n,rfl,_,hw⟩:=DataW.trod_int hu h;simp only[Aku hu];exact⟨[.sc (.int k n)],⟨n,rfl,hw⟩,⟨⟨trivial,Ar.sc _⟩,rfl⟩,trivial⟩
  ·rename_i hu;obtain⟨s,rfl,_,hw⟩:=DataW.trod_string hu h;simp only[DW hu];exact⟨[.sc (.string s)],⟨s,rfl,hw⟩,⟨⟨trivial,Ar.sc _⟩,rfl⟩,trivial⟩
  ·rename_i e hu;simp only[Bool.and_eq_true] at hp;have Qp:0<P.cellsOf e:=Nat.lt_of_succ_le (Nat.le_of_ble_eq_true hp.2);simp only[YG hu];rcases open_slice hu h with⟨rfl,_⟩|⟨a,len,cap,m,n,D,Pl,rfl,_,hl,hm,OA,_,hi⟩
   ·exact⟨[.lst false (P.cellsOf e) 0 []],⟨[],by simp,by simp,by simp⟩,⟨⟨trivial,Ar.lnil _ _⟩,rfl⟩,trivial⟩
   ·simp only[if_true] at OA;subst OA
    have NU:∀i,i<len->∃q:List PV × List Value,(q.2.length=P.cellsOf e∧(∀k,k<P.cellsOf e->w.cell? (a.add (i*P.cellsOf e+k))=q.2[k]?))∧WT P d e q.1∧Bb (TR w) q.1 q.2:=by
     intro i B4;obtain⟨cs',hc,ht⟩:=hi i (by omega)
     obtain⟨_,J6,hat⟩:=World.cells?_some hc;obtain⟨ps,h1,h2⟩:=Qi d e hp.1 _ _ _ ht;exact⟨(ps,cs'),⟨J6,fun k hk=>by rw[←Pv.add_add];exact hat k hk⟩,h1,h2⟩
    obtain⟨F,hF⟩:=choose_lt NU;refine⟨[.lst false (P.cellsOf e) len ((List.range len).map fun i=>(F i).1).flatten],⟨(List.range len).map fun i=>(F i).1,by simp,by simp;omega,?_⟩,⟨⟨trivial,?_⟩,rfl⟩,trivial⟩
    ·intro r hr;obtain⟨i,hi1,rfl⟩:=List.mem_map.1 hr;have hi2:=List.mem_range.1 hi1;exact⟨by rw[(hF i hi2).2.2.len];exact (hF i hi2).1.1,(hF i hi2).2.1⟩
    ·rcases Nat.eq_zero_or_pos len with h0|h0
     ·subst h0;exact Ar.lemp _ _ _
     ·have K6:Bb (TR w) ((List.range len).map fun i=>(F i).1).flatten ((List.range len).map fun i=>(F i).2).flatten:=Bb.flat fun i hi=>(hF i (List.mem_range.1 hi)).2.2
      have Cm:=Zk (w:=w) (a:=a) (g:=fun i=>(F i).2) (fun i hi=>(hF i hi).1.1) (fun i hi=>(hF i hi).1.2)
      have Dc:=AH (g:=fun i=>(F i).2) (fun i (hi:i<len)=>(hF i hi).1.1)
      have h00:w.cell? a≠none:=by
       have:=Cm 0 (Nat.mul_pos h0 Qp);rw[show a.add 0=a by unfold Addr.add;simp] at this
       rw[this,List.getElem?_eq_getElem (by rw[Dc];exact Nat.mul_pos h0 Qp)]
       simp
      obtain⟨v0,hv0⟩:=Option.ne_none_iff_exists'.1 h00;obtain⟨hs,hb⟩:=UL hv0
      have key:∀j c,(((List.range len).map fun i=>(F i).1).flatten)[j]?=some c->∃v,w.cell? (a.add j)=some v∧TR w c v:=by
       intro j c hj
       have hlj:j<len*P.cellsOf e:=by
        rw[←Dc,←K6.len];rcases Nat.lt_or_ge j (((List.range len).map fun i=>(F i).1).flatten).length with h1|h1
        ·exact h1
        ·rw[List.getElem?_eq_none h1] at hj;cases hj
       have h1:=Cm j hlj;rw[List.getElem?_eq_getElem (by rw[Dc];exact hlj)] at h1
       exact⟨_,h1,K6.at_ hj (List.getElem?_eq_getElem (by rw[Dc];exact hlj))⟩
      refine Ar.lst _ _ _ a _ (fun j=>(w.cell? (a.add j)).getD undef) hs hb (fun h=>h) hl (fun j c hj=>?_) (fun j c hj=>?_) (fun j c hj=>?_)
      ·obtain⟨v,hv,_⟩:=key j c hj;rw[hv];rfl
      ·obtain⟨v,hv,ht⟩:=key j c hj;rw[hv];exact ht.2
      ·obtain⟨v,hv,ht⟩:=key j c hj;rw[hv];exact ht.1.2
  ·rename_i fs hu;simp only[Bool.and_eq_true] at hp;simp only[WD hu];obtain⟨xs,n,_,_,Dc,hxl,hf⟩:=DataW.trod_struct hu h
   obtain⟨rows,h1,h2⟩:=Wh (P:=P) (w:=w) (d:=d) Dc fs.toList 0 hp.1 fun f VO=>by
    obtain⟨i,hi⟩:=List.mem_iff_getElem?.1 VO;have NU:fs[i]?=some f:=by simpa using hi
    have B4:i<fs.size:=(Array.getElem?_eq_some_iff.1 NU).1;have h3:=hf i f NU;rw[List.getElem?_eq_getElem (by omega)] at h3
    exact Qi d f.type (List.all_eq_true.1 hp.2 f VO) _ _ _ h3
   exact⟨_,⟨rows,rfl,h1⟩,by simpa using h2⟩
  ·rename_i n e hu;simp only[Bool.and_eq_true] at hp;simp only[YV hu];obtain⟨xs,m,_,_,Dc,hxl,hf⟩:=DataW.trod_array hu h;have K1:=Nat.eq_of_beq_eq_true hp.1
   obtain⟨rows,h1,h2,h3⟩:=Zy (P:=P) (w:=w) (d:=d) (e:=e) (cs:=cs) (k:=P.cellsOf e) n (by omega) fun i hi=>by
    have h3:=hf i hi;rw[List.getElem?_eq_getElem (by omega)] at h3
    obtain⟨ps,h4,h5⟩:=Qi d e hp.2 _ _ _ h3;refine⟨ps,⟨?_,h4⟩,h5⟩;rw[h5.len,List.length_take,List.length_drop,Dc,K1];have:(i+1)*P.cellsOf e<=n*P.cellsOf e:=Nat.mul_le_mul_right _ hi;rw[Nat.succ_mul] at this;omega
   refine⟨_,⟨rows,rfl,h1,h2⟩,?_⟩;rw[List.take_of_length_le (by omega)] at h3
   exact h3
  ·cases hp
theorem ZC {r:Reach}{b0:Nat}{t:TypeId}{v:Value}{dd:DataW H}{p:List MemPlace}(hp:Jx P 12 t=true)(hv:Value.okWide P w r b0 t v)(h:DataW.Trod enc P w base (fun _=>true) held t v dd p):
  ∃q,WTv P t q∧Nk w No q v:=by
 obtain⟨fuel,hf⟩:=h;obtain⟨ps,h1,h2⟩:=Qi 12 t hp fuel _ _ hf;unfold WTv B0
 have two:∀{cs:Array Value},v=.agg cs->∃q,(∃ps,q=.agg ps∧WT P 12 t ps)∧Nk w No q v:=by
  intro cs e;subst e;exact⟨.agg ps,⟨ps,rfl,h1⟩,cs.toList,by simp,h2.mono fun c v h=>h.1⟩
 have one:v.cells.toList=[v]->∃q,WT P 12 t [q]∧Nk w No q v:=by
  intro e;rw[e] at h2
  match ps,h2 with
  |[q],h2=>
   refine⟨q,h1,?_⟩;have h3:=h2.1.1;cases q<;>first|exact h3|exact h3.1.elim
  |[],h2=>exact h2.elim
  |_::_::_,h2=>exact h2.2.elim
 unfold Jx at hp;split at hp
 ·rename_i hu;simp only[hu];obtain⟨b,rfl,_⟩:=open_bool hu hv ⟨fuel,hf⟩;exact one rfl
 ·rename_i k hu;simp only[hu];obtain⟨b,rfl,_⟩:=open_int hu hv ⟨fuel,hf⟩;exact one rfl
 ·rename_i hu;simp only[hu];obtain⟨b,rfl,_⟩:=ChangeMaps.open_string hu hv ⟨fuel,hf⟩;exact one rfl
 ·rename_i e hu;simp only[hu];obtain⟨a,len,cap,rfl⟩:=okWide_slice hu hv;exact one rfl
 ·rename_i fs hu;simp only[hu];obtain⟨cs,rfl,_⟩:=okWide_struct hu hv;exact two rfl
 ·rename_i n e hu;simp only[hu];unfold Value.okWide at hv;simp only[hu] at hv;obtain⟨cs,rfl,_⟩:=hv;exact two rfl
 ·cases hp
theorem FD:∀{ts:List TypeId}{vs:List Value}{ds:List (DataW H)} {p:List MemPlace}{r:Reach}{b0:Nat},(ts.all fun t=>Jx P 12 t)=true->(∀(j:Nat) t v,ts[j]?=some t->vs[j]?=some v->Value.okWide P w r b0 t v) ->
  DataW.TrodAll enc P w base (fun _=>true) held ts vs ds p->∃qs,Bb (WTv P) ts qs∧Bb (Nk w No) qs vs
 |[],[],[],_,_,_,_,_,_=>⟨[],trivial,trivial⟩
 |t::ts,v::vs,d::ds,_,r,b0,hp,hv,⟨p,q,h1,h2,_⟩=>by
  simp only[List.all_cons,Bool.and_eq_true] at hp;obtain⟨x,h3,h4⟩:=ZC hp.1 (hv 0 t v rfl rfl) h1;obtain⟨xs,h5,h6⟩:=FD hp.2 (fun j t v ht Lh=>hv (j+1) t v ht Lh) h2
  exact⟨x::xs,⟨h3,h5⟩,h4,h6⟩
 |[],_::_,_,_,_,_,_,_,h=>by cases h
 |[],[],_::_,_,_,_,_,_,h=>by cases h
 |_::_,[],_,_,_,_,_,_,h=>by cases h
 |_::_,_::_,[],_,_,_,_,_,h=>by cases h
theorem Q7 (hl:laidOutB P=true){W W':World}{sp:Nat->Bool}:∀{ts:List TypeId}{vs:List Value}{ds:List (DataW H)} {p:List MemPlace},(ts.all fun t=>P.readableRec t&&Nat.blt t P.types.size)=true ->
  DataW.TrodAll enc P W 0 (fun _=>true) true ts vs ds p->(∀x∈p,W.sameAt W' x)->(∀x∈p,sp x.block=true)->DataW.TrodAll enc P W' 0 sp true ts vs ds p
 |[],[],[],_,_,h,_,_=>h
 |t::ts,v::vs,d::ds,_,hr,⟨p,q,h1,h2,e⟩,hs,hsp=>by
  simp only[List.all_cons,Bool.and_eq_true] at hr;refine⟨p,q,WideElems.Trod_stays hl hr.1.1 (Nat.lt_of_succ_le (Nat.le_of_ble_eq_true hr.1.2)) h1 (fun x hx=>hs x ?_) (fun x hx=>hsp x ?_),Q7 hl hr.2 h2 (fun x hx=>hs x ?_) (fun x hx=>hsp x ?_),e⟩
  all_goals rw[e,List.mem_append]
  ·exact .inl hx
  ·exact .inl hx
  ·exact .inr hx
  ·exact .inr hx
 |[],_::_,_,_,_,h,_,_=>by cases h
 |[],[],_::_,_,_,h,_,_=>by cases h
 |_::_,[],_,_,_,h,_,_=>by cases h
 |_::_,_::_,[],_,_,h,_,_=>by cases h
theorem BX {f:Func}{s:ChangeSpec}{apart fresh JG again:Bool}{W W':World}{args:Array Value}{v:Value}{ds gs:List (DataW H)} {before pa pv:List MemPlace}
  (hW:DataW.Whole enc P f.params.toList s.vars apart W args.toList ds gs before)
  (Ask:∀(b:Nat)(sp:Nat->Bool)(hd:Bool),DataW.TrodAll enc P W' b sp hd f.resultTypes.toList (v.resultList f.resultTypes.size) (s.fn H (ds++gs)).results [])
  (Eh:∀sp:Nat->Bool,(∀p∈before,sp p.block=true)->DataW.TrodAll enc P W' 0 sp true f.params.toList args.toList (s.fn H (ds++gs)).args pa)
  (LL:∀sp:Nat->Bool,(∀p∈before,sp p.block=true)->DataW.TrodVars enc P W' sp s.vars (s.fn H (ds++gs)).vars pv)
  (Wx:before=pa++pv)(hb:Below W.heap.size W W')
  (hok:∀(j:Nat)(t:TypeId)(r:Value),f.resultTypes[j]?=some t->(v.resultList f.resultTypes.size)[j]?=some r->Value.okWide P W' .any 0 t r):
  s.post enc P f apart fresh JG again W args v W':=by
 have B4:∀p∈before,p.block<W.heap.size:=fun p hp=>hW.lt p hp
 have hold:∀p∈before,(fun b=>decide (b<W.heap.size)) p.block=true:=fun p hp=>by simpa using B4 p hp
 refine⟨ds,gs,before,[],pa,pv,hW,Ask _ _ _,Eh _ hold,LL _ hold,World.keptBut_mono (fun p hp=>⟨hp,?_⟩) (hb.frame (· ∈ before)),fun _=>?_⟩
 ·rw[Wx,List.mem_append] at hp;exact Or.inr hp
 ·obtain⟨_,_,_,_,_,hz,hn⟩:=hW;refine⟨hok,_,_,([]++pa)++pv,⟨[]++pa,pv,trodAll_append (Eh _ (fun _ _=>rfl)) (Ask _ _ _),LL _ (fun _ _=>rfl),rfl,?_,?_⟩,?_⟩
  ·intro b off hp;have Y1:MemPlace.cell b off∈before:=by rw[Wx];simpa using hp
   rw[hb.frozen (B4 _ Y1)];exact hz b off Y1
  ·intro ha;have:=hn ha;rw[Wx] at this
   simpa using this
  ·intro p hp _;rw[Wx]
   simpa using hp
theorem law_contract {G:Rx}{C:Fu}(hx:DC G P C)(Ie:NoNG P)(hm:P.follows .mixedOrders=true)(hl:laidOutB P=true){f:FuncId}{fn:Func}{s:ChangeSpec}{tb:TypeId}(hfn:P.funcs[f]?=some fn)
  (LL:s.vars=[]) (Apx:∀ds:List (DataW H),ds.length=fn.params.size->s.fn H ds={ results:=[.lit (.bool true)],args:=ds }) (All:(fn.params.toList.all fun t=>Jx P 12 t)=true)
  (Arp:(fn.params.toList.all fun t=>P.readableRec t&&Nat.blt t P.types.size)=true) (hrt:fn.resultTypes = #[tb]) (hub:P.underlying tb=some .bool)
  {apart fresh JG again:Bool} (W:World) (base:Nat) (args:Array Value) (ds gs:List (DataW H)) (before:List MemPlace)
  (hval:∀(j:Nat) t v,fn.params[j]?=some t->args[j]?=some v->Value.okWide P W .any base t v)
  (hW:DataW.Whole enc P fn.params.toList s.vars apart W args.toList ds gs before)
  (Aza:∀qs:List PV,Bb (WTv P) fn.params.toList qs->∃fu d,Ae C P fu d f qs=some ⟨[.sc (.bool true)],[]⟩) (hG:G.ok W)(hGY:∀b,G.bl b->b<W.heap.size):
  Calls P f args W fun e W'=>∃v,e=.returned v∧s.post enc P fn apart fresh JG again W args v W':=by
 have hW':=hW;obtain⟨p,q,hA,hV,rfl,Ur,hnd⟩:=hW;rw[LL] at hV;obtain⟨rfl,rfl⟩:=trodVars_none hV;obtain⟨qs,h1,h2⟩:=FD All (fun j t v ht hv=>hval j t v (by simpa using ht) (by simpa using hv)) hA
 obtain⟨fu,d,hc⟩:=Aza qs h1;have hS:=(G9 Ie hm hx d f qs _ hc).2 W No NB args.toList (NA (fun b h=>h.elim) h2) hG (fun b hb=>⟨hGY b hb,Ma b⟩)
 rw[Array.toArray_toList] at hS;refine hS.mono fun e W' ⟨vs,own,he,ho⟩=>?_
 have hv:=ho.vals
 have Of:vs=[.bool true]:=by
  match vs,hv with
  |[u],hv=>
   have:Ar W' _ (.sc (.bool true)) u:=hv.1;rw[this.val]
  |[],hv=>exact hv.elim
  |_::_::_,hv=>exact hv.2.elim
 subst Of;subst he;have hb:Below W.heap.size W W':=⟨ho.os,ho.tape,ho.output,ho.ext.size,fun k hk=>ho.ext.keep k hk (Ma k)⟩
 have B4:∀x∈p,x.block<W.heap.size:=fun x hx=>hW'.lt x (by simpa using hx)
 have Dc:ds.length=fn.params.size:=by
  have:∀{ts:List TypeId} {vs:List Value} {ds:List (DataW H)} {p:List MemPlace},DataW.TrodAll enc P W 0 (fun _=>true) true ts vs ds p->ds.length=ts.length:=by
   intro ts
   induction ts with
   |nil=>intro vs ds p h;cases vs<;>cases ds<;>first|rfl|cases h
   |cons t ts ih=>
    intro vs ds p h;cases vs with
    |nil=>cases h
    |cons v vs=>
     cases ds with
     |nil=>cases h
     |cons d ds=>obtain⟨_,_,_,h2,_⟩:=h;simp[ih h2]
  simpa using this hA
 have hsp:=Apx (ds++[]) (by simpa using Dc)
 refine⟨_,rfl,BX (pa:=p) (pv:=[]) hW' ?_ ?_ ?_ rfl hb ?_⟩
 ·intro b sp hd;rw[hsp,hrt];exact trodAll_mk1 (shut_bool hub _)
 ·intro sp Avq;rw[hsp];simp only[List.append_nil];exact Q7 hl Arp hA (fun x hx=>hb.same (B4 x hx)) (fun x hx=>Avq x (by simpa using hx))
 ·intro sp _;rw[hsp,LL];rfl
 ·exact ok_one hrt rfl (okWide_bool_mk hub _)
end
end
section
open Go.IntKind (wrap)
theorem Db:type_of% @Bool.not_true:=@Bool.not_true
theorem D1:type_of% @Bool.not_false:=@Bool.not_false
theorem Zzd:type_of% @Nat.zero_add:=@Nat.zero_add
theorem Zzf:type_of% @List.take_of_length_le.{0}:=@List.take_of_length_le
theorem QI:type_of% @List.length_cons.{0}:=@List.length_cons
theorem Oo:type_of% @Int.toNat_natCast:=@Int.toNat_natCast
theorem Dz:type_of% @if_neg.{1}:=@if_neg
theorem E7:type_of% @if_pos.{1}:=@if_pos
theorem Zzs:type_of% @Bool.false_and:=@Bool.false_and
end
section
open Go.Proofs.Tryd (prog)
open Go.IntKind (wrap)
set_option maxRecDepth 100000
abbrev Jp:FuncId:=93
theorem Qt {xs:FuncId->Option (List PV->Option Ay)} (fu d:Nat)(a0 a1:Int):Ae (CX xs) prog fu (d+1) Jp [.sc (.int .u64 a0),.sc (.int .i64 a1)]=(fun (call:Ax)=>Ab (wrap .u64 a1) fun x1=>Ab (Ars .u64 x1 63) fun x2=>Bi (decide (0<=x2))<|Ab (G1 .u64 a0 x2) fun x3=>Ab (wrap .u64 (64-x2)) fun x4=>Bi (decide (0<=x4))<|Ab (LY .u64 a0 x4) fun x5=>Ab (JO .u64 x3 x5) fun x6=>some (Ay.mk [.sc (.int .u64 x6)] [])) (Ae (CX xs) prog fu d):=by kernel_rfl
abbrev N1:FuncId:=71
noncomputable def Gg (fu:Nat)(call:Ax)(a0n:Nat)(a0:List PV)(nn:Nat)(y0:Int)(y1:Nat)(y2:List PV)(y3 y4:Int):Option Ay:=Iy CB prog fu call 71 Tryd.f71 (F5 Tryd.f71) [.lst false 1 a0n a0] [.r,.r,.l,.r,.l] nn ⟨lk [(3,(.sc (.int .u64 y0))),(6,(.lst false 1 y1 y2)),(7,(.sc (.int .i64 y3))),(8,(.sc (.int .i64 y4)))],Jl []⟩
theorem Ky (fu:Nat)(call:Ax)(a0n:Nat)(a0:List PV)(nn:Nat)(y0:Int)(y1:Nat)(y2:List PV)(y3 y4:Int):Gg fu call a0n a0 (nn+1) y0 y1 y2 y3 y4=(Bh (decide (y4<y3)) (Bi (decide (0<=y4)&&decide (y4<(↑y1:Int)))<|Ak .u8 (List.getD y2 (Int.toNat y4*1) .top) fun x1=>Ab (wrap .u64 x1) fun x2=>Ab (wrap .i64 (8*y4)) fun x3=>Bi (decide (0<=x3))<|Ab (G1 .u64 x2 x3) fun x4=>Ab (JO .u64 y0 x4) fun x5=>Ab (wrap .i64 (y4+1)) fun x6=>Gg fu call a0n a0 (nn) x5 (y1) (y2) (y3) x6) (some (Ay.mk [.sc (.int .u64 y0)] []))):=by kernel_rfl
theorem Wo {xs:FuncId->Option (List PV->Option Ay)} (fu d a0n:Nat)(a0:List PV):Ae (CX xs) prog fu (d+1) N1 [.lst false 1 a0n a0]=(fun (call:Ax)=>Gg fu call a0n a0 (fu) 0 (a0n) (a0) ((↑a0n:Int)) 0) (Ae (CX xs) prog fu d):=by kernel_rfl
abbrev Hv:FuncId:=72
noncomputable def D7 (fu:Nat)(call:Ax)(Br Bl:Int)(Ho Ij a1:Int)(nn:Nat)(y0 y1:Int)(y2 y3:Int)(y4 y5:Int):Option Ay:=Iy CB prog fu call 72 Tryd.f72 (F5 Tryd.f72) [.pbox [.sc (.int .u64 Br),.sc (.int .u64 Bl),.sc (.int .u64 Ho),.sc (.int .u64 Ij)],.sc (.int .i64 a1)] [.r,.l] nn ⟨lk [(0,(.ptr 288000 0)),(4,(.sc (.int .i64 y0))),(5,(.sc (.int .i64 y1)))],Jl [(288000,(.st [(.sc (.int .u64 y2)),(.sc (.int .u64 y3)),(.sc (.int .u64 y4)),(.sc (.int .u64 y5))]))]⟩
theorem Gt (fu:Nat)(call:Ax)(Br Bl:Int)(Ho Ij a1:Int)(nn:Nat)(y0 y1:Int)(y2 y3:Int)(y4 y5:Int):D7 fu call Br Bl Ho Ij a1 (nn+1) y0 y1 y2 y3 y4 y5=(Bh (decide (y1<y0)) (Ab (wrap .u64 (y2+y3)) fun x1=>Ah (call 93 [.sc (.int .u64 y3),.sc (.int .i64 13)]) fun x2 x3=>Ad x3<|Aa x2 fun x4 x5=>Ak .u64 x4 fun x6=>Ad x5<|Ab (Dp .u64 x6 x1) fun x7=>Ah (call 93 [.sc (.int .u64 x1),.sc (.int .i64 32)]) fun x8 x9=>Ad x9<|Aa x8 fun Ft Lr=>Ak .u64 Ft fun L4=>Ad Lr<|Ab (wrap .u64 (y4+y5)) fun Fc=>Ah (call 93 [.sc (.int .u64 y5),.sc (.int .i64 16)]) fun Jh M4=>Ad M4<|Aa Jh fun K2 I7=>Ak .u64 K2 fun Lq=>Ad I7<|Ab (Dp .u64 Lq Fc) fun L5=>Ab (wrap .u64 (L4+L5)) fun Mj=>Ah (call 93 [.sc (.int .u64 L5),.sc (.int .i64 21)]) fun Mm N2=>Ad N2<|Aa Mm fun K8 M9=>Ak .u64 K8 fun Lx=>Ad M9<|Ab (Dp .u64 Lx Mj) fun L3=>Ab (wrap .u64 (Fc+x7)) fun Mc=>Ah (call 93 [.sc (.int .u64 x7),.sc (.int .i64 17)]) fun Oc Md=>Ad Md<|Aa Oc fun N9 Ol=>Ak .u64 N9 fun Og=>Ad Ol<|Ab (Dp .u64 Og Mc) fun Np=>Ah (call 93 [.sc (.int .u64 Mc),.sc (.int .i64 32)]) fun Oj O8=>Ad O8<|Aa Oj fun Rd Se=>Ak .u64 Rd fun Tu=>Ad Se<|Ab (wrap .i64 (y1+1)) fun Pr=>D7 fu call Br Bl Ho Ij a1 (nn) (y0) Pr Mj Np Tu L3) (some (Ay.mk [] [[.sc (.int .u64 y2),.sc (.int .u64 y3),.sc (.int .u64 y4),.sc (.int .u64 y5)]]))):=by kernel_rfl
theorem Oi {xs:FuncId->Option (List PV->Option Ay)} (fu d:Nat)(Br Bl:Int)(Ho Ij a1:Int):Ae (CX xs) prog fu (d+1) Hv [.pbox [.sc (.int .u64 Br),.sc (.int .u64 Bl),.sc (.int .u64 Ho),.sc (.int .u64 Ij)],.sc (.int .i64 a1)]=(fun (call:Ax)=>D7 fu call Br Bl Ho Ij a1 (fu) (a1) 0 (Br) (Bl) (Ho) (Ij)) (Ae (CX xs) prog fu d):=by kernel_rfl
abbrev Hu:FuncId:=70
theorem Od {xs:FuncId->Option (List PV->Option Ay)} (fu d:Nat)(Br Bl:Int)(Ho Ij a1:Int):Ae (CX xs) prog fu (d+1) Hu [.pbox [.sc (.int .u64 Br),.sc (.int .u64 Bl),.sc (.int .u64 Ho),.sc (.int .u64 Ij)],.sc (.int .u64 a1)]=(fun (call:Ax)=>Ab (Dp .u64 Ij a1) fun x1=>Ah (call 72 [.pbox [.sc (.int .u64 Br),.sc (.int .u64 Bl),.sc (.int .u64 Ho),.sc (.int .u64 x1)],.sc (.int .i64 2)]) fun x2 x3=>Ad x2<|Aa x3 fun x4 x5=>Aa x4 fun x6 x7=>Ak .u64 x6 fun x8=>Aa x7 fun x9 Ft=>Ak .u64 x9 fun Lr=>Aa Ft fun L4 Fc=>Ak .u64 L4 fun Jh=>Aa Fc fun M4 K2=>Ak .u64 M4 fun I7=>Ad K2<|Ad x5<|Ab (Dp .u64 x8 a1) fun Lq=>some (Ay.mk [] [[.sc (.int .u64 Lq),.sc (.int .u64 Lr),.sc (.int .u64 Jh),.sc (.int .u64 I7)]])) (Ae (CX xs) prog fu d):=by kernel_rfl
abbrev T7:FuncId:=52
noncomputable def Gu (fu:Nat)(call:Ax)(a0 a1:Int)(Wd:Nat)(a2:List PV)(nn y0:Nat)(y1:List PV)(y2 y3:Int)(y4 y5:Int)(y6 y7 y8:Int):Option Ay:=Iy CB prog fu call 52 Tryd.f52 (F5 Tryd.f52) [.sc (.int .u64 a0),.sc (.int .u64 a1),.lst false 1 Wd a2] [.r,.r,.r,.l,.r,.l] nn ⟨lk [(2,(.lst false 1 y0 y1)),(7,(.ptr 7 0)),(8,(.sc (.int .i64 y2))),(22,(.sc (.int .i64 y3))),(23,(.sc (.int .i64 y4)))],Jl [(7,(.st [(.sc (.int .u64 y5)),(.sc (.int .u64 y6)),(.sc (.int .u64 y7)),(.sc (.int .u64 y8))]))]⟩
theorem N3 (fu:Nat)(call:Ax)(a0 a1:Int)(Wd:Nat)(a2:List PV)(nn y0:Nat)(y1:List PV)(y2 y3:Int)(y4 y5:Int)(y6 y7 y8:Int):Gu fu call a0 a1 Wd a2 (nn+1) y0 y1 y2 y3 y4 y5 y6 y7 y8=(Bh (decide (y4<y3)) (Ab (wrap .i64 (8*y4)) fun x6=>Ab (wrap .i64 (8*y4)) fun x7=>Ab (wrap .i64 (x7+8)) fun x8=>Bi (decide (0<=x6))<|Bi (decide (0<=x8))<|Bi (decide (Int.toNat x6<=Int.toNat x8)&&decide (Int.toNat x8<=y0))<|Ab (Int.toNat x8-Int.toNat x6) fun x9=>Ab (List.take (x9*1) (List.drop (Int.toNat x6*1) y1)) fun Ft=>Ah (call 71 [.lst false 1 x9 Ft]) fun Lr L4=>Ad L4<|Aa Lr fun Fc Jh=>Ak .u64 Fc fun M4=>Ad Jh<|Ah (call 70 [.pbox [.sc (.int .u64 y5),.sc (.int .u64 y6),.sc (.int .u64 y7),.sc (.int .u64 y8)],.sc (.int .u64 M4)]) fun K2 I7=>Ad K2<|Aa I7 fun Lq L5=>Aa Lq fun Mj Mm=>Ak .u64 Mj fun N2=>Aa Mm fun K8 M9=>Ak .u64 K8 fun Lx=>Aa M9 fun L3 Mc=>Ak .u64 L3 fun Oc=>Aa Mc fun Md N9=>Ak .u64 Md fun Ol=>Ad N9<|Ad L5<|Ab (wrap .i64 (y4+1)) fun Og=>Gu fu call a0 a1 Wd a2 (nn) (y0) (y1) (y2) (y3) Og N2 Lx Oc Ol) (Ab (wrap .i64 (8*y2)) fun Np=>Bi (decide (0<=Np))<|Bi (decide (Int.toNat Np<=y0)&&decide (y0<=y0))<|Ab (y0-Int.toNat Np) fun Oj=>Ab (List.take (Oj*1) (List.drop (Int.toNat Np*1) y1)) fun O8=>Ah (call 71 [.lst false 1 Oj O8]) fun Rd Se=>Ad Se<|Aa Rd fun Tu Pr=>Ak .u64 Tu fun BD=>Ad Pr<|Ab (wrap .u64 (↑y0:Int)) fun BA=>Ab (G1 .u64 BA 56) fun Qn=>Ab (JO .u64 BD Qn) fun P4=>Ah (call 70 [.pbox [.sc (.int .u64 y5),.sc (.int .u64 y6),.sc (.int .u64 y7),.sc (.int .u64 y8)],.sc (.int .u64 P4)]) fun X3 Xh=>Ad X3<|Aa Xh fun BL AV=>Aa BL fun BS Yh=>Ak .u64 BS fun Xj=>Aa Yh fun BC AR=>Ak .u64 BC fun CE=>Aa AR fun Yw HB=>Ak .u64 Yw fun HR=>Aa HB fun EX EJ=>Ak .u64 EX fun HF=>Ad EJ<|Ad AV<|Ab (Dp .u64 HR 255) fun GN=>Ah (call 72 [.pbox [.sc (.int .u64 Xj),.sc (.int .u64 CE),.sc (.int .u64 GN),.sc (.int .u64 HF)],.sc (.int .i64 4)]) fun HL NX=>Ad HL<|Aa NX fun SH QB=>Aa SH fun NV QY=>Ak .u64 NV fun OJ=>Aa QY fun OZ ST=>Ak .u64 OZ fun OG=>Aa ST fun OI KR=>Ak .u64 OI fun NY=>Aa KR fun OH QW=>Ak .u64 OH fun XA=>Ad QW<|Ad QB<|Ab (Dp .u64 OJ OG) fun UI=>Ab (Dp .u64 UI NY) fun RT=>Ab (Dp .u64 RT XA) fun XN=>some (Ay.mk [.sc (.int .u64 XN)] []))):=by kernel_rfl
theorem GX {xs:FuncId->Option (List PV->Option Ay)} (fu d:Nat)(a0 a1:Int)(Wd:Nat)(a2:List PV):Ae (CX xs) prog fu (d+1) T7 [.sc (.int .u64 a0),.sc (.int .u64 a1),.lst false 1 Wd a2]=(fun (call:Ax)=>Ab (Dp .u64 a0 8317987319222330741) fun x1=>Ab (Dp .u64 a1 7237128888997146477) fun x2=>Ab (Dp .u64 a0 7816392313619706465) fun x3=>Ab (Dp .u64 a1 8387220255154660723) fun x4=>Ab (wrap .i64 (Int.tdiv (↑Wd:Int) 8)) fun x5=>Gu fu call a0 a1 Wd a2 (fu) (Wd) (a2) x5 x5 0 x1 x2 x3 x4) (Ae (CX xs) prog fu d):=by kernel_rfl
abbrev Q4:FuncId:=36
theorem BI {xs:FuncId->Option (List PV->Option Ay)} (fu d:Nat)(a0:Int)(a1n:Nat)(a1:List PV):Ae (CX xs) prog fu (d+1) Q4 [.sc (.int .i64 a0),.lst false 1 a1n a1]=(fun (call:Ax)=>Ab (wrap .u64 a0) fun x1=>Ah (call 52 [.sc (.int .u64 x1),.sc (.int .u64 0),.lst false 1 a1n a1]) fun x2 x3=>Ad x3<|Aa x2 fun x4 x5=>Ak .u64 x4 fun x6=>Ad x5<|some (Ay.mk [.sc (.int .u64 x6)] [])) (Ae (CX xs) prog fu d):=by kernel_rfl
abbrev Kw:FuncId:=94
theorem Ry {xs:FuncId->Option (List PV->Option Ay)} (fu d:Nat)(a0 a1:Int):Ae (CX xs) prog fu (d+1) Kw [.sc (.int .u64 a0),.sc (.int .u64 a1)]=(fun (call:Ax)=>Bi (decide (0<=a1))<|Ab (G1 .u64 a0 a1) fun x1=>Ab (wrap .u64 (64-a1)) fun x2=>Bi (decide (0<=x2))<|Ab (LY .u64 a0 x2) fun x3=>Ab (JO .u64 x1 x3) fun x4=>some (Ay.mk [.sc (.int .u64 x4)] [])) (Ae (CX xs) prog fu d):=by kernel_rfl
abbrev Jg:FuncId:=73
theorem Qs {xs:FuncId->Option (List PV->Option Ay)} (fu d:Nat)(Br Bl:Int)(Ho Ij:Int):Ae (CX xs) prog fu (d+1) Jg [.agg [.sc (.int .u64 Br),.sc (.int .u64 Bl),.sc (.int .u64 Ho),.sc (.int .u64 Ij)]]=(fun (call:Ax)=>Ab (wrap .u64 (Br+Bl)) fun x1=>Ah (call 94 [.sc (.int .u64 Bl),.sc (.int .u64 13)]) fun x2 x3=>Ad x3<|Aa x2 fun x4 x5=>Ak .u64 x4 fun x6=>Ad x5<|Ab (Dp .u64 x6 x1) fun x7=>Ah (call 94 [.sc (.int .u64 x1),.sc (.int .u64 32)]) fun x8 x9=>Ad x9<|Aa x8 fun Ft Lr=>Ak .u64 Ft fun L4=>Ad Lr<|Ab (wrap .u64 (Ho+Ij)) fun Fc=>Ah (call 94 [.sc (.int .u64 Ij),.sc (.int .u64 16)]) fun Jh M4=>Ad M4<|Aa Jh fun K2 I7=>Ak .u64 K2 fun Lq=>Ad I7<|Ab (Dp .u64 Lq Fc) fun L5=>Ab (wrap .u64 (L4+L5)) fun Mj=>Ah (call 94 [.sc (.int .u64 L5),.sc (.int .u64 21)]) fun Mm N2=>Ad N2<|Aa Mm fun K8 M9=>Ak .u64 K8 fun Lx=>Ad M9<|Ab (Dp .u64 Lx Mj) fun L3=>Ab (wrap .u64 (Fc+x7)) fun Mc=>Ah (call 94 [.sc (.int .u64 x7),.sc (.int .u64 17)]) fun Oc Md=>Ad Md<|Aa Oc fun N9 Ol=>Ak .u64 N9 fun Og=>Ad Ol<|Ab (Dp .u64 Og Mc) fun Np=>Ah (call 94 [.sc (.int .u64 Mc),.sc (.int .u64 32)]) fun Oj O8=>Ad O8<|Aa Oj fun Rd Se=>Ak .u64 Rd fun Tu=>Ad Se<|some (Ay.mk [.agg [.sc (.int .u64 Mj),.sc (.int .u64 Np),.sc (.int .u64 Tu),.sc (.int .u64 L3)]] [])) (Ae (CX xs) prog fu d):=by kernel_rfl
abbrev La:FuncId:=53
noncomputable def Ei (fu:Nat)(call:Ax)(a0 a1:Int)(Wd:Nat)(a2:List PV)(nn y0:Nat)(y1:List PV)(y2:Int)(y3:List PV):Option Ay:=Iy CB prog fu call 53 Tryd.f53 (F5 Tryd.f53) [.sc (.int .u64 a0),.sc (.int .u64 a1),.lst false 1 Wd a2] [.r,.r,.l,.r,.l] nn ⟨lk [(2,(.lst false 1 y0 y1)),(7,(.ptr 7 0)),(8,(.sc (.int .i64 y2)))],Jl [(7,(.ar false y3))]⟩
noncomputable def Ds (fu:Nat)(call:Ax)(a0 a1:Int)(Wd:Nat)(a2:List PV)(m0 nn y0:Nat)(y1:List PV)(y2 y3 y4:Int)(y5:List PV):Option Ay:=Iy CB prog fu call 53 Tryd.f53 (F5 Tryd.f53) [.sc (.int .u64 a0),.sc (.int .u64 a1),.lst false 1 Wd a2] [.r,.r,.l,.r,.l,.i m0,.r,.l,.l,.r,.l,.r,.l] nn ⟨lk [(2,(.lst false 1 y0 y1)),(7,(.ptr 7 0)),(8,(.sc (.int .i64 y2))),(9,(.sc (.int .u64 y3))),(10,(.sc (.int .i64 y4)))],Jl [(7,(.ar false y5))]⟩
theorem Is (fu:Nat)(call:Ax)(a0 a1:Int)(Wd:Nat)(a2:List PV)(nn y0:Nat)(y1:List PV)(y2:Int)(y3:List PV):Ei fu call a0 a1 Wd a2 (nn+1) y0 y1 y2 y3=(Bh (decide (y2<=(↑y0:Int))) (Ds fu call a0 a1 Wd a2 nn (fu) (y0) (y1) (y2) 0 7 (y3)) (Ak .u64 (List.getD y3 2 .top) fun x5=>Ab (Dp .u64 x5 255) fun x6=>Bi (decide (3<=y3.length))<|Ab (B8 y3 [.sc (.int .u64 x6)] 2) fun x7=>Ak .u64 (List.getD x7 0 .top) fun x8=>Ak .u64 (List.getD x7 1 .top) fun x9=>Ak .u64 (List.getD x7 2 .top) fun Ft=>Ak .u64 (List.getD x7 3 .top) fun Lr=>Ah (call 73 [.agg [.sc (.int .u64 x8),.sc (.int .u64 x9),.sc (.int .u64 Ft),.sc (.int .u64 Lr)]]) fun L4 Fc=>Ad Fc<|Aa L4 fun Jh M4=>Fo Jh fun K2=>Aa K2 fun I7 Lq=>Ak .u64 I7 fun L5=>Aa Lq fun Mj Mm=>Ak .u64 Mj fun N2=>Aa Mm fun K8 M9=>Ak .u64 K8 fun Lx=>Aa M9 fun L3 Mc=>Ak .u64 L3 fun Oc=>Ad Mc<|Ad M4<|Ah (call 73 [.agg [.sc (.int .u64 L5),.sc (.int .u64 N2),.sc (.int .u64 Lx),.sc (.int .u64 Oc)]]) fun Md N9=>Ad N9<|Aa Md fun Ol Og=>Fo Ol fun Np=>Aa Np fun Oj O8=>Ak .u64 Oj fun Rd=>Aa O8 fun Se Tu=>Ak .u64 Se fun Pr=>Aa Tu fun BD BA=>Ak .u64 BD fun Qn=>Aa BA fun P4 X3=>Ak .u64 P4 fun Xh=>Ad X3<|Ad Og<|Ah (call 73 [.agg [.sc (.int .u64 Rd),.sc (.int .u64 Pr),.sc (.int .u64 Qn),.sc (.int .u64 Xh)]]) fun BL AV=>Ad AV<|Aa BL fun BS Yh=>Fo BS fun Xj=>Aa Xj fun BC AR=>Ak .u64 BC fun CE=>Aa AR fun Yw HB=>Ak .u64 Yw fun HR=>Aa HB fun EX EJ=>Ak .u64 EX fun HF=>Aa EJ fun GN HL=>Ak .u64 GN fun NX=>Ad HL<|Ad Yh<|Ah (call 73 [.agg [.sc (.int .u64 CE),.sc (.int .u64 HR),.sc (.int .u64 HF),.sc (.int .u64 NX)]]) fun SH QB=>Ad QB<|Aa SH fun NV QY=>Fo NV fun OJ=>Aa OJ fun OZ ST=>Ak .u64 OZ fun OG=>Aa ST fun OI KR=>Ak .u64 OI fun NY=>Aa KR fun OH QW=>Ak .u64 OH fun XA=>Aa QW fun UI RT=>Ak .u64 UI fun XN=>Ad RT<|Ad QY<|Bi (decide (4<=x7.length))<|Ab (B8 x7 [.sc (.int .u64 OG),.sc (.int .u64 NY),.sc (.int .u64 XA),.sc (.int .u64 XN)] 0) fun RK=>Ak .u64 (List.getD RK 0 .top) fun YF=>Ak .u64 (List.getD RK 1 .top) fun ZS=>Ab (Dp .u64 YF ZS) fun x83=>Ak .u64 (List.getD RK 2 .top) fun XV=>Ab (Dp .u64 x83 XV) fun x85=>Ak .u64 (List.getD RK 3 .top) fun x86=>Ab (Dp .u64 x85 x86) fun ZH=>some (Ay.mk [.sc (.int .u64 ZH)] []))):=by kernel_rfl
theorem Io (fu:Nat)(call:Ax)(a0 a1:Int)(Wd:Nat)(a2:List PV)(m0 nn y0:Nat)(y1:List PV)(y2 y3 y4:Int)(y5:List PV):Ds fu call a0 a1 Wd a2 m0 (nn+1) y0 y1 y2 y3 y4 y5=(Bh (decide (y4>=0)) (Ab (wrap .i64 (y2+y4)) fun YD=>Bh (decide (YD<(↑y0:Int))) (Ab (wrap .i64 (y2+y4)) fun YB=>Bi (decide (0<=YB)&&decide (YB<(↑y0:Int)))<|Ak .u8 (List.getD y1 (Int.toNat YB*1) .top) fun x90=>Ab (G1 .u64 y3 8) fun XO=>Ab (wrap .u64 x90) fun YC=>Ab (JO .u64 XO YC) fun x93=>Ab (wrap .i64 (y4-1)) fun XR=>Ds fu call a0 a1 Wd a2 m0 (nn) (y0) (y1) (y2) x93 XR (y5)) (Bh (y4==7) (Ab (wrap .u8 (↑y0:Int)) fun x95=>Ab (G1 .u64 y3 8) fun x96=>Ab (wrap .u64 x95) fun WJ=>Ab (JO .u64 x96 WJ) fun YA=>Ab (wrap .i64 (y4-1)) fun x99=>Ds fu call a0 a1 Wd a2 m0 (nn) (y0) (y1) (y2) YA x99 (y5)) (Ab (G1 .u64 y3 8) fun Te=>Ab (JO .u64 Te 0) fun Yp=>Ab (wrap .i64 (y4-1)) fun Wi=>Ds fu call a0 a1 Wd a2 m0 (nn) (y0) (y1) (y2) Yp Wi (y5)))) (Ak .u64 (List.getD y5 3 .top) fun Yf=>Ab (Dp .u64 Yf y3) fun Z3=>Bi (decide (4<=y5.length))<|Ab (B8 y5 [.sc (.int .u64 Z3)] 3) fun Qx=>Ak .u64 (List.getD Qx 0 .top) fun Xd=>Ak .u64 (List.getD Qx 1 .top) fun Wk=>Ak .u64 (List.getD Qx 2 .top) fun IA=>Ak .u64 (List.getD Qx 3 .top) fun IY=>Ah (call 73 [.agg [.sc (.int .u64 Xd),.sc (.int .u64 Wk),.sc (.int .u64 IA),.sc (.int .u64 IY)]]) fun CW GA=>Ad GA<|Aa CW fun MP HA=>Fo MP fun JD=>Aa JD fun MW IZ=>Ak .u64 MW fun FV=>Aa IZ fun CQ BH=>Ak .u64 CQ fun BV=>Aa BH fun GI GL=>Ak .u64 GI fun IB=>Aa GL fun GE IJ=>Ak .u64 GE fun BO=>Ad IJ<|Ad HA<|Ah (call 73 [.agg [.sc (.int .u64 FV),.sc (.int .u64 BV),.sc (.int .u64 IB),.sc (.int .u64 BO)]]) fun BW BQ=>Ad BQ<|Aa BW fun Ws CR=>Fo Ws fun HU=>Aa HU fun IV CK=>Ak .u64 IV fun HQ=>Aa CK fun IU HZ=>Ak .u64 IU fun GG=>Aa HZ fun LN ID=>Ak .u64 LN fun CI=>Aa ID fun NL HO=>Ak .u64 NL fun AP=>Ad HO<|Ad CR<|Bi (decide (4<=Qx.length))<|Ab (B8 Qx [.sc (.int .u64 HQ),.sc (.int .u64 GG),.sc (.int .u64 CI),.sc (.int .u64 AP)] 0) fun BE=>Ak .u64 (List.getD BE 0 .top) fun JC=>Ab (Dp .u64 JC y3) fun BJ=>Bi (decide (1<=BE.length))<|Ab (B8 BE [.sc (.int .u64 BJ)] 0) fun BP=>Ab (wrap .i64 (y2+8)) fun BK=>Ei fu call a0 a1 Wd a2 (m0) (y0) (y1) BK BP)):=by kernel_rfl
theorem Sm {xs:FuncId->Option (List PV->Option Ay)} (fu d:Nat)(a0 a1:Int)(Wd:Nat)(a2:List PV):Ae (CX xs) prog fu (d+1) La [.sc (.int .u64 a0),.sc (.int .u64 a1),.lst false 1 Wd a2]=(fun (call:Ax)=>Ab (Dp .u64 a0 8317987319222330741) fun x1=>Ab (Dp .u64 a1 7237128888997146477) fun x2=>Ab (Dp .u64 a0 7816392313619706465) fun x3=>Ab (Dp .u64 a1 8387220255154660723) fun x4=>Ei fu call a0 a1 Wd a2 (fu) (Wd) (a2) 0 ([.sc (.int .u64 x1),.sc (.int .u64 x2),.sc (.int .u64 x3),.sc (.int .u64 x4)])) (Ae (CX xs) prog fu d):=by kernel_rfl
abbrev Kz:FuncId:=37
theorem Rh {xs:FuncId->Option (List PV->Option Ay)} (fu d:Nat)(a0:Int)(a1n:Nat)(a1:List PV):Ae (CX xs) prog fu (d+1) Kz [.sc (.int .i64 a0),.lst false 1 a1n a1]=(fun (call:Ax)=>Ab (wrap .u64 a0) fun x1=>Ah (call 53 [.sc (.int .u64 x1),.sc (.int .u64 0),.lst false 1 a1n a1]) fun x2 x3=>Ad x3<|Aa x2 fun x4 x5=>Ak .u64 x4 fun x6=>Ad x5<|some (Ay.mk [.sc (.int .u64 x6)] [])) (Ae (CX xs) prog fu d):=by kernel_rfl
end
section
open Go.IntKind (wrap)
def rot (x k:Int):Int:=JO .u64 (G1 .u64 x k) (LY .u64 x (64-k))
structure W4 where
 a:Int
 b:Int
 c:Int
 d:Int
def W4.cells (v:W4):List PV:=[.sc (.int .u64 v.a),.sc (.int .u64 v.b),.sc (.int .u64 v.c),.sc (.int .u64 v.d)]
def Awh (v:W4):W4:=⟨rot (wrap .u64 (v.a+v.b)) 32,Dp .u64 (rot v.b 13) (wrap .u64 (v.a+v.b)),wrap .u64 (v.c+v.d),Dp .u64 (rot v.d 16) (wrap .u64 (v.c+v.d))⟩
def Axn (v:W4):W4:=⟨wrap .u64 (v.a+v.d),Dp .u64 (rot v.b 17) (wrap .u64 (v.c+v.b)),rot (wrap .u64 (v.c+v.b)) 32,Dp .u64 (rot v.d 21) (wrap .u64 (v.a+v.d))⟩
def AY (v:W4):W4:=Axn (Awh v)
def OO:Nat->W4->W4
 |0,v=>v
 |n+1,v=>OO n (AY v)
def Asi (r:W4)(m:Int):W4:=⟨Dp .u64 r.a m,r.b,r.c,r.d⟩
def Mp (v:W4)(m:Int):W4:=Asi (OO 2 ⟨v.a,v.b,v.c,Dp .u64 v.d m⟩) m
def Mk:List Int->Int
 |[]=>0
 |b::r=>b+256*Mk r
def BG:Nat->W4->List Int->W4
 |0,v,_=>v
 |n+1,v,l=>BG n (Mp v (Mk (l.take 8))) (l.drop 8)
def Amo (k0 k1:Int):W4:=⟨Dp .u64 k0 8317987319222330741,Dp .u64 k1 7237128888997146477,Dp .u64 k0 7816392313619706465,Dp .u64 k1 8387220255154660723⟩
def VD (v:W4):W4:=OO 4 ⟨v.a,v.b,Dp .u64 v.c 255,v.d⟩
def VP (v:W4):Int:=Dp .u64 (Dp .u64 (Dp .u64 v.a v.b) v.c) v.d
def Jo (l:List Int):Int:=Mk (l.drop (8*(l.length / 8)))+72057594037927936*((l.length:Int) % 256)
def Ajb (k0 k1:Int)(l:List Int):Int:=VP (VD (Mp (BG (l.length / 8) (Amo k0 k1) l) (Jo l)))
def V8 (dom:Int)(l:List Int):Int:=Ajb (wrap .u64 dom) 0 l
def Do (l:List Int):Prop:=∀b∈l,0<=b∧b<=255
theorem Nx:∀{l:List Int},Do l->0<=Mk l∧Mk l<256 ^ l.length
 |[],_=>by simp[Mk]
 |b::r,h=>by
  have h1:=h b (by simp)
  have h2:=Nx (l:=r) fun x hx=>h x (by simp[hx])
  have h3:(256:Int) ^ (b::r).length=256 ^ r.length*256:=by rw[QI,Int.pow_succ]
  simp only[Mk];omega
theorem Rp:∀(l r:List Int),Mk (l++r)=Mk l+256 ^ l.length*Mk r
 |[],r=>by simp[Mk]
 |b::l,r=>by
  have ih:=Rp l r;simp only[List.cons_append,Mk,QI,Int.pow_succ];rw[ih,Int.mul_add];have:(256:Int)*(256 ^ l.length*Mk r)=256 ^ l.length*256*Mk r:=by rw[←Int.mul_assoc,Int.mul_comm 256]
  omega
theorem IK {a c:Int}(k b:Nat)(h0:0<=a)(h1:a<((2 ^ k:Nat):Int)) (hc:c=((b*2 ^ k:Nat):Int)) (h:a+c<=18446744073709551615):JO .u64 a c=a+c∧JO .u64 c a=a+c:=by
 obtain⟨n,rfl⟩:=Int.eq_ofNat_of_zero_le h0;subst hc;have hn:n<2 ^ k:=by omega
 generalize hB:b*2 ^ k=m at h
 have e4:(BitVec.ofInt 64 (n:Int)).toNat=n:=by
  rw[BitVec.toNat_ofInt];omega
 have e5:(BitVec.ofInt 64 (m:Int)).toNat=m:=by
  rw[BitVec.toNat_ofInt];omega
 have e6:m ||| n=m+n:=by
  have:=Nat.shiftLeft_add_eq_or_of_lt hn b;rw[Nat.shiftLeft_eq,hB] at this;exact this.symm
 constructor
 ·show wrap .u64 ((BitVec.ofInt 64 (n:Int) ||| BitVec.ofInt 64 (m:Int)).toNat:Int)=_;rw[BitVec.toNat_or,e4,e5,Nat.or_comm,e6,Ms (by omega) (by omega)]
  omega
 ·show wrap .u64 ((BitVec.ofInt 64 (m:Int) ||| BitVec.ofInt 64 (n:Int)).toNat:Int)=_;rw[BitVec.toNat_or,e4,e5,e6,Ms (by omega) (by omega)]
  omega
theorem RY {a k:Int}(h0:0<=a)(hk:0<=k)(I3:k<=64)(h:a*((2 ^ k.toNat:Nat):Int)<=18446744073709551615):G1 .u64 a k=a*((2 ^ k.toNat:Nat):Int):=by
 show wrap .u64 (a*2 ^ (min k.toNat IntKind.u64.bits))=_;have e:min k.toNat IntKind.u64.bits=k.toNat:=Nat.min_eq_left (by show k.toNat<=64;omega)
 have e2:(2:Int) ^ k.toNat=((2 ^ k.toNat:Nat):Int):=by simp
 rw[e,e2,Ms (Int.mul_nonneg h0 (Int.natCast_nonneg _)) h]
end
end Go.Proofs.YtodnjibebeghjaaDoor.Pv
