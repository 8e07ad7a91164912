/-
  The proof of DataHashes, part 3.
-/
import Derived.Test.YtodnjibebeghjaaDoorHB
import Derived.StillTail
import Derived.WalkKit
import Derived.ProofKit
import Derived.OpenShut
import Derived.ShutString
import Derived.ChangeOld
import Derived.Below
import Derived.Deep.Slices
import Derived.ChangeSame
import Derived.WideKeyArgs
import Derived.Carry
import Derived.Test.YtodnjibebeghjaaDoorRows
set_option linter.unusedSimpArgs false
set_option linter.unusedVariables false
namespace Go.Proofs.YtodnjibebeghjaaDoor.Pv
section
section
variable {R R':Type} {Rel:Option R->Option R'->Prop}
theorem Gu (hn:Rel none none){k:IntKind}{p:PV}{K:Int->Option R}{K':Int->Option R'}(hK:∀n,Rel (K n) (K' n)):Rel (Ak k p K) (Ak k p K'):=by
 unfold Ak;split
 ·split<;>first|exact hK _|exact hn
 ·exact hn
theorem Dm (hn:Rel none none){p:PV}{K:IntKind->Int->Option R}{K':IntKind->Int->Option R'}(hK:∀k n,Rel (K k n) (K' k n)):Rel (Da p K) (Da p K'):=by
 unfold Da;split<;>first|exact hK _ _|exact hn
theorem Fl (hn:Rel none none){p:PV}{K:Bool->Option R}{K':Bool->Option R'}(hK:∀n,Rel (K n) (K' n)):Rel (Aq p K) (Aq p K'):=by
 unfold Aq;split<;>first|exact hK _|exact hn
theorem Er (hn:Rel none none){p:PV}{K:ByteArray->Option R}{K':ByteArray->Option R'}(hK:∀n,Rel (K n) (K' n)):Rel (Az p K) (Az p K'):=by
 unfold Az;split<;>first|exact hK _|exact hn
theorem En (hn:Rel none none){es:Nat}{p:PV}{K:Bool->Nat->List PV->Option R}{K':Bool->Nat->List PV->Option R'}(hK:∀z n c,Rel (K z n c) (K' z n c)):Rel (Sa es p K) (Sa es p K'):=by
 unfold Sa;split
 ·rename_i es' _ _;cases Nat.beq es' es
  ·exact hn
  ·exact hK _ _ _
 ·exact hK _ _ _
 ·exact hn
theorem Ae1 (hn:Rel none none){es:Nat}{p:PV}{K:PV->Option R}{K':PV->Option R'}(hK:∀p,Rel (K p) (K' p)):Rel (fsK es p K) (fsK es p K'):=by
 unfold fsK;split
 ·rename_i es' _ _;cases Nat.beq es' es
  ·exact hn
  ·exact hK _
 ·exact En hn fun _ _ _=>hK _
theorem RZ (hn:Rel none none){es:Nat}{p:PV}{K:Nat->List PV->Option R}{K':Nat->List PV->Option R'}(hK:∀n c,Rel (K n c) (K' n c)):Rel (NY es p K) (NY es p K'):=by
 unfold NY;split
 ·rename_i es' _ _;cases Nat.beq es' es
  ·exact hn
  ·exact hK _ _
 ·exact hn
theorem Av (hn:Rel none none){b:Bool}{K:Option R}{K':Option R'}(hK:b=true->Rel K K'):Rel (Bi b K) (Bi b K'):=by
 cases b
 ·exact hn
 ·exact hK rfl
theorem Xg {b:Bool}{x y:Option R}{x' y':Option R'}(hx:Rel x x')(hy:Rel y y'):Rel (Bh b x y) (Bh b x' y'):=by
 cases b
 ·exact hy
 ·exact hx
theorem Ct (hn:Rel none none){α:Type}{o:Option α}{K:α->Option R}{K':α->Option R'}(hK:∀a,o=some a->Rel (K a) (K' a)):Rel (Dk o K) (Dk o K'):=by
 cases o
 ·exact hn
 ·exact hK _ rfl
theorem Be (hn:Rel none none){α:Type}{l:List α}{K:α->List α->Option R}{K':α->List α->Option R'}(hK:∀a r,l=a::r->Rel (K a r) (K' a r)):Rel (Aa l K) (Aa l K'):=by
 cases l
 ·exact hn
 ·exact hK _ _ rfl
theorem Eh (hn:Rel none none){α:Type}{l:List α}{K:Option R}{K':Option R'}(hK:Rel K K'):Rel (Ad l K) (Ad l K'):=by
 cases l
 ·exact hK
 ·exact hn
theorem Hf (hn:Rel none none){p:PV}{K:List PV->Option R}{K':List PV->Option R'}(hK:∀c,p=.agg c->Rel (K c) (K' c)):Rel (Fq p K) (Fq p K'):=by
 unfold Fq;split
 ·exact hK _ rfl
 ·exact hn
theorem UX (hn:Rel none none){p:PV}{K:List PV->Option R}{K':List PV->Option R'}(hK:∀c,Rel (K c) (K' c)):Rel (Tm p K) (Tm p K'):=by
 unfold Tm;split
 ·exact hK _
 ·exact hn
theorem FN (hn:Rel none none){r:Option Ay}{K:List PV->List (List PV)->Option R} {K':List PV->List (List PV)->Option R'} (hK:∀v o,Rel (K v o) (K' v o)):Rel (Ah r K) (Ah r K'):=by
 unfold Ah;split
 ·exact hK _ _
 ·exact hn
theorem RO (hn:Rel none none){p:PV}{K:Value->Option R}{K':Value->Option R'}(hK:∀v,Rel (K v) (K' v)):Rel (WN p K) (WN p K'):=by
 unfold WN;split
 ·exact hK _
 ·exact hK _
 ·exact hn
theorem Af0 (hn:Rel none none){p:PV}{K:FuncId->Option R}{K':FuncId->Option R'}(hK:∀v,Rel (K v) (K' v)):Rel (fvK p K) (fvK p K'):=by
 unfold fvK;split
 ·rename_i f a b;cases (a.isEmpty&&b.isEmpty)
  ·exact hn
  ·exact hK _
 ·exact hn
theorem Lk (hn:Rel none none){t:CT}{p:PV}{K:PV->Option R}{K':PV->Option R'}(hK:∀p,Rel (K p) (K' p)):Rel (Uz t p K) (Uz t p K'):=by
 unfold Uz;split
 ·exact Gu hn fun _=>hK _
 ·exact Fl hn fun _=>hK _
 ·exact Er hn fun _=>hK _
 ·exact En hn fun _ _ _=>hK _
 ·exact RO hn fun _=>hK _
theorem Adf (hn:Rel none none){t:CT}{p:PV}{K:PV->Option R}{K':PV->Option R'}(hK:∀p,Rel (K p) (K' p)):Rel (fcK t p K) (fcK t p K'):=by
 unfold fcK;split
 ·exact Ae1 hn hK
 ·exact Lk hn hK
theorem M3 (hn:Rel none none):∀{ts:List CT}{cells:List PV}{off:Nat}{K:List PV->Option R}{K':List PV->Option R'},(∀c,Rel (K c) (K' c))->Rel (Of ts cells off K) (Of ts cells off K')
 |[],_,_,_,_,hK=>hK _
 |_::_,_,_,_,_,hK=>Lk hn fun _=>M3 hn fun _=>hK _
theorem Kk (hn:Rel none none):∀{ts:List CT}{cells:List PV}{off:Nat}{K:List PV->Option R}{K':List PV->Option R'},(∀c,Rel (K c) (K' c))->Rel (K9 ts cells off K) (K9 ts cells off K')
 |[],_,_,_,_,hK=>hK _
 |_::_,_,_,_,_,hK=>Adf hn fun _=>Kk hn fun _=>hK _
theorem T9 (hn:Rel none none){g:Bool}{cells:List PV}{K:PV->Option R}{K':PV->Option R'}(hK:∀p,Rel (K p) (K' p)):Rel (TS g cells K) (TS g cells K'):=by
 cases g
 ·exact Be hn fun _ _ _=>Eh hn (hK _)
 ·exact hK _
theorem SF (hn:Rel none none){P:Program}{t:TypeId}{v:Value}{K:PV->Option R}{K':PV->Option R'}(hK:∀p,Bo p=[]->Rel (K p) (K' p)) (hK':∀c,Rel (K (.agg c)) (K' (.agg c))):Rel (cvK P t v K) (cvK P t v K'):=by
 unfold cvK;split
 ·exact Av hn fun _=>M3 hn fun _=>hK' _
 ·split
  ·exact hK _ rfl
  ·exact hn
 ·exact hK _ rfl
theorem Aa4 (hn:Rel none none){op:BinOp}{x y:Int}{K:Bool->Option R}{K':Bool->Option R'}(hK:∀n,Rel (K n) (K' n)):Rel (Adw op x y K) (Adw op x y K'):=by
 unfold Adw;split<;>first|exact hK _|exact hn
theorem QS (hn:Rel none none){op:BinOp}{k:IntKind}{x y:Int}{K:PV->Option R}{K':PV->Option R'}(hK:∀n,Rel (K n) (K' n)):Rel (Y7 op k x y K) (Y7 op k x y K'):=by
 unfold Y7;split<;>first|exact hK _|exact Av hn fun _=>hK _|exact Aa4 hn fun _=>hK _
theorem QF (hn:Rel none none){op:BinOp}{x y:ByteArray}{K:PV->Option R}{K':PV->Option R'}(hK:∀n,Rel (K n) (K' n)):Rel (Zw op x y K) (Zw op x y K'):=by
 unfold Zw;split<;>first|exact hK _|exact Av hn fun _=>hK _|exact hn
theorem EC (hn:Rel none none){e:Bool}{p:PV}{K:PV->Option R}{K':PV->Option R'}(hK:∀n,Rel (K n) (K' n)):Rel (Y8 e p K) (Y8 e p K'):=by
 unfold Y8;split<;>first|exact hK _|exact Xg (hK _) (Xg (hK _) (hK _))|exact Xg (hK _) (hK _)|exact hn
theorem KL (hn:Rel none none):∀{ts:List CT}{ps qs:List PV}{K:Bool->Option R}{K':Bool->Option R'},(∀b,Rel (K b) (K' b))->Rel (Ip ts ps qs K) (Ip ts ps qs K'):=by
 intro ts
 induction ts with
 |nil=>
  intro ps qs K K' hK;cases ps<;>cases qs<;>first|exact hK _|exact hn
 |cons t ts ih=>
  intro ps qs K K' hK;cases ps with
  |nil=>cases t<;>cases qs<;>exact hn
  |cons p ps=>
   cases qs with
   |nil=>cases t<;>exact hn
   |cons q qs=>
    cases t
    ·exact Gu hn fun _=>Gu hn fun _=>ih fun _=>hK _
    ·exact Fl hn fun _=>Fl hn fun _=>ih fun _=>hK _
    ·exact Er hn fun _=>Er hn fun _=>ih fun _=>hK _
    ·exact hn
    ·exact hn
theorem ZU (hn:Rel none none){P:Program}{op:BinOp}{t:TypeId}{x y:PV}{K:PV->Option R}{K':PV->Option R'}(hK:∀p,Rel (K p) (K' p)):Rel (Abq P op t x y K) (Abq P op t x y K'):=by
 unfold Abq;split
 ·split
  ·exact Gu hn fun _=>Dm hn fun _ _=>Av hn fun _=>hK _
  ·exact Gu hn fun _=>Dm hn fun _ _=>Av hn fun _=>hK _
  ·exact Gu hn fun _=>Gu hn fun _=>QS hn hK
 ·exact Er hn fun _=>Er hn fun _=>QF hn hK
 ·split
  ·exact Fl hn fun _=>Fl hn fun _=>hK _
  ·exact Fl hn fun _=>Fl hn fun _=>hK _
  ·exact hn
 ·split
  ·exact EC hn fun _=>hK _
  ·exact EC hn fun _=>hK _
  ·exact hn
 ·split
  ·exact hK _
  ·exact hK _
  ·exact hn
 ·exact hn
theorem LV (hn:Rel none none){P:Program}{op:BinOp}{t:TypeId}{x y:PV}{K:PV->Option R}{K':PV->Option R'}(hK:∀p,Rel (K p) (K' p)):Rel (Px P op t x y K) (Px P op t x y K'):=by
 unfold Px;split
 ·split
  ·exact Av hn fun _=>Hf hn fun _ _=>Hf hn fun _ _=>KL hn fun _=>hK _
  ·exact Av hn fun _=>Hf hn fun _ _=>Hf hn fun _ _=>KL hn fun _=>hK _
  ·exact hn
 ·exact ZU hn hK
theorem Afm (hn:Rel none none){op:UnOp}{x:PV}{K:PV->Option R}{K':PV->Option R'}(hK:∀p,Rel (K p) (K' p)):Rel (unK op x K) (unK op x K'):=by
 unfold unK;split<;>first|exact Fl hn fun _=>hK _|exact Dm hn fun _ _=>hK _|exact hn
theorem Dh (hn:Rel none none){p:Option PV}{d:Nat}{K:Nat->Option R}{K':Nat->Option R'}(hK:∀n,Rel (K n) (K' n)):Rel (Fp p d K) (Fp p d K'):=by
 unfold Fp;split
 ·exact hK _
 ·exact Dm hn fun _ _=>Av hn fun _=>hK _
theorem Vf (hn:Rel none none){x:PV}{d:Nat}{K:PV->Option R}{K':PV->Option R'}(hK:∀n,Rel (K n) (K' n)):Rel (Pd x d K) (Pd x d K'):=by
 unfold Pd;split<;>first|exact hK _|exact hn
theorem Y4 (hn:Rel none none){P:Program}{t:TypeId}{x:PV}{i:Int}{K:PV->Option R}{K':PV->Option R'}(hK:∀p,Rel (K p) (K' p)):Rel (Id P t x i K) (Id P t x i K'):=by
 unfold Id;split
 ·exact Av hn fun _=>Av hn fun _=>Vf hn hK
 ·refine Av hn fun _=>?_
  split
  ·exact Av hn fun _=>Av hn fun _=>hK _
  ·exact En hn fun _ _ _=>Av hn fun _=>hK _
 ·exact hn
theorem Ue (hn:Rel none none){Fs:Nat->Option (Nat × Nat)}:∀{ps:List (Nat × PV)} {cells:List PV}{K:List PV->Option R}{K':List PV->Option R'},(∀c,Rel (K c) (K' c))->Rel (Ps Fs ps cells K) (Ps Fs ps cells K')
 |[],_,_,_,hK=>hK _
 |(_,_)::_,_,_,_,hK=>Ct hn fun _ _=>Av hn fun _=>Ue hn hK
theorem Pn (hn:Rel none none){P:Program}{t:TypeId}{K:List PV->Option R}{K':List PV->Option R'}(hK:∀p,Rel (K p) (K' p)):Rel (Fy P t K) (Fy P t K'):=
 Ct hn fun _ _=>Av hn fun _=>M3 hn hK
theorem Acn (hn:Rel none none){x y:PV}{K:PV->Option R}{K':PV->Option R'}(hK:∀p,Rel (K p) (K' p)):Rel (Aee x y K) (Aee x y K'):=
 Dm hn fun _ _=>Gu hn fun _=>hK _
theorem Ab1 (hn:Rel none none){x y:PV}{K:PV->Option R}{K':PV->Option R'}(hK:∀p,Rel (K p) (K' p)):Rel (Af5 x y K) (Af5 x y K'):=
 Dm hn fun _ _=>Gu hn fun _=>hK _
theorem ZN (hn:Rel none none){P:Program}{t:TypeId}{x:PV}{K:Nat->Option R}{K':Nat->Option R'}(hK:∀p,Rel (K p) (K' p)):Rel (VH P t x K) (VH P t x K'):=by
 unfold VH;split
 ·exact Er hn fun _=>hK _
 ·exact hK _
 ·split
  ·exact Av hn fun _=>hK _
  ·exact En hn fun _ _ _=>hK _
 ·exact hn
def JQ (Rel:Option R->Option R'->Prop)(f f':Nat->Option (List PV)) (l:List Nat):Prop:=∀i∈l,f i=f' i∨(f i=none∧∀b,Rel none b)
variable {f f':Nat->Option (List PV)}
theorem JQ.sub {l l':List Nat}(h:JQ Rel f f' l)(hs:∀i∈l',i∈l):JQ Rel f f' l':=fun i hi=>h i (hs i hi)
theorem Sv (hn:Rel none none){l:List Nat}{id:Nat}(hf:JQ Rel f f' l)(hi:id∈l){K:List PV->Option R}{K':List PV->Option R'}(hK:∀c,f id=some c->Rel (K c) (K' c)):Rel (Dk (f id) K) (Dk (f' id) K'):=by
 rcases hf id hi with h|⟨h,hb⟩
 ·rw[←h];exact Ct hn hK
 ·rw[h];exact hb _
theorem Mg (hn:Rel none none){es:Nat}{p:PV}{K:Nat->List PV->Option R}{K':Nat->List PV->Option R'}(hf:JQ Rel f f' (Am p)) (hK:∀n c,Rel (K n c) (K' n c)):Rel (MR f es p K) (MR f' es p K'):=by
 unfold MR;split
 ·rename_i id es' off n;cases Nat.beq es' es
  ·exact hn
  ·exact Sv hn hf (by simp[Am]) fun _ _=>Av hn fun _=>hK _ _
 ·exact En hn fun _ _ _=>hK _ _
theorem ZK (hn:Rel none none){t:CT}{p:PV}{K:PV->List Nat->Option R}{K':PV->List Nat->Option R'}(hf:JQ Rel f f' (Am p)) (hK:∀c m,(∀i∈m,f i≠none)->Rel (K c m) (K' c m)):Rel (K6 f t p K) (K6 f' t p K'):=by
 unfold K6;split
 ·split
  ·rename_i id es' off n;cases Nat.beq es' _
   ·exact hn
   ·exact Sv hn hf (by simp[Am]) fun c hc=>Av hn fun _=>hK _ _ (by simp[hc])
  ·exact En hn fun _ _ _=>hK _ _ (by simp)
 ·exact Lk hn fun _=>hK _ _ (by simp)
theorem P9 (hn:Rel none none):∀{ts:List CT}{ps:List PV}{K:List PV->List Nat->Option R}{K':List PV->List Nat->Option R'},JQ Rel f f' (ps.flatMap Am)->(∀c m,(∀i∈m,f i≠none)->Rel (K c m) (K' c m))->Rel (Kd f ts ps K) (Kd f' ts ps K')
 |[],[],_,_,_,hK=>hK _ _ (by simp)
 |[],_::_,_,_,_,_=>hn
 |_::_,[],_,_,_,_=>hn
 |_::_,p::ps,_,_,hf,hK=>ZK hn (fun i hi=>hf i (by simp only[List.flatMap_cons,List.mem_append];exact .inl hi)) fun _ m hm=>P9 hn (fun i hi=>hf i (by simp only[List.flatMap_cons,List.mem_append];exact .inr hi)) fun _ ms Zx=>hK _ _ fun i hi=>by
   rcases List.mem_append.1 hi with h|h
   ·exact hm i h
   ·exact Zx i h
theorem Aaa (hn:Rel none none){P:Program}{t:TypeId}{p:PV}{K:PV->List Nat->Option R}{K':PV->List Nat->Option R'}(hf:JQ Rel f f' (B6 p)) (hK:∀c m,(∀i∈m,f i≠none)->Rel (K c m) (K' c m)):Rel (OV P f t p K) (OV P f' t p K'):=by
 unfold OV
 have h1:∀i,i∈[p].flatMap Am->i∈B6 p:=by
  intro i hi;simp only[List.flatMap_cons,List.flatMap_nil,List.append_nil] at hi;cases p<;>first|exact hi|simp[Am] at hi
 cases B1 P t
 ·exact P9 hn (fun i hi=>hf i (h1 i hi)) fun _ _ hm=>Be hn fun _ _ _=>Eh hn (hK _ _ hm)
 ·refine Hf hn fun c hc=>?_
  subst hc;exact P9 hn (fun i hi=>hf i hi) fun _ _ hm=>hK _ _ hm
theorem FD (hn:Rel none none){P:Program}:∀{ts:List TypeId}{ps:List PV}{K:List PV->List Nat->Option R}{K':List PV->List Nat->Option R'},JQ Rel f f' (ps.flatMap B6)->(∀c m,(∀i∈m,f i≠none)->Rel (K c m) (K' c m))->Rel (Yw P f ts ps K) (Yw P f' ts ps K')
 |[],[],_,_,_,hK=>hK _ _ (by simp)
 |[],_::_,_,_,_,_=>hn
 |_::_,[],_,_,_,_=>hn
 |_::_,p::ps,_,_,hf,hK=>Aaa hn (fun i hi=>hf i (by simp only[List.flatMap_cons,List.mem_append];exact .inl hi)) fun _ m hm=>FD hn (fun i hi=>hf i (by simp only[List.flatMap_cons,List.mem_append];exact .inr hi)) fun _ ms Zx=>hK _ _ fun i hi=>by
   rcases List.mem_append.1 hi with h|h
   ·exact hm i h
   ·exact Zx i h
theorem PF (hn:Rel none none){P:Program}{t:TypeId}{x:PV}{lo hi:Option PV}{K:PV->Option R}{K':PV->Option R'}(hf:(∃n e,P.underlying t=some (.array n e))->JQ Rel f f' (Am x)) (hK:∀c,Rel (K c) (K' c)):Rel (Ve P f t x lo hi K) (Ve P f' t x lo hi K'):=by
 unfold Ve;split
 ·exact Er hn fun _=>Dh hn fun _=>Dh hn fun _=>Av hn fun _=>hK _
 ·refine Av hn fun _=>?_
  split
  ·exact Av hn fun _=>Dh hn fun _=>Dh hn fun _=>Av hn fun _=>hK _
  ·exact En hn fun _ _ _=>Dh hn fun _=>Dh hn fun _=>Av hn fun _=>hK _
 ·rename_i n e hu;refine Av hn fun _=>?_
  split
  ·rename_i id off;exact Sv hn (hf ⟨_,_,hu⟩) (by simp[Am]) fun _ _=>Av hn fun _=>Dh hn fun _=>Dh hn fun _=>Av hn fun _=>hK _
  ·exact hn
 ·exact hn
theorem KS (hn:Rel none none){P:Program}{d:Nat}{t:TypeId}{x:PV}{lo hi mx:Option PV}{K:PV->List (Nat × Bk)->Option R} {K':PV->List (Nat × Bk)->Option R'} (hK:∀c,Rel (K c [(d,.ar false [])]) (K' c [(d,.ar false [])])):Rel (Qf P d t x lo hi mx K) (Qf P d t x lo hi mx K'):=by
 unfold Qf;split
 ·refine Av hn fun _=>?_
  split
  ·exact Av hn fun _=>Dh hn fun _=>Dh hn fun _=>Dh hn fun _=>Av hn fun _=>hK _
  ·exact En hn fun _ _ _=>Dh hn fun _=>Dh hn fun _=>Dh hn fun _=>Av hn fun _=>hK _
 ·exact hn
theorem FP {nz:Bool}{g g':Nat->Option (List PV)} (hn:Rel none none){P:Program}{t:TypeId}{x:PV}{K:PV->Option R}{K':PV->Option R'}(hf:∀i∈Am x,(f i=f' i∧g i=g' i)∨(f i=none∧g i=none∧∀b,Rel none b)) (hK:∀c,Rel (K c) (K' c)):Rel (Sz nz P f g t x K) (Sz nz P f' g' t x K'):=by
 unfold Sz;split
 ·rename_i id off;refine Av hn fun _=>?_
  rcases hf id (by simp[Am]) with⟨h1,h2⟩|⟨h1,h2,h3⟩
  ·rw[←h1,←h2];split
   ·exact M3 hn fun _=>T9 hn fun _=>hK _
   ·exact Ct hn fun _ _=>Kk hn fun _=>T9 hn hK
  ·rw[h1,h2];exact h3 _
 ·exact Av hn fun _=>M3 hn fun _=>T9 hn fun _=>hK _
 ·exact hn
theorem VQ (hn:Rel none none){P:Program}{d:Nat}{src dst:TypeId}{x:PV}{K:PV->List (Nat × Bk)->Option R} {K':PV->List (Nat × Bk)->Option R'} (hf:P.underlying dst=some .string->JQ Rel f f' (Am x)) (hK:∀v b,(∀q∈b,q.1=d)->Rel (K v b) (K' v b)):Rel (Zz P f d src dst x K) (Zz P f' d src dst x K'):=by
 unfold Zz;split
 ·exact Av hn fun _=>Dm hn fun _ _=>hK _ _ (by simp)
 ·rename_i hds;split
  ·exact Er hn fun _=>hK _ _ (by simp)
  ·split
   ·exact Mg hn (hf hds) fun _ _=>Av hn fun _=>Ct hn fun _ _=>hK _ _ (by simp)
   ·exact Mg hn (hf hds) fun _ _=>Av hn fun _=>Ct hn fun _ _=>hK _ _ (by simp)
   ·exact hn
  ·exact hn
 ·split
  ·exact Er hn fun _=>Av hn fun _=>hK _ _ (by simp)
  ·exact hn
 ·exact hn
theorem YP (hn:Rel none none){shr:Bool}{id:Nat}{t:CT}{p:PV}{K:PV->List (Nat × Bk)->Option R} {K':PV->List (Nat × Bk)->Option R'} (hK:∀c b,(∀q∈b,q.1=id)->Rel (K c b) (K' c b)):Rel (Aax shr id t p K) (Aax shr id t p K'):=by
 unfold Aax;split
 ·cases shr
  ·exact RZ hn fun _ _=>hK _ _ (by simp)
  ·exact En hn fun _ _ _=>hK _ _ (by simp)
 ·exact Lk hn fun _=>hK _ _ (by simp)
theorem P7 (hn:Rel none none){shr:Bool}{N:Nat}:∀{ts:List CT}{id:Nat}{ps:List PV}{K:List PV->List (Nat × Bk)->Option R} {K':List PV->List (Nat × Bk)->Option R'},(∀c b,(∀q∈b,∃j,q.1=id+N*j)->Rel (K c b) (K' c b))->Rel (L9 shr N id ts ps K) (L9 shr N id ts ps K')
 |[],_,_,_,_,hK=>Eh hn (hK _ _ (by simp))
 |_::_,id,_,_,_,hK=>Be hn fun _ _ _=>YP hn fun _ b hb=>P7 hn fun _ bs CZ=>hK _ _ fun q hq=>by
   rcases List.mem_append.1 hq with h|h
   ·exact⟨0,by rw[hb q h];simp⟩
   ·obtain⟨j,hj⟩:=CZ q h;exact⟨j+1,by rw[hj,Nat.mul_add];omega⟩
theorem YQ (hn:Rel none none){P:Program}{shr:Bool}{N id:Nat}{t:TypeId}{p:PV}{K:PV->List (Nat × Bk)->Option R} {K':PV->List (Nat × Bk)->Option R'} (hK:∀c b,(∀q∈b,∃j,q.1=id+N*j)->Rel (K c b) (K' c b)):Rel (WK P shr N id t p K) (WK P shr N id t p K'):=by
 unfold WK;split
 ·refine UX hn fun ps=>P7 hn fun _ _ hb=>hK _ _ fun q hq=>?_
  rcases List.mem_cons.1 hq with rfl|hq
  ·exact⟨0,by simp⟩
  ·obtain⟨j,hj⟩:=hb q hq;exact⟨j+1,by rw[hj,Nat.mul_add];omega⟩
 cases B1 P t
 ·exact P7 hn fun _ _ hb=>Be hn fun _ _ _=>Eh hn (hK _ _ hb)
 ·exact Hf hn fun _ _=>P7 hn fun _ _ hb=>hK _ _ hb
theorem Up (hn:Rel none none){P:Program}{shr:Bool}{N:Nat}:∀{ts:List TypeId}{id:Nat}{ps:List PV}{K:List PV->List (Nat × Bk)->Option R} {K':List PV->List (Nat × Bk)->Option R'},(∀c b,(∀q∈b,∃j,q.1=id+N*j)->Rel (K c b) (K' c b))->Rel (V4 P shr N id ts ps K) (V4 P shr N id ts ps K')
 |[],_,_,_,_,hK=>Eh hn (hK _ _ (by simp))
 |t::_,id,_,_,_,hK=>Be hn fun _ _ _=>YQ hn fun _ b hb=>Up hn fun _ bs CZ=>hK _ _ fun q hq=>by
   rcases List.mem_append.1 hq with h|h
   ·exact hb q h
   ·obtain⟨j,hj⟩:=CZ q h;exact⟨LL P t+j,by rw[hj,Nat.mul_add];omega⟩
end
theorem Pq {p:PV}{i:Nat}(h:i∈Am p):i∈B6 p:=by cases p<;>first|exact h|simp[Am] at h
theorem Ew {p:PV}{i:Nat}(h:i∈B6 p):i∈Bo p:=by cases p<;>first|exact h|simp[B6,Am] at h
theorem H4 {p:PV}{i:Nat}(h:i∈Am p):i∈Bo p:=Ew (Pq h)
section
variable {R R':Type} {Rel:Option R->Option R'->Prop} {P:Program} {N:Nat} {tm tm':Nat->PV} {f f' g g':Nat->Option (List PV)} {o:Oper}
theorem Yp (hn:Rel none none){t:TypeId}{x:Operand}{K:PV->Option R}{K':PV->Option R'}(hx:Bv tm x=Bv tm' x)(hK:∀p,Rel (K p) (K' p)):Rel (Ug P t tm x K) (Ug P t tm' x K'):=by
 unfold Ug;split
 ·exact SF hn (fun _ _=>hK _) (fun _=>hK _)
 ·rw[hx];exact hK _
theorem Abf (hn:Rel none none){t:CT}{p:PV}{K:PV->Option R}{K':PV->Option R'}(hK:∀p,Am p=[]->Rel (K p) (K' p)):Rel (Uz t p K) (Uz t p K'):=by
 unfold Uz;split
 ·exact Gu hn fun _=>hK _ rfl
 ·exact Fl hn fun _=>hK _ rfl
 ·exact Er hn fun _=>hK _ rfl
 ·exact En hn fun _ _ _=>hK _ rfl
 ·exact RO hn fun _=>hK _ rfl
theorem EX (hn:Rel none none):∀{ts:List CT}{cells:List PV}{off:Nat}{K:List PV->Option R}{K':List PV->Option R'},(∀c,(∀p∈c,Am p=[])->Rel (K c) (K' c))->Rel (Of ts cells off K) (Of ts cells off K')
 |[],_,_,_,_,hK=>hK _ (by simp)
 |_::_,_,_,_,_,hK=>Abf hn fun c hc=>EX hn fun cs Xx=>hK _ (by
   intro p hp;rcases List.mem_cons.1 hp with h|h
   ·rw[h];exact hc
   ·exact Xx p h)
theorem Tk (hn:Rel none none){t:TypeId}{K:List PV->Option R}{K':List PV->Option R'}(hK:∀c,(∀p∈c,Am p=[])->Rel (K c) (K' c)):Rel (Fy P t K) (Fy P t K'):=
 Ct hn fun _ _=>Av hn fun _=>EX hn hK
theorem O6 {p c:PV}(h:c∈cellsOf p){i:Nat}(hi:i∈Am c):i∈B6 p:=by
 unfold cellsOf at h;split at h
 ·exact List.mem_flatMap.2 ⟨c,h,hi⟩
 ·simp at h;subst h;exact Pq hi
theorem RB {cells new:List PV}{off:Nat}{c:PV}(h:c∈B8 cells new off):c∈cells∨c∈new:=by
 unfold B8 at h;rcases List.mem_append.1 h with h|h
 ·rcases List.mem_append.1 h with h|h
  ·exact .inl (List.mem_of_mem_take h)
  ·exact .inr h
 ·exact .inl (List.mem_of_mem_drop h)
theorem Zp (hn:Rel none none){Fs:Nat->Option (Nat × Nat)} {S:Nat->Prop}:∀{ps:List (Nat × PV)} {cells:List PV}{K:List PV->Option R}{K':List PV->Option R'},(∀c∈cells,∀i∈Am c,S i)->(∀q∈ps,∀i∈B6 q.2,S i) ->
  (∀cs,(∀c∈cs,∀i∈Am c,S i)->Rel (K cs) (K' cs))->Rel (Ps Fs ps cells K) (Ps Fs ps cells K')
 |[],_,_,_,h1,_,hK=>hK _ h1
 |(_,p)::_,_,_,_,h1,h2,hK=>Ct hn fun _ _=>Av hn fun _=>Zp hn (fun c hc i hi=>by
   rcases RB hc with h|h
   ·exact h1 c h i hi
   ·exact h2 (_,p) List.mem_cons_self i (O6 h hi)) (fun q hq=>h2 q (List.mem_cons_of_mem _ hq)) hK
theorem Wd (hn:Rel none none):∀{ts:List CT}{ps:List PV}{K:List PV->List Nat->Option R}{K':List PV->List Nat->Option R'},(∀t∈ts,∀es,t ≠ .sl es)->(∀c,Rel (K c []) (K' c []))->Rel (Kd g ts ps K) (Kd g' ts ps K')
 |[],[],_,_,_,hK=>hK _
 |[],_::_,_,_,_,_=>hn
 |_::_,[],_,_,_,_=>hn
 |t::ts,p::ps,K,K',ht,hK=>by
  show Rel (K6 g t p _) (K6 g' t p _)
  have:∀{g:Nat->Option (List PV)} {S:Type} {L:PV->List Nat->Option S},K6 g t p L=Uz t p fun c=>L c []:=by
   intro g S L;cases t with
   |sl es=>exact absurd rfl (ht _ (by simp) es)
   |_=>rfl
  rw[this,this];exact Lk hn fun c=>Wd hn (fun t h=>ht t (by simp[h])) fun cs=>hK _
theorem Ack (hn:Rel none none){es:Nat}{t:TypeId}{x:PV}{K:Nat->List PV->Option R}{K':Nat->List PV->Option R'}(hx:JQ Rel g g' (Am x)) (hK:∀m c,Rel (K m c) (K' m c)):Rel (QK P g es t x K) (QK P g' es t x K'):=by
 unfold QK;split
 ·exact Av hn fun _=>Er hn fun _=>hK _ _
 ·exact Mg hn hx hK
 ·exact hn
theorem Aay (hn:Rel none none){t:TypeId}{x:PV}{K:Nat->Option R}{K':Nat->Option R'}(hK:∀n,Rel (K n) (K' n)):Rel (VN P t x K) (VN P t x K'):=by
 unfold VN;split
 ·exact En hn fun _ _ _=>Av hn fun _=>hK _
 ·exact hn
theorem MX (hn:Rel none none){d:Nat}{t tx:TypeId}{x:PV}{K:PV->List (Nat × Bk)->Option R} {K':PV->List (Nat × Bk)->Option R'} (hx:JQ Rel g g' (Am x)) (hK:∀v nw,Rel (K v nw) (K' v nw)):Rel (P6 P g d t tx x K) (P6 P g' d t tx x K'):=by
 unfold P6;split
 ·exact Av hn fun _=>Ack hn hx fun _ _=>Av hn fun _=>hK _ _
 ·exact hn
theorem Yy (hn:Rel none none){C:Ft}{call:Ax}{K:PV->List Nat->List (Nat × Bk)->Option R} {K':PV->List Nat->List (Nat × Bk)->Option R'}
  (Hp:∀x∈o.op.operands.toList,Bv tm x=Bv tm' x)
  (hfg:Gb P o.op=true->∀x∈o.op.operands.toList,∀i∈Bo (Bv tm' x),(f i=f' i∧g i=g' i)∨(f i=none∧g i=none∧∀b,Rel none b))
  (hK:∀v fz nw,(Gb P o.op=false->fz=[]∧∀q∈nw,o.dst=some q.1)->(∀i∈fz,g i≠none)->Rel (K v fz nw) (K' v fz nw)):
  Rel (X7 C P N call tm f g o K) (X7 C P N call tm' f' g' o K'):=by
 have h0:∀v,Rel (K v [] []) (K' v [] []):=fun v=>hK v [] [] (fun _=>⟨rfl,by simp⟩) (by simp)
 have hf:Gb P o.op=true->∀x∈o.op.operands.toList,JQ Rel f f' (Bo (Bv tm' x)):=fun h x hx i hi=>(hfg h x hx i hi).imp (·.1) fun h=>⟨h.1,h.2.2⟩
 have hg:Gb P o.op=true->∀x∈o.op.operands.toList,JQ Rel g g' (Bo (Bv tm' x)):=fun h x hx i hi=>(hfg h x hx i hi).imp (·.2) fun h=>⟨h.2.1,h.2.2⟩
 unfold X7;generalize hop:o.op=op at *
 split
 ·exact Yp hn (Hp _ (by simp[Op.operands])) h0
 ·exact Yp hn (Hp _ (by simp[Op.operands])) h0
 ·rename_i c x y;rw[Hp c (by simp[Op.operands]),Hp x (by simp[Op.operands]),Hp y (by simp[Op.operands])]
  exact Fl hn fun _=>Xg (h0 _) (h0 _)
 ·exact Ct hn fun d hd=>Pn hn fun _=>hK _ _ _ (fun _=>⟨rfl,by simp[hd]⟩) (by simp)
 ·rename_i t x;rw[Hp x (by simp[Op.operands])]
  refine Ct hn fun d hd=>Av hn fun _=>?_
  cases Pi P t
  ·exact Kk hn fun _=>hK _ _ _ (fun _=>⟨rfl,by simp[hd]⟩) (by simp)
  ·exact M3 hn fun _=>hK _ _ _ (fun _=>⟨rfl,by simp[hd]⟩) (by simp)
 ·rename_i t ps
  have:(ps.toList.map fun q=>(q.1,Bv tm q.2))=ps.toList.map fun q=>(q.1,Bv tm' q.2):=by
   apply List.map_congr_left;intro q hq;rw[Hp q.2 (by simp only[Op.operands];exact List.mem_map_of_mem hq)]
  rw[this];exact Av hn fun _=>Pn hn fun _=>Ue hn fun _=>Kk hn fun _=>h0 _
 ·rename_i t n ps
  have:(ps.toList.map fun q=>(q.1,Bv tm q.2))=ps.toList.map fun q=>(q.1,Bv tm' q.2):=by
   apply List.map_congr_left;intro q hq;rw[Hp q.2 (by simp only[Op.operands];exact List.mem_map_of_mem hq)]
  rw[this];refine Ct hn fun d hd=>?_
  split
  ·rename_i e hu;cases LF:Hk P [e]
   ·refine Av hn fun _=>Tk hn fun z hz=>Ue hn fun cs=>Wd hn ?_ fun cs'=>hK _ _ _ (fun _=>⟨rfl,by simp[hd]⟩) (by simp)
    intro c hc es he;obtain⟨l,hl,hc⟩:=List.mem_flatten.1 hc;rw[List.eq_of_mem_replicate hl] at hc;subst he
    have:Hk P [e]=true:=by
     unfold Hk;simp only[List.any_cons,List.any_nil,Bool.or_false,Bool.or_eq_true];exact .inr (List.any_eq_true.2 ⟨_,hc,rfl⟩)
    rw[this] at LF;cases LF
   refine Av hn fun _=>Tk hn fun z hz=>Zp (S:=fun i=>∃x∈(Op.buildSlice t n ps).operands.toList,i∈Bo (Bv tm' x)) hn ?_ ?_ fun cs Xx=>?_
   ·intro c hc i hi;obtain⟨l,hl,hc⟩:=List.mem_flatten.1 hc;rw[List.eq_of_mem_replicate hl] at hc;rw[hz c hc] at hi;simp at hi
   ·intro q hq i hi;obtain⟨q',Ex,rfl⟩:=List.mem_map.1 hq;exact⟨q'.2,by simp only[Op.operands];exact List.mem_map_of_mem Ex,Ew hi⟩
   ·refine P9 hn (fun i hi=>?_) fun cs' m hm=>hK _ _ _ (fun h=>by simp[Gb,hu,LF] at h) hm
    obtain⟨c,hc,hi⟩:=List.mem_flatMap.1 hi;obtain⟨x,hx,hxi⟩:=Xx c hc i hi;exact hg (by simp[Gb,hu,LF]) x hx i hxi
  ·exact hn
 ·rename_i t x;rw[Hp x (by simp[Op.operands])]
  exact FP hn (fun i hi=>hfg (by simp[Gb]) x (by simp[Op.operands]) i (H4 hi)) h0
 ·rename_i x;rw[Hp x (by simp[Op.operands])]
  exact Vf hn h0
 ·rename_i op' t x y _;rw[Hp x (by simp[Op.operands]),Hp y (by simp[Op.operands])]
  exact LV hn h0
 ·rename_i op' t x;rw[Hp x (by simp[Op.operands])]
  exact Afm hn h0
 ·rename_i src dst x;rw[Hp x (by simp[Op.operands])]
  exact VQ hn (fun hds i hi=>hg (by simp[Gb,hds]) x (by simp[Op.operands]) i (H4 hi)) fun v b hb=>Ct hn fun d hd=>hK _ _ _ (fun _=>⟨rfl,fun q hq=>by rw[hd,hb q hq,hd];rfl⟩) (by simp)
 ·rename_i t x y;rw[Hp x (by simp[Op.operands]),Hp y (by simp[Op.operands])]
  refine Ct hn fun d hd=>?_
  split
  ·exact Dm hn fun _ _=>Dm hn fun _ _=>Av hn fun _=>Pn hn fun _=>hK _ _ _ (fun _=>⟨rfl,by simp[hd]⟩) (by simp)
  ·exact hn
 ·rename_i t x lo hi mx;split
  ·rw[Hp x (by simp[Op.operands])]
   have h1:lo.map (Bv tm)=lo.map (Bv tm'):=by
    cases lo with
    |none=>rfl
    |some y=>simp only[Option.map_some];rw[Hp y (by simp[Op.operands])]
   have h2:hi.map (Bv tm)=hi.map (Bv tm'):=by
    cases hi with
    |none=>rfl
    |some y=>simp only[Option.map_some];rw[Hp y (by simp[Op.operands])]
   rw[h1,h2];exact PF hn (fun ⟨n,e,he⟩ i hi=>hf (by simp[Gb,he]) x (by simp[Op.operands]) i (H4 hi)) h0
  ·rename_i m;rw[Hp x (by simp[Op.operands])]
   have h1:lo.map (Bv tm)=lo.map (Bv tm'):=by
    cases lo with
    |none=>rfl
    |some y=>simp only[Option.map_some];rw[Hp y (by simp[Op.operands])]
   have h2:hi.map (Bv tm)=hi.map (Bv tm'):=by
    cases hi with
    |none=>rfl
    |some y=>simp only[Option.map_some];rw[Hp y (by simp[Op.operands])]
   rw[h1,h2,Hp m (by simp[Op.operands])]
   exact Ct hn fun d hd=>KS hn fun c=>hK _ _ _ (fun _=>⟨rfl,by simp[hd]⟩) (by simp)
 ·rename_i t x fl;rw[Hp x (by simp[Op.operands])]
  exact Ct hn fun _ _=>Av hn fun _=>Vf hn h0
 ·rename_i t x fl;rw[Hp x (by simp[Op.operands])]
  exact Ct hn fun _ _=>Av hn fun _=>Hf hn fun _ _=>Kk hn fun _=>T9 hn h0
 ·rename_i t x i;rw[Hp x (by simp[Op.operands]),Hp i (by simp[Op.operands])]
  exact Dm hn fun _ _=>Y4 hn h0
 ·rename_i t x i;rw[Hp x (by simp[Op.operands]),Hp i (by simp[Op.operands])]
  refine Dm hn fun _ _=>?_
  split
  ·exact Er hn fun _=>Av hn fun _=>Ct hn fun _ _=>h0 _
  ·exact Hf hn fun _ _=>Av hn fun _=>Kk hn fun _=>T9 hn h0
  ·exact hn
 ·rename_i t x k ok;rw[Hp x (by simp[Op.operands]),Hp k (by simp[Op.operands])]
  split
  ·refine Av hn fun _=>?_
   split
   ·exact Er hn fun _=>Ct hn fun _ _=>SF hn (fun _ _=>Av hn fun _=>h0 _) (fun _=>Av hn fun _=>h0 _)
   ·exact hn
  ·exact hn
 ·rename_i x i;rw[Hp x (by simp[Op.operands])]
  split
  ·exact Ct hn fun _ _=>h0 _
  ·exact hn
 ·rename_i c
  have H7:∀x∈c.args.toList,x∈(Op.call c).operands.toList:=by
   intro x hx;simp only[Op.operands,Call.operands,Array.toList_append,List.mem_append];exact .inr hx
  have rc:∀fn,Gb P (.call c)=true->Rel (Yn C P N call tm g o c fn K) (Yn C P N call tm' g' o c fn K'):=by
   intro fn OJ;unfold Yn;have:c.args.toList.map (Bv tm)=c.args.toList.map (Bv tm'):=List.map_congr_left fun x hx=>Hp x (H7 x hx)
   rw[this];refine FD hn (fun i hi=>?_) fun vs m hm=>FN hn fun rv ro=>Eh hn (Av hn fun _=>Up hn fun ws bs CZ=>Av hn fun _=>hK _ _ _ (fun h=>by rw[OJ] at h;cases h) (fun i hi=>?_))
   ·obtain⟨p,hp,hi⟩:=List.mem_flatMap.1 hi;obtain⟨x,hx,rfl⟩:=List.mem_map.1 hp;exact hg OJ x (H7 x hx) i (Ew hi)
   ·have OA:i∈m:=by
     cases hq:Hk P (Kl P o.type)<;>rw[hq] at hi
     ·simp at hi
     ·exact hi
    exact hm i OA
  split
  ·refine Be hn fun x _ hx=>Be hn fun _ _ _=>?_
   rw[Hp x (H7 x (by rw[hx];simp))]
   exact ZN hn fun _=>h0 _
  ·refine Be hn fun x _ hx=>Be hn fun _ _ _=>?_
   rw[Hp x (H7 x (by rw[hx];simp))]
   exact Aay hn fun _=>h0 _
  ·refine Be hn fun x _ hx=>Be hn fun y _ hy=>Eh hn ?_
   subst hy;rw[Hp x (H7 x (by rw[hx];simp)),Hp y (H7 y (by rw[hx];simp))]
   exact Acn hn h0
  ·refine Be hn fun x _ hx=>Be hn fun y _ hy=>Eh hn ?_
   subst hy;rw[Hp x (H7 x (by rw[hx];simp)),Hp y (H7 y (by rw[hx];simp))]
   exact Ab1 hn h0
  ·rename_i hc;have OJ:Gb P (.call c)=true:=by simp[Gb,hc]
   refine Av hn fun _=>Ct hn fun d hd=>Be hn fun _ _ hb=>Be hn fun x _ hx=>Eh hn (Be hn fun _ _ _=>Be hn fun _ _ _=>?_)
   have UP:x∈c.args.toList:=by rw[hb,hx];simp
   rw[Hp x (H7 x UP)];exact MX hn (fun i hi=>hg OJ x (H7 x UP) i (H4 hi)) fun v nw=>hK _ _ _ (fun h=>by rw[OJ] at h;cases h) (by simp)
  ·rename_i fn hc;have OJ:Gb P (.call c)=true:=by simp[Gb,hc]
   exact rc fn OJ
  ·rename_i t hc;have OJ:Gb P (.call c)=true:=by simp[Gb,hc]
   have ht:=Hp (.tmp t) (by simp[Op.operands,Call.operands,hc])
   change tm t=tm' t at ht;rw[ht];exact Af0 hn fun fn=>rc fn OJ
  ·exact hn
 ·exact hn
variable {hp:Nat->Option Bk}
end
open Go.RowKit
abbrev Po:=PV × List Nat × List (Nat × Bk)
def Fw (ops:Array Oper)(o:Oper)(tm:Nat->PV):Option Bool:=
 match o.guard with
 |none=>some true
 |some (j,want)=>
  match (ops[j]?).bind (·.dst) with
  |none=>none
  |some d=>
   match tm d with
   |.sc (.bool b)=>some (b==want)
   |.sc (.tuple _)=>some false
   |_=>none
section
variable {R:Type} {r:R} {C:Ft} {P:Program} {N:Nat} {call:Ax} {ops:Array Oper} {o x:Oper} {s:St} {K:St->Option R}
theorem JE:C8 C P N call ops o s K=match Fw ops o s.tm with
  |none=>none
  |some true=>NK C P N call o s K
  |some false=>Bi (Fc N o.dst) (K ⟨Bj s.tm o.dst (.sc undef),s.hp⟩):=by
 unfold C8 Fw;cases o.guard with
 |none=>rfl
 |some q=>
  obtain⟨j,want⟩:=q;cases hd:(ops[j]?).bind (·.dst) with
  |none=>simp[hd]
  |some d=>
   simp only[hd];cases ht:s.tm d with
   |sc v=>
    cases v with
    |bool b=>
     cases b<;>cases want<;>simp only[Bh,cond_true,cond_false,Sx s.tm ht]<;>rfl
    |_=>rfl
   |_=>rfl
def WW (C:Ft)(P:Program)(N:Nat)(call:Ax)(o:Oper)(s:St):Option Po:=
 X7 C P N call s.tm (rd s.hp) (Hm s.hp) o fun v fz nw=>some (v,fz,nw)
theorem Ad5 {K:PV->List Nat->List (Nat × Bk)->Option R}:X7 C P N call s.tm (rd s.hp) (Hm s.hp) o K=(WW C P N call o s).bind fun q=>K q.1 q.2.1 q.2.2:=by
 refine Yy (Rel:=fun (a:Option R) (b:Option Po)=>a=b.bind fun q=>K q.1 q.2.1 q.2.2) (K:=K) (K':=fun v fz nw=>some (v,fz,nw)) rfl (fun _ _=>rfl) (fun _ _ _ _ _=>.inl ⟨rfl,rfl⟩) fun v fz nw _ _=>rfl
theorem PO {q:Po}(h:WW C P N call o s=some q):(Gb P o.op=false->q.2.1=[]∧∀p∈q.2.2,o.dst=some p.1)∧∀i∈q.2.1,Hm s.hp i≠none:=by
 have:=Yy (C:=C) (P:=P) (N:=N) (call:=call) (o:=o) (tm:=s.tm) (tm':=s.tm) (f:=rd s.hp) (f':=rd s.hp) (g:=Hm s.hp) (g':=Hm s.hp)
  (Rel:=fun (a:Option Po)(_:Option Po)=>∀q,a=some q->(Gb P o.op=false->q.2.1=[]∧∀p∈q.2.2,o.dst=some p.1)∧∀i∈q.2.1,Hm s.hp i≠none)
  (K:=fun v fz nw=>some (v,fz,nw)) (K':=fun v fz nw=>some (v,fz,nw)) (fun _ h=>by cases h) (fun _ _=>rfl) (fun _ _ _ _ _=>.inl ⟨rfl,rfl⟩) (fun v fz nw h1 h2 q hq=>by cases hq;exact⟨h1,h2⟩)
 exact this q h
def gE (C:Ft)(P:Program)(N:Nat)(call:Ax)(ops:Array Oper)(o:Oper)(s:St):Option Po:=
 match Fw ops o s.tm with
 |none=>none
 |some true=>bif M6 C P o.op then none else WW C P N call o s
 |some false=>some (.sc undef,[],[])
def Fn (C:Ft)(P:Program)(ops:Array Oper)(o:Oper)(tm:Nat->PV):Bool:=M6 C P o.op&&(Fw ops o tm==some true)
theorem H3 (h:Fn C P ops o s.tm=false):C8 C P N call ops o s K=(gE C P N call ops o s).bind fun q=>U9 N s o.dst q.1 q.2.1 q.2.2 K:=by
 rw[JE];unfold gE;unfold Fn at h;cases hv:Fw ops o s.tm with
 |none=>rfl
 |some b=>
  rw[hv] at h;cases b with
  |false=>
   show Bi _ _=U9 N s o.dst (.sc undef) [] [] K;unfold U9;have h1:Bn s.hp []=true:=rfl;have h2:An (Af s.hp []) []=s.hp:=rfl;rw[h1,h2,Bool.and_true]
  |true=>
   have hm:M6 C P o.op=false:=by simpa using h
   simp only[NK,hm,cond_false];exact Ad5
theorem Gy (h:Fn C P ops o s.tm=true):C8 C P N call ops o s K=Ql C P N call s o K:=by
 rw[JE];unfold Fn at h;simp only[Bool.and_eq_true,beq_iff_eq] at h;rw[h.2];simp only[NK,h.1,cond_true]
theorem Ph {q:Po}(h:gE C P N call ops o s=some q):(Gb P o.op=false->q.2.1=[]∧∀p∈q.2.2,o.dst=some p.1)∧∀i∈q.2.1,Hm s.hp i≠none:=by
 unfold gE at h;split at h
 ·cases h
 ·cases hm:M6 C P o.op<;>rw[hm] at h
  ·exact PO h
  ·cases h
 ·cases h;exact⟨fun _=>⟨rfl,by simp⟩,by simp⟩
theorem Em {tm tm':Nat->PV}(h:∀t∈looks ops o,tm t=tm' t):∀y∈o.op.operands.toList,Bv tm y=Bv tm' y:=by
 intro y hy;cases y with
 |tmp t=>
  refine h t ?_;unfold looks ZS;refine List.mem_append.2 (.inl (List.mem_filterMap.2 ⟨.tmp t,hy,rfl⟩))
 |const v=>cases v<;>rfl
 |func f=>rfl
 |«global» g=>rfl
theorem Ig {tm tm':Nat->PV}(h:∀t∈looks ops o,tm t=tm' t):Fw ops o tm=Fw ops o tm':=by
 unfold Fw;cases hg:o.guard with
 |none=>rfl
 |some q=>
  obtain⟨j,want⟩:=q;cases hd:(ops[j]?).bind (·.dst) with
  |none=>simp[hd]
  |some d=>
   have:tm d=tm' d:=h d (by
    unfold looks;rw[hg];refine List.mem_append.2 (.inr ?_);simp only[hd];simp)
   simp only[hd,this]
theorem Sf {s':St}{q:Po}(ht:∀t∈looks ops o,s.tm t=s'.tm t)
  (hm:Gb P o.op=true->∀y∈o.op.operands.toList,∀i∈Bo (Bv s'.tm y),(rd s.hp i=rd s'.hp i∧Hm s.hp i=Hm s'.hp i)∨(rd s.hp i=none∧Hm s.hp i=none))
  (h:gE C P N call ops o s=some q):gE C P N call ops o s'=some q:=by
 unfold gE at h ⊢;rw[←Ig ht];split at h
 ·cases h
 ·cases hM:M6 C P o.op<;>rw[hM] at h
  ·have:=Yy (C:=C) (P:=P) (N:=N) (call:=call) (o:=o) (tm:=s.tm) (tm':=s'.tm) (f:=rd s.hp) (f':=rd s'.hp) (g:=Hm s.hp) (g':=Hm s'.hp)
    (Rel:=fun (a b:Option Po)=>a=some q->b=some q)
    (K:=fun v fz nw=>some (v,fz,nw)) (K':=fun v fz nw=>some (v,fz,nw)) (fun h=>h) (Em ht)
    (fun Hv y hy i hi=>(hm Hv y hy i hi).imp id fun h=>⟨h.1,h.2,fun _ h=>by cases h⟩) (fun v fz nw _ _ h=>h)
   exact this h
  ·cases h
 ·exact h
end
open Go.RowKit
theorem Mh:∀{nw:List (Nat × Bk)} {hp Ck:Nat->Option Bk},Bn hp nw=true->(∀i b,(i,b)∈nw->Ck i=none)->Bn Ck nw=true
 |[],_,_,_,_=>rfl
 |(i,b)::nw,hp,Ck,h,h'=>by
  simp only[Bn,Bool.and_eq_true,Option.isNone_iff_eq_none] at h ⊢;exact⟨⟨h' i b (by simp),h.1.2⟩,Mh h.2 fun j c hj=>h' j c (by simp[hj])⟩
section
variable {hp:Nat->Option Bk} {fz:List Nat} {nw:List (Nat × Bk)}
theorem E2 (ha:Bn hp nw=true){i:Nat}(hi:hp i≠none):An (Af hp fz) nw i=if i∈fz then (hp i).map Ot else hp i:=by
 obtain⟨h1,h2⟩:=Bg ha;rw[(Du h2).2 i (fun bx hb=>hi (h1 i bx hb)),Bq]
theorem G8 (ha:Bn hp nw=true){i:Nat}{b:Bk}(hi:(i,b)∈nw):An (Af hp fz) nw i=some b:=
 (Du (Bg ha).2).1 i b hi
theorem Kz (ha:Bn hp nw=true){i:Nat}(hi:hp i=none)(hn:∀b,(i,b) ∉ nw):An (Af hp fz) nw i=none:=by
 rw[(Du (Bg ha).2).2 i hn,Bq,hi];simp
theorem Kv (ha:Bn hp nw=true){i:Nat}(hi:hp i≠none):An (Af hp fz) nw i≠none:=by
 rw[E2 ha hi];cases h:hp i with
 |none=>exact absurd h hi
 |some b=>split<;>simp
theorem Aep (b:Option Bk):(match b.map Ot with|some (.st c)=>some c|some (.ar _ c)=>some c|_=>none)=(match b with|some (.st c)=>some c|some (.ar _ c)=>some c|_=>none):=by
 cases b with
 |none=>rfl
 |some b=>cases b<;>rfl
theorem Aao (b:Option Bk):(match b.map Ot with|some (.ar _ c)=>some c|_=>none)=(match b with|some (.ar _ c)=>some c|_=>none):=by
 cases b with
 |none=>rfl
 |some b=>cases b<;>rfl
theorem MG (ha:Bn hp nw=true){i:Nat}(hi:hp i≠none):rd (An (Af hp fz) nw) i=rd hp i:=by
 unfold rd;rw[E2 ha hi];by_cases h:i∈fz
 ·rw[if_pos h];exact Aep _
 ·rw[if_neg h]
theorem FF (ha:Bn hp nw=true){i:Nat}(hi:hp i≠none):Hm (An (Af hp fz) nw) i=Hm hp i:=by
 unfold Hm;rw[E2 ha hi];by_cases h:i∈fz
 ·rw[if_pos h];exact Aao _
 ·rw[if_neg h]
theorem SX {i:Nat}(hi:hp i=none):rd hp i=none:=by unfold rd;rw[hi]
theorem Im {i:Nat}(hi:hp i=none):Hm hp i=none:=by unfold Hm;rw[hi]
theorem Apr (b:Option Bk):(b.map Ot).map Ot=b.map Ot:=by
 cases b with
 |none=>rfl
 |some b=>cases b<;>rfl
theorem RA {fx fo:List Nat}{nx no:List (Nat × Bk)} (hx:Bn hp nx=true)(ho:Bn (An (Af hp fx) nx) no=true) (LD:Bn hp no=true)
  (Oy:Bn (An (Af hp fo) no) nx=true) (h1:∀i∈fx,hp i≠none)(h2:∀i∈fo,hp i≠none):
  An (Af (An (Af hp fx) nx) fo) no=An (Af (An (Af hp fo) no) fx) nx:=by
 funext i
 by_cases hi:hp i=none
 ·by_cases FW:∃b,(i,b)∈no
  ·obtain⟨b,hb⟩:=FW
   have hnx:∀b',(i,b') ∉ nx:=fun b' Gi=>by
    have:=(Bg ho).1 i b hb;rw[G8 hx Gi] at this;cases this
   rw[G8 ho hb,E2 Oy (by rw[G8 LD hb];simp),G8 LD hb,if_neg (fun h=>h1 i h hi)]
  ·have FW:∀b,(i,b) ∉ no:=fun b hb=>FW ⟨b,hb⟩
   by_cases hnx:∃b,(i,b)∈nx
   ·obtain⟨b,hb⟩:=hnx;rw[G8 Oy hb,E2 ho (by rw[G8 hx hb];simp),G8 hx hb,if_neg (fun h=>h2 i h hi)]
   ·have hnx:∀b,(i,b) ∉ nx:=fun b hb=>hnx ⟨b,hb⟩
    rw[Kz ho (Kz hx hi hnx) FW,Kz Oy (Kz LD hi FW) hnx]
 ·rw[E2 ho (Kv hx hi),E2 hx hi,E2 Oy (Kv LD hi),E2 LD hi];split<;>split<;>first|rfl|rw[Apr]
end
section
variable {R:Type} {r:R} {C:Ft} {P:Program} {N:Nat} {call:Ax} {ops:Array Oper} {o x:Oper} {s:St} {K:St->Option R}
structure S2 (C:Ft) (P:Program) (ops:Array Oper) (x o:Oper):Prop where
 xo:∀d,x.dst=some d->d ∉ looks ops o
 ne:∀d,x.dst=some d->o.dst≠some d
 ox:∀d,o.dst=some d->d ∉ looks ops x
 mx:M6 C P x.op=true->Gb P o.op=false
 mo:M6 C P o.op=true->Gb P x.op=false
theorem Nr {l:List Nat}{d:Nat}(h:l.any (Nat.beq d)=false):d ∉ l:=by
 intro hm;have:l.any (Nat.beq d)=true:=List.any_eq_true.2 ⟨d,hm,Nat.beq_refl d⟩;rw[this] at h;cases h
theorem Acc (h:Zv C P ops x o=false):S2 C P ops x o:=by
 unfold Zv at h;simp only[Bool.or_eq_false_iff,Bool.and_eq_false_iff] at h;obtain⟨⟨⟨h1,h2⟩,h3⟩,h4⟩:=h;refine⟨fun d hd=>?_,fun d hd he=>?_,fun d hd=>?_,fun hm=>?_,fun hm=>?_⟩
 ·simp only[hd,Bool.or_eq_false_iff] at h1;exact Nr h1.1
 ·simp only[hd,he,Bool.or_eq_false_iff] at h1;rw[Nat.beq_refl] at h1;cases h1.2
 ·simp only[hd] at h2;exact Nr h2
 ·rw[hm] at h3;rcases h3 with h|h
  ·cases h
  ·exact h
 ·rw[hm] at h4;rcases h4 with h|h
  ·cases h
  ·exact h
theorem D4 {tm:Nat->PV}{d:Option Tmp}{v:PV}{l:List Nat}(h:∀i,d=some i->i ∉ l):∀t∈l,Bj tm d v t=tm t:=by
 intro t ht;cases d with
 |none=>rfl
 |some d=>exact Ai _ _ (by rintro rfl;exact h _ rfl ht)
theorem Ia {tm:Nat->PV}{d e:Option Tmp}{u v:PV}(h:∀i,d=some i->e≠some i):Bj (Bj tm d u) e v=Bj (Bj tm e v) d u:=by
 cases d with
 |none=>rfl
 |some d=>
  cases e with
  |none=>rfl
  |some e=>exact ND _ _ _ (by rintro rfl;exact h _ rfl rfl)
def OE (C:Ft)(P:Program)(o:Oper)(s:St):Prop:=(∀y∈o.op.operands.toList,∀i∈Bo (Bv s.tm y),s.hp i≠none) ∧
 (M6 C P o.op=true->Kt o.op=false->∀y∈o.op.operands.toList,∀i∈Bo (Bv s.tm y),∀c,s.hp i=some (.st c)->∀p∈c,∀k∈Am p,s.hp k≠none)
theorem F9 {tm tm':Nat->PV}(h:∀t∈looks ops o,tm t=tm' t):Fn C P ops o tm=Fn C P ops o tm':=by
 unfold Fn;rw[Ig h]
theorem TA (hw:OE C P o s)(xo:∀d,x.dst=some d->d ∉ looks ops o)(ne:∀d,x.dst=some d->o.dst≠some d)(ox:∀d,o.dst=some d->d ∉ looks ops x)(hx:Fn C P ops x s.tm=false)(ho:Fn C P ops o s.tm=false)
  (h:C8 C P N call ops x s (fun s1=>C8 C P N call ops o s1 K)=some r):C8 C P N call ops o s (fun s1=>C8 C P N call ops x s1 K)=some r:=by
 rw[H3 hx] at h;cases ex:gE C P N call ops x s with
 |none=>rw[ex] at h;cases h
 |some q=>
 obtain⟨vx,fx,nx⟩:=q;rw[ex] at h;obtain⟨hb,h1⟩:=Aj h;simp only[Bool.and_eq_true] at hb;have t1:∀t∈looks ops o,Bj s.tm x.dst vx t=s.tm t:=D4 xo;change C8 C P N call ops o ⟨Bj s.tm x.dst vx,An (Af s.hp fx) nx⟩ K=some r at h1;rw[H3 (by rw[F9 t1];exact ho)] at h1
 cases eo:gE C P N call ops o ⟨Bj s.tm x.dst vx,An (Af s.hp fx) nx⟩ with
 |none=>rw[eo] at h1;cases h1
 |some q=>
 obtain⟨vo,fo,no⟩:=q;rw[eo] at h1;obtain⟨hc,h2⟩:=Aj h1;change K ⟨Bj (Bj s.tm x.dst vx) o.dst vo,An (Af (An (Af s.hp fx) nx) fo) no⟩=some r at h2;simp only[Bool.and_eq_true] at hc
 have eo':gE C P N call ops o s=some (vo,fo,no):=by
  refine Sf t1 (fun _ y hy i hi=>?_) eo
  have:=hw.1 y hy i hi;exact .inl ⟨MG hb.2 this,FF hb.2 this⟩
 have LD:Bn s.hp no=true:=Mh hc.2 fun i b hi=>by
  cases hs:s.hp i with
  |none=>rfl
  |some c=>exact absurd ((Bg hc.2).1 i b hi) (Kv hb.2 (by rw[hs];simp))
 rw[H3 ho,eo']
 have Oy:Bn (An (Af s.hp fo) no) nx=true:=Mh hb.2 fun i b hi=>by
  refine Kz LD ((Bg hb.2).1 i b hi) fun c Nv=>?_
  have:=(Bg hc.2).1 i c Nv;rw[G8 hb.2 hi] at this;cases this
 have t2:∀t∈looks ops x,s.tm t=Bj s.tm o.dst vo t:=fun t ht=>(D4 ox t ht).symm
 have ex':gE C P N call ops x ⟨Bj s.tm o.dst vo,An (Af s.hp fo) no⟩=some (vx,fx,nx):=by
  refine Sf t2 (fun _ y hy i hi=>?_) ex
  by_cases hs:s.hp i=none
  ·exact .inr ⟨SX hs,Im hs⟩
  ·exact .inl ⟨(MG LD hs).symm,(FF LD hs).symm⟩
 show Bi _ _=_;rw[hc.1,LD];show C8 C P N call ops x ⟨Bj s.tm o.dst vo,An (Af s.hp fo) no⟩ K=some r;rw[H3 (by rw[←F9 t2];exact hx),ex']
 show Bi _ _=_;rw[hb.1,Oy];rw[←h2];have hfx:∀i∈fx,s.hp i≠none:=fun i hi hs=>(Ph ex).2 i hi (Im hs)
 have hfo:∀i∈fo,s.hp i≠none:=fun i hi hs=>(Ph eo').2 i hi (Im hs)
 show K ⟨Bj (Bj s.tm o.dst vo) x.dst vx,An (Af (An (Af s.hp fo) no) fx) nx⟩=K _;rw[Ia ne,RA hb.2 hc.2 LD Oy hfx hfo]
end
open Go.RowKit
theorem Sj {C:Ft}{P:Program}{o:Op}(h:M6 C P o=true):Gb P o=true:=by
 unfold M6 at h;split at h
 ·rfl
 ·rename_i c;unfold Gb;simp only;split at h<;>rename_i hc
  ·rw[hc]
  ·rw[hc]
  ·cases h
  ·rw[hc]
  ·cases h
 ·cases h
structure CC (N:Nat) (S:Nat->Prop) (dst:Option Nat) (hp Cb Ck Ek:Nat->Option Bk):Prop where
 keep:∀i,hp i≠none->Ck i≠none
 off:∀i,i<N->dst≠some i->(¬S i∨hp i=none)->Ck i=hp i∧Ek i=Cb i
 same:∀i,hp i=Cb i->Ck i=Ek i
 far:∀i,¬S i->hp i≠none->Ck i=hp i
section
variable {R R':Type} {Rel:Option R->Option R'->Prop} {P:Program} {N:Nat} {tm tm':Nat->PV} {hp Cb:Nat->Option Bk} {f f':Nat->Option (List PV)} {o:Oper}
theorem DT (hn:Rel none none){t:CT}{p:PV}{K:PV->List Nat->Option R}{K':PV->List Nat->Option R'}(hf:JQ Rel f f' (Am p)) (hK:∀c m,(∀i∈m,f i≠none∧i∈Am p)->Rel (K c m) (K' c m)):Rel (K6 f t p K) (K6 f' t p K'):=by
 unfold K6;split
 ·split
  ·rename_i id es' off n;cases Nat.beq es' _
   ·exact hn
   ·exact Sv hn hf (by simp[Am]) fun c hc=>Av hn fun _=>hK _ _ (by simp[hc,Am])
  ·exact En hn fun _ _ _=>hK _ _ (by simp)
 ·exact Lk hn fun _=>hK _ _ (by simp)
theorem Z5 (hn:Rel none none):∀{ts:List CT}{ps:List PV}{K:List PV->List Nat->Option R}{K':List PV->List Nat->Option R'},JQ Rel f f' (ps.flatMap Am)->(∀c m,(∀i∈m,f i≠none∧i∈ps.flatMap Am)->Rel (K c m) (K' c m))->Rel (Kd f ts ps K) (Kd f' ts ps K')
 |[],[],_,_,_,hK=>hK _ _ (by simp)
 |[],_::_,_,_,_,_=>hn
 |_::_,[],_,_,_,_=>hn
 |_::_,p::ps,_,_,hf,hK=>DT hn (fun i hi=>hf i (by simp only[List.flatMap_cons,List.mem_append];exact .inl hi)) fun _ m hm=>Z5 hn (fun i hi=>hf i (by simp only[List.flatMap_cons,List.mem_append];exact .inr hi)) fun _ ms Zx=>hK _ _ fun i hi=>by
   simp only[List.flatMap_cons,List.mem_append];rcases List.mem_append.1 hi with h|h
   ·exact⟨(hm i h).1,.inl (hm i h).2⟩
   ·exact⟨(Zx i h).1,.inr (Zx i h).2⟩
theorem Qe {S:Nat->Prop}{dst:Option Nat}{id:Nat}{b:Bk}{h0 h1:Nat->Option Bk}(hS:S id)(Bf:hp id≠none)(h:CC N S dst hp Cb h0 h1):CC N S dst hp Cb (Ch h0 id (some b)) (Ch h1 id (some b)):=by
 refine⟨fun i hi=>?_,fun i hN hd hi=>?_,fun i hi=>?_,fun i hn hi=>?_⟩
 ·by_cases e:i=id
  ·subst e;rw[Al];simp
  ·rw[Ai _ _ e];exact h.keep i hi
 ·have e:i≠id:=by
   rintro rfl
   rcases hi with hi|hi
   ·exact hi hS
   ·exact Bf hi
  rw[Ai _ _ e,Ai _ _ e];exact h.off i hN hd hi
 ·by_cases e:i=id
  ·subst e;rw[Al,Al]
  ·rw[Ai _ _ e,Ai _ _ e];exact h.same i hi
 ·rw[Ai _ _ (by rintro rfl;exact hn hS)];exact h.far i hn hi
theorem FZ {S:Nat->Prop}{d:Nat}{b:Bk}{h0 h1:Nat->Option Bk}(hz:hp d=none)(h:CC N S (some d) hp Cb h0 h1):CC N S (some d) hp Cb (Ch h0 d (some b)) (Ch h1 d (some b)):=by
 refine⟨fun i hi=>?_,fun i hN hd hi=>?_,fun i hi=>?_,fun i hn hi=>?_⟩
 ·by_cases e:i=d
  ·subst e;rw[Al];simp
  ·rw[Ai _ _ e];exact h.keep i hi
 ·have e:i≠d:=by rintro rfl;exact hd rfl
  rw[Ai _ _ e,Ai _ _ e];exact h.off i hN hd hi
 ·by_cases e:i=d
  ·subst e;rw[Al,Al]
  ·rw[Ai _ _ e,Ai _ _ e];exact h.same i hi
 ·rw[Ai _ _ (by rintro rfl;exact hi hz)];exact h.far i hn hi
theorem O5 (S:Nat->Prop)(dst:Option Nat):CC N S dst hp Cb hp Cb:=⟨fun _ h=>h,fun _ _ _ _=>⟨rfl,rfl⟩,fun _ h=>h,fun _ _ _=>rfl⟩
theorem QT {S:Nat->Prop}{dst:Option Nat}{m:List Nat}(hm:∀i∈m,hp i≠none∧S i):CC N S dst hp Cb (Af hp m) (Af Cb m):=by
 refine⟨fun i hi=>fun h=>hi (Dl.1 h),fun i hN hd hi=>?_,fun i hi=>?_,fun i hn hi=>?_⟩
 ·have e:i ∉ m:=by
   intro h;rcases hi with hi|hi
   ·exact hi (hm i h).2
   ·exact (hm i h).1 hi
  rw[Bq,Bq,if_neg e,if_neg e];exact⟨rfl,rfl⟩
 ·rw[Bq,Bq,hi]
 ·rw[Bq,if_neg (fun h=>hn (hm i h).2)]
theorem GG {S:Nat->Prop}(h:∀i,S i->hp i=Cb i∨(hp i=none∧∀b,Rel none b)) {l:List Nat}(hl:∀i∈l,S i):JQ Rel (Hm hp) (Hm Cb) l:=by
 intro i hi;rcases h i (hl i hi) with h|⟨h,h'⟩
 ·left;unfold Hm;rw[h]
 ·exact .inr ⟨Im h,h'⟩
theorem NO (hn:Rel none none){t:TypeId}{a x:PV}{K:St->Option R}{K':St->Option R'}{S:Nat->Prop}(hS:∀i,S i->hp i=Cb i∨(hp i=none∧∀b,Rel none b)) (ha:∀i∈Am a,S i)(hx:∀i∈B6 x,S i)
  (hK:∀Ck Ek,CC N S none hp Cb Ck Ek->Rel (K ⟨tm,Ck⟩) (K' ⟨tm',Ek⟩)):Rel (Uq P ⟨tm,hp⟩ t a x K) (Uq P ⟨tm',Cb⟩ t a x K'):=by
 unfold Uq;split
 ·rename_i id off;show Rel (match hp id with|some (.st c)=>_|some (.ar false c)=>_|_=>none) (match Cb id with|some (.st c)=>_|some (.ar false c)=>_|_=>none)
  have Bf:S id:=ha id (by simp[Am])
  rcases hS id Bf with h|⟨h,hb⟩
  ·rw[←h];split
   ·rename_i c hc;exact Av hn fun _=>Kk hn fun _=>hK _ _ (Qe Bf (by rw[hc];simp) (O5 _ _))
   ·rename_i c hc;refine Av hn fun _=>Z5 hn (GG hS fun i hi=>hx i ?_) fun _ m hm=>Av hn fun _=>hK _ _ (Qe Bf (by rw[hc];simp) (QT fun i hi=>⟨fun h=>(hm i hi).1 (Im h),hx i ?_⟩))
    ·obtain⟨c,hc,hi⟩:=List.mem_flatMap.1 hi;exact O6 hc hi
    ·obtain⟨c,hc,hi⟩:=List.mem_flatMap.1 (hm i hi).2;exact O6 hc hi
   ·exact hn
  ·rw[h];exact hb _
 ·exact hn
theorem Uy (hn:Rel none none){es:Nat}{t:TypeId}{x:PV}{K:Nat->List PV->Option R}{K':Nat->List PV->Option R'}{S:Nat->Prop}(hS:∀i,S i->hp i=Cb i∨(hp i=none∧∀b,Rel none b)) (hx:∀i∈B6 x,S i)(hK:∀m c,Rel (K m c) (K' m c)):Rel (PM P ⟨tm,hp⟩ es t x K) (PM P ⟨tm',Cb⟩ es t x K'):=by
 unfold PM QK;split
 ·exact Av hn fun _=>Er hn fun _=>hK _ _
 ·exact Mg hn (GG hS fun i hi=>hx i (Pq hi)) hK
 ·exact hn
theorem S8 (hn:Rel none none){d:Nat}{t tx:TypeId}{b x:PV}{K:St->Option R}{K':St->Option R'}{S:Nat->Prop}(hS:∀i,S i->hp i=Cb i∨(hp i=none∧∀b,Rel none b)) (EV:hp d=Cb d)(hb:∀i∈B6 b,S i)(hx:∀i∈B6 x,S i)
  (hK:∀v Ck Ek,(∀M,CC M S (some d) hp Cb Ck Ek)->Rel (K ⟨Ch tm d v,Ck⟩) (K' ⟨Ch tm' d v,Ek⟩)):Rel (Lb P N ⟨tm,hp⟩ d t tx b x K) (Lb P N ⟨tm',Cb⟩ d t tx b x K'):=by
 unfold Lb;split
 ·refine Av hn fun _=>?_
  cases Sn P tx
  rotate_left
  ·show Rel (O3 P N ⟨tm,hp⟩ d _ b x K) (O3 P N ⟨tm',Cb⟩ d _ b x K');refine Dm hn fun _ n=>En hn fun z _ _=>?_
   show Rel (Bi (z&&Nat.blt d N&&(hp d).isNone&&_&&_&&_) _) (Bi (z&&Nat.blt d N&&(Cb d).isNone&&_&&_&&_) _);rw[←EV];exact Av hn fun hb=>hK _ _ _ (fun M=>FZ (by simp only[Bool.and_eq_true,Option.isNone_iff_eq_none] at hb;simp only[hb]) (O5 _ _))
  rw[cond_false,cond_false];refine Uy hn hS hx fun m new=>?_
  split
  ·rename_i id es off n;show Rel (match hp id with|some (.ar false c)=>Bi (Nat.beq es _&&Nat.beq off 0&&Nat.blt d N&&(hp d).isNone&&_&&_&&_&&_) _|_=>none) (match Cb id with|some (.ar false c)=>Bi (Nat.beq es _&&Nat.beq off 0&&Nat.blt d N&&(Cb d).isNone&&_&&_&&_&&_) _|_=>none)
   have Bf:S id:=hb id (by simp[B6,Am])
   rw[←EV];rcases hS id Bf with h|⟨h,TU⟩
   ·rw[←h];split
    ·rename_i c hc;exact Av hn fun hb=>hK _ _ _ (fun M=>FZ (by simp only[Bool.and_eq_true,Option.isNone_iff_eq_none] at hb;simp only[hb]) (Qe Bf (by rw[hc];simp) (O5 _ _)))
    ·exact hn
   ·rw[h];exact TU _
  ·refine En hn fun z _ _=>?_
   show Rel (Bi (z&&Nat.blt d N&&(hp d).isNone&&_&&_&&_) _) (Bi (z&&Nat.blt d N&&(Cb d).isNone&&_&&_&&_) _);rw[←EV];exact Av hn fun hb=>hK _ _ _ (fun M=>FZ (by simp only[Bool.and_eq_true,Option.isNone_iff_eq_none] at hb;simp only[hb]) (O5 _ _))
 ·exact hn
theorem RE (hn:Rel none none){d:Option Tmp}{t tx:TypeId}{b x:PV}{K:St->Option R}{K':St->Option R'}{S:Nat->Prop}(hS:∀i,S i->hp i=Cb i∨(hp i=none∧∀b,Rel none b)) (hb:∀i∈B6 b,S i)(hx:∀i∈B6 x,S i)
  (hK:∀v Ck Ek,CC N S d hp Cb Ck Ek->Rel (K ⟨Bj tm d v,Ck⟩) (K' ⟨Bj tm' d v,Ek⟩)):Rel (DK P N ⟨tm,hp⟩ d t tx b x K) (DK P N ⟨tm',Cb⟩ d t tx b x K'):=by
 unfold DK;split
 ·refine Av hn fun _=>?_
  refine Uy hn hS hx fun m new=>?_
  split
  ·rename_i id es off n;show Rel (match hp id with|some (.ar false c)=>Bi (Nat.beq es _&&_&&_) _|_=>none) (match Cb id with|some (.ar false c)=>Bi (Nat.beq es _&&_&&_) _|_=>none)
   have Bf:S id:=hb id (by simp[B6,Am])
   rcases hS id Bf with h|⟨h,TU⟩
   ·rw[←h];split
    ·rename_i c hc;exact Av hn fun _=>hK _ _ _ (Qe Bf (by rw[hc];simp) (O5 _ _))
    ·exact hn
   ·rw[h];exact TU _
  ·exact hn
 ·exact hn
def Agv (o:Oper)(tm:Nat->PV)(i:Nat):Prop:=∃x∈o.op.operands.toList,i∈Bo (Bv tm x)
def R1 (o:Oper)(tm:Nat->PV)(hp:Nat->Option Bk)(i:Nat):Prop:=Agv o tm i∨Kt o.op=false∧∃id c,Agv o tm id∧hp id=some (.st c)∧∃p∈c,i∈Am p
theorem WQ (hn:Rel none none){mv:Bool}{t:CT}{p:PV}{K:PV->List Nat->List Nat->Option R}{K':PV->List Nat->List Nat->Option R'}{S:Nat->Prop}(hS:∀i,S i->hp i=Cb i∨(hp i=none∧∀b,Rel none b)) (hp_:∀i∈Am p,S i)
  (hK:∀c m x,(∀i∈m++x,hp i≠none∧S i)->Rel (K c m x) (K' c m x)):Rel (WM mv hp t p K) (WM mv Cb t p K'):=by
 have frz:∀{t:CT} {p:PV},(∀i∈Am p,S i)->Rel (K6 (Hm hp) t p fun c m=>K c m []) (K6 (Hm Cb) t p fun c m=>K' c m []):=fun h=>DT hn (GG hS h) fun c m hm=>hK _ _ _ fun i hi=>by
  rw[List.append_nil] at hi;exact⟨fun e=>(hm i hi).1 (Im e),h i (hm i hi).2⟩
 unfold WM;split
 ·rename_i es;cases mv<;>simp only[cond_true,cond_false]
  ·exact frz hp_
  ·split
   ·rename_i id es' off n;rcases hS id (hp_ id (by simp[Am])) with h|⟨h,hb⟩
    ·rw[←h];split
     ·rename_i c hc;cases (Nat.beq es' es&&Nat.beq off 0)<;>simp only[cond_true,cond_false]
      ·exact frz hp_
      ·exact Av hn fun _=>hK _ _ _ fun i hi=>by
        simp only[List.nil_append,List.mem_singleton] at hi;subst hi;exact⟨by rw[hc];simp,hp_ i (by simp[Am])⟩
     ·exact frz hp_
    ·rw[h]
     have:(K6 (Hm hp) (.sl es) (.view id es' off n) fun c m=>K c m [])=none:=by
      unfold K6;simp only;cases Nat.beq es' es
      ·rfl
      ·simp only[cond_true,Im h,Dk]
     show Rel (K6 (Hm hp) (.sl es) (.view id es' off n) fun c m=>K c m []) _
     rw[this];exact hb _
   ·refine En hn fun z n c=>?_
    cases z
    ·exact hK _ _ _ (by simp)
    ·exact hK _ _ _ (by simp)
 ·exact Lk hn fun _=>hK _ _ _ (by simp)
theorem M7 (hn:Rel none none){mv:Bool}{S:Nat->Prop}(hS:∀i,S i->hp i=Cb i∨(hp i=none∧∀b,Rel none b)):∀{ts:List CT}{ps:List PV}{K:List PV->List Nat->List Nat->Option R}{K':List PV->List Nat->List Nat->Option R'},(∀p∈ps,∀i∈Am p,S i) ->
  (∀c m x,(∀i∈m++x,hp i≠none∧S i)->Rel (K c m x) (K' c m x))->Rel (Vv mv hp ts ps K) (Vv mv Cb ts ps K')
 |[],[],_,_,_,hK=>hK _ _ _ (by simp)
 |[],_::_,_,_,_,_=>hn
 |_::_,[],_,_,_,_=>hn
 |_::_,p::ps,_,_,hp_,hK=>WQ hn hS (hp_ p (by simp)) fun _ m x hm=>M7 hn hS (fun q hq=>hp_ q (by simp[hq])) fun _ ms xs Zx=>hK _ _ _ fun i hi=>by
   simp only[List.mem_append] at hi hm Zx;rcases hi with (hi|hi)|(hi|hi)
   ·exact hm i (.inl hi)
   ·exact Zx i (.inl hi)
   ·exact hm i (.inr hi)
   ·exact Zx i (.inr hi)
theorem NB (hn:Rel none none){C:Ft}{f:FuncId}{i:Nat}{t:TypeId}{p:PV}{K:PV->List Nat->List Nat->List Fm->Option R}{K':PV->List Nat->List Nat->List Fm->Option R'}{S:Nat->Prop}(hS:∀i,S i->hp i=Cb i∨(hp i=none∧∀b,Rel none b))
  (hp_:∀i∈Bo p,S i)(hc:∀i∈Bo p,∀c,Cb i=some (.st c)->∀q∈c,∀k∈Am q,S k)
  (hK:∀v m x l,(∀i∈m++x++l.flatMap Fm.ids,hp i≠none∧S i)->Rel (K v m x l) (K' v m x l)):Rel (U0 C P f hp i t p K) (U0 C P f Cb i t p K'):=by
 unfold U0;split
 ·split
  ·rename_i id off;have Bf:S id:=hp_ id (by simp[Bo,B6,Am])
   rcases hS id Bf with h|⟨h,hb⟩
   ·rw[h];split
    ·rename_i c BD;refine Av hn fun _=>M7 hn hS (fun q hq k hk=>hc id (by simp[Bo,B6,Am]) c BD q (List.mem_of_mem_drop (List.mem_of_mem_take hq)) k hk) fun cs m x hm=>hK _ _ _ _ fun k hk=>?_
     rcases List.mem_append.1 hk with hk|hk
     ·exact hm k hk
     ·simp only[List.flatMap_cons,List.flatMap_nil,Fm.ids,List.append_nil,List.mem_singleton] at hk;subst hk;exact⟨by rw[h,BD];simp,Bf⟩
    ·exact hn
   ·rw[h];exact hb _
  ·exact hn
 ·cases C.lnd f i
  ·cases B1 P t
   ·exact M7 hn hS (fun q hq k hk=>by
     simp at hq;subst hq;exact hp_ k (H4 hk)) fun cs m x hm=>Be hn fun _ _ _=>Eh hn (hK _ _ _ _ (by simpa using hm))
   ·refine Hf hn fun cs Xx=>M7 hn hS (fun q hq k hk=>hp_ k ?_) fun cs m x hm=>hK _ _ _ _ (by simpa using hm)
    subst Xx;exact List.mem_flatMap.2 ⟨q,hq,hk⟩
  ·refine Ct hn fun e he=>?_
   unfold YX;split
   ·rename_i id es' off n;have Bf:S id:=hp_ id (by simp[Bo,B6,Am])
    rcases hS id Bf with h|⟨h,hb⟩
    ·rw[h];split
     ·rename_i c BD;refine Av hn fun _=>hK _ _ _ _ fun k hk=>?_
      simp only[List.nil_append,List.flatMap_cons,List.flatMap_nil,Fm.ids,List.append_nil,List.mem_singleton] at hk;subst hk;exact⟨by rw[h,BD];simp,Bf⟩
     ·exact hn
    ·rw[h];exact hb _
   ·exact En hn fun _ _ _=>Av hn fun _=>hK _ _ _ _ (by simp[Fm.ids])
theorem X9 (hn:Rel none none){C:Ft}{f:FuncId}{S:Nat->Prop}(hS:∀i,S i->hp i=Cb i∨(hp i=none∧∀b,Rel none b)):∀{ts:List TypeId}{ps:List PV}{i:Nat}{K:List PV->List Nat->List Nat->List Fm->Option R}{K':List PV->List Nat->List Nat->List Fm->Option R'},
  (∀p∈ps,∀i∈Bo p,S i)->(∀p∈ps,∀i∈Bo p,∀c,Cb i=some (.st c)->∀q∈c,∀k∈Am q,S k) ->
  (∀v m x l,(∀i∈m++x++l.flatMap Fm.ids,hp i≠none∧S i)->Rel (K v m x l) (K' v m x l))->Rel (DR C P f hp i ts ps K) (DR C P f Cb i ts ps K')
 |[],[],_,_,_,_,_,hK=>hK _ _ _ _ (by simp)
 |[],_::_,_,_,_,_,_,_=>hn
 |_::_,[],_,_,_,_,_,_=>hn
 |_::_,p::ps,_,_,_,hp_,hc,hK=>NB hn hS (hp_ p (by simp)) (hc p (by simp)) fun _ m x l hm=>X9 hn hS (fun q hq=>hp_ q (by simp[hq])) (fun q hq=>hc q (by simp[hq])) fun _ ms xs ls Zx=>hK _ _ _ _ fun i hi=>by
   simp only[List.mem_append,List.flatMap_append] at hi hm Zx;rcases hi with ((hi|hi)|(hi|hi))|(hi|hi)
   ·exact hm i (.inl (.inl hi))
   ·exact Zx i (.inl (.inl hi))
   ·exact hm i (.inl (.inr hi))
   ·exact Zx i (.inl (.inr hi))
   ·exact hm i (.inr hi)
   ·exact Zx i (.inr hi)
theorem Abj (hn:Rel none none){t:Nat}{ct:CT}{was p:PV}{K:Nat->PV->List (Nat × Bk)->Option R} {K':Nat->PV->List (Nat × Bk)->Option R'} (hK:∀t c b,(∀q∈b,∃k,q.1=NX N k)->Rel (K t c b) (K' t c b)):Rel (VR N t ct was p K) (VR N t ct was p K'):=by
 unfold VR;split
 ·split
  ·exact RZ hn fun _ _=>hK _ _ _ (by intro q hq;simp only[List.mem_singleton] at hq;subst hq;exact⟨t,rfl⟩)
  ·exact En hn fun _ _ _=>hK _ _ _ (by simp)
 ·exact Lk hn fun _=>hK _ _ _ (by simp)
theorem EG (hn:Rel none none):∀{cts:List CT}{ws ps:List PV}{t:Nat}{K:Nat->List PV->List (Nat × Bk)->Option R} {K':Nat->List PV->List (Nat × Bk)->Option R'},(∀t c b,(∀q∈b,∃k,q.1=NX N k)->Rel (K t c b) (K' t c b))->Rel (ES N t cts ws ps K) (ES N t cts ws ps K')
 |[],[],_,_,_,_,hK=>Eh hn (hK _ _ _ (by simp))
 |[],_::_,_,_,_,_,_=>hn
 |_::_,[],_,_,_,_,_=>hn
 |_::_,_::_,_,_,_,_,hK=>Be hn fun _ _ _=>Abj hn fun _ _ b hb=>EG hn fun _ _ bs CZ=>hK _ _ _ fun q hq=>by
   rcases List.mem_append.1 hq with h|h
   ·exact hb q h
   ·exact CZ q h
theorem Qc (hn:Rel none none){S:Nat->Prop}{dst:Option Nat}:∀{l:List Fm}{ro:List (List PV)} {t:Nat}{h0 h1:Nat->Option Bk}{K:(Nat->Option Bk)->List (Nat × Bk)->Option R} {K':(Nat->Option Bk)->List (Nat × Bk)->Option R'},
  CC N S dst hp Cb h0 h1->(∀i∈l.flatMap Fm.ids,hp i≠none∧S i∧hp i=Cb i)->(∀h0' HR b,CC N S dst hp Cb h0' HR->(∀q∈b,∃k,q.1=NX N k)->Rel (K h0' b) (K' HR b))->Rel (Ru N t l ro h0 K) (Ru N t l ro h1 K')
 |[],_,_,_,_,_,_,hT,_,hK=>Eh hn (hK _ _ _ hT (by simp))
 |.var id off cts ws::l,ro,t,h0,h1,K,K',hT,hl,hK=>by
  unfold Ru;refine Be hn fun cs ro _=>EG hn fun t' cs' bs CZ=>?_
  have Bf:=hl id (by simp[Fm.ids])
  rw[←hT.same id Bf.2.2];split
  ·exact Qc hn (Qe Bf.2.1 Bf.1 hT) (fun i hi=>hl i (by simp only[List.flatMap_cons,List.mem_append];exact .inr hi)) fun h0' HR b hT' hb=>hK _ _ _ hT' fun q hq=>by
    rcases List.mem_append.1 hq with h|h
    ·exact CZ q h
    ·exact hb q h
  ·exact hn
 |.row id::l,ro,t,h0,h1,K,K',hT,hl,hK=>by
  unfold Ru;have Bf:=hl id (by simp[Fm.ids])
  exact Be hn fun cs ro _=>Qc hn (Qe Bf.2.1 Bf.1 hT) (fun i hi=>hl i (by simp only[List.flatMap_cons,List.mem_append];exact .inr hi)) hK
 |.none::l,ro,t,h0,h1,K,K',hT,hl,hK=>by
  unfold Ru;exact Be hn fun cs ro _=>Qc hn hT (fun i hi=>hl i (by simp only[List.flatMap_cons,List.mem_append];exact .inr hi)) hK
theorem NP (h:∀i,N<=i->hp i=Cb i)(hN:0<N):∀k t,MB N hp k t=MB N Cb k t
 |0,_=>rfl
 |k+1,t=>by
  unfold MB;rw[h (NX N t) (by unfold NX;exact Nat.le_mul_of_pos_right _ (by omega)),NP h hN k (t+1)]
theorem FT {h0 h1:Nat->Option Bk}:∀{nw:List (Nat × Bk)},(∀q∈nw,h0 q.1=h1 q.1)->Bn h0 nw=Bn h1 nw
 |[],_=>rfl
 |(i,b)::nw,h=>by
  unfold Bn;rw[h (i,b) (by simp),FT (fun q hq=>h q (by simp[hq]))]
theorem Ze {S:Nat->Prop}{dst:Option Nat}{h0 h1:Nat->Option Bk}(hT:CC N S dst hp Cb h0 h1):∀{nw:List (Nat × Bk)} {g0 g1:Nat->Option Bk},CC N S dst hp Cb g0 g1->(∀q∈nw,N<=q.1∨dst=some q.1)->(∀q∈nw,hp q.1=none)->CC N S dst hp Cb (An g0 nw) (An g1 nw)
 |[],_,_,h,_,_=>h
 |(i,b)::nw,g0,g1,h,hi,hz=>by
  refine Ze hT (nw:=nw) ⟨fun k hk=>?_,fun k hN hd hk=>?_,fun k hk=>?_,fun k hn hk=>?_⟩ (fun q hq=>hi q (by simp[hq])) (fun q hq=>hz q (by simp[hq]))
  ·by_cases e:k=i
   ·subst e;rw[Al];simp
   ·rw[Ai _ _ e];exact h.keep k hk
  ·have e:k≠i:=by
    rintro rfl
    rcases hi (k,b) (by simp) with q|q
    ·simp only at q;omega
    ·exact hd q
   rw[Ai _ _ e,Ai _ _ e];exact h.off k hN hd hk
  ·by_cases e:k=i
   ·subst e;rw[Al,Al]
   ·rw[Ai _ _ e,Ai _ _ e];exact h.same k hk
  ·rw[Ai _ _ (by rintro rfl;exact hk (hz (k,b) (by simp)))];exact h.far k hn hk
theorem Aiz {S:Nat->Prop}{dst:Option Nat}{m x:List Nat}(hm:∀i∈m++x,hp i≠none∧S i):CC N S dst hp Cb (Oz (Af hp m) x) (Oz (Af Cb m) x):=by
 refine⟨fun i hi h=>?_,fun i hN hd hi=>?_,fun i hi=>?_,fun i hn hi=>?_⟩
 ·rw[E0] at h;have h1:Af hp m i≠none:=fun e=>hi (Dl.1 e)
  split at h
  ·cases hq:Af hp m i with
   |none=>exact h1 hq
   |some b=>rw[hq] at h;cases h
  ·exact h1 h
 ·have e:i ∉ m∧i ∉ x:=by
   refine⟨fun h=>?_,fun h=>?_⟩<;>(rcases hi with hi|hi)
   ·exact hi (hm i (by simp[h])).2
   ·exact (hm i (by simp[h])).1 hi
   ·exact hi (hm i (by simp[h])).2
   ·exact (hm i (by simp[h])).1 hi
  rw[E0,E0,if_neg e.2,if_neg e.2,Bq,Bq,if_neg e.1,if_neg e.1];exact⟨rfl,rfl⟩
 ·rw[E0,E0,Bq,Bq,hi]
 ·rw[E0,Bq,if_neg (fun h=>hn (hm i (by simp[h])).2),if_neg (fun h=>hn (hm i (by simp[h])).2)]
theorem JU (hn:Rel none none){C:Ft}{call:Ax}{f:FuncId}{c:Call}{K:St->Option R}{K':St->Option R'}{S:Nat->Prop}(Hp:c.args.toList.map (Bv tm)=c.args.toList.map (Bv tm')) (hS:∀i,S i->hp i=Cb i∨(hp i=none∧∀b,Rel none b))
  (hp_:∀p∈c.args.toList.map (Bv tm'),∀i∈Bo p,S i) (hc:∀p∈c.args.toList.map (Bv tm'),∀i∈Bo p,∀c,Cb i=some (.st c)->∀q∈c,∀k∈Am q,S k)
  (EV:∀d,o.dst=some d->hp d=Cb d)(hNN:∀i,N<=i->hp i=Cb i)
  (hK:∀v Ck Ek,CC N S o.dst hp Cb Ck Ek->Rel (K ⟨Bj tm o.dst v,Ck⟩) (K' ⟨Bj tm' o.dst v,Ek⟩)):Rel (Vk C P N call ⟨tm,hp⟩ o f c K) (Vk C P N call ⟨tm',Cb⟩ o f c K'):=by
 unfold Vk;simp only[Hp];refine X9 hn hS hp_ hc fun vs m x l hm=>Av hn fun hb=>FN hn fun rv ro=>Up hn fun ws bs CZ=>Av hn fun _=>?_
 simp only[Bool.and_eq_true] at hb;have hN:0<N:=Nat.lt_of_succ_le (Nat.le_of_ble_eq_true hb.1.2);rw[NP hNN hN];by_cases XA:∃i∈l.flatMap Fm.ids,hp i≠Cb i
 ·obtain⟨i,hi,Ee⟩:=XA;obtain⟨h1,h2⟩:=hm i (List.mem_append.2 (.inr hi));rcases hS i h2 with h|⟨h,_⟩
  ·exact absurd h Ee
  ·exact absurd h h1
 have hl:∀i∈l.flatMap Fm.ids,hp i≠none∧S i∧hp i=Cb i:=fun i hi=>⟨(hm i (List.mem_append.2 (.inr hi))).1,(hm i (List.mem_append.2 (.inr hi))).2,Classical.byContradiction fun h=>XA ⟨i,hi,h⟩⟩
 have hT0:CC N S o.dst hp Cb (Oz (Af hp m) x) (Oz (Af Cb m) x):=Aiz fun i hi=>hm i (List.mem_append.2 (.inl hi))
 refine Qc hn hT0 hl fun h0 h1 bs' hT A1b=>?_
 have WG:∀q∈bs++bs',N<=q.1∨o.dst=some q.1:=by
  intro q hq;rcases List.mem_append.1 hq with hq|hq
  ·obtain⟨j,hj⟩:=CZ q hq;cases hd:o.dst with
   |none=>
    rw[hd] at hj;left;rw[hj];exact Nat.le_add_right _ _
   |some d=>
    rw[hd] at hj;change q.1=d+N*j at hj;cases j with
    |zero=>right;rw[hj];simp
    |succ j=>left;rw[hj,Nat.mul_add];omega
  ·obtain⟨k,hk⟩:=A1b q hq;left;rw[hk];unfold NX;exact Nat.le_mul_of_pos_right _ (by omega)
 have V8:∀q∈bs++bs',h0 q.1=h1 q.1:=by
  intro q hq;refine hT.same q.1 ?_;rcases WG q hq with h|h
  ·exact hNN _ h
  ·exact EV _ h
 rw[FT V8]
 exact Av hn fun hb=>hK _ _ _ (Ze hT hT WG fun q hq=>by
  cases hz:hp q.1 with
  |none=>rfl
  |some c=>exact absurd ((V8 q hq).trans ((Bg hb).1 q.1 q.2 hq)) (hT.keep q.1 (by rw[hz];simp)))
theorem H2 (hn:Rel none none){C:Ft}{call:Ax}{K:St->Option R}{K':St->Option R'}(Hp:∀x∈o.op.operands.toList,Bv tm x=Bv tm' x)
  (hS:∀i,R1 o tm' Cb i->hp i=Cb i∨(hp i=none∧∀b,Rel none b)) (EV:∀d,o.dst=some d->hp d=Cb d)(hNN:∀i,N<=i->hp i=Cb i)
  (hK:∀v Ck Ek,CC N (R1 o tm' Cb) o.dst hp Cb Ck Ek->Rel (K ⟨Bj tm o.dst v,Ck⟩) (K' ⟨Bj tm' o.dst v,Ek⟩)):Rel (Ql C P N call ⟨tm,hp⟩ o K) (Ql C P N call ⟨tm',Cb⟩ o K'):=by
 unfold Ql;have hl:∀x∈o.op.operands.toList,∀i∈Bo (Bv tm' x),R1 o tm' Cb i:=fun x hx i hi=>.inl ⟨x,hx,hi⟩
 have On:Kt o.op=false->∀x∈o.op.operands.toList,∀i∈Bo (Bv tm' x),∀c,Cb i=some (.st c)->∀q∈c,∀k∈Am q,R1 o tm' Cb k:=fun ha x hx i hi c hc q hq k hk=>.inr ⟨ha,i,c,⟨x,hx,hi⟩,hc,q,hq,hk⟩
 generalize hLd:R1 o tm' Cb=S at *
 generalize hop:o.op=op at *
 split
 ·rename_i t x y;simp only[Hp x (by simp[Op.operands]),Hp y (by simp[Op.operands])]
  refine Av hn fun hd=>NO (N:=N) hn hS (fun i hi=>hl x (by simp[Op.operands]) i (H4 hi)) (fun i hi=>hl y (by simp[Op.operands]) i (Ew hi)) fun Ck Ek hh=>?_
  have hd':=Option.isNone_iff_eq_none.1 hd;have:=hK .top Ck Ek (by rw[hd'];exact hh)
  rw[hd'] at this;exact this
 ·rename_i c
  have H7:∀x∈c.args.toList,x∈(Op.call c).operands.toList:=by
   intro x hx;simp only[Op.operands,Call.operands,Array.toList_append,List.mem_append];exact .inr hx
  split
  ·rename_i hc;refine Ct hn fun d hd=>Be hn fun x _ hx=>Be hn fun y _ hy=>Eh hn (Be hn fun _ _ _=>Be hn fun _ _ _=>?_)
   subst hy;have UP:=H7 x (by rw[hx];simp)
   have hym:=H7 y (by rw[hx];simp)
   simp only[Hp x UP,Hp y hym];refine S8 hn hS (EV d hd) (fun i hi=>hl x UP i (Ew hi)) (fun i hi=>hl y hym i (Ew hi)) fun v Ck Ek hh=>?_
   have:=hK v Ck Ek (by rw[hd];exact hh N)
   rw[hd] at this;exact this
  ·rename_i hc;refine Be hn fun x _ hx=>Be hn fun y _ hy=>Eh hn (Be hn fun _ _ _=>Be hn fun _ _ _=>?_)
   subst hy;have UP:=H7 x (by rw[hx];simp)
   have hym:=H7 y (by rw[hx];simp)
   simp only[Hp x UP,Hp y hym];exact RE hn hS (fun i hi=>hl x UP i (Ew hi)) (fun i hi=>hl y hym i (Ew hi)) hK
  ·rename_i f hcf;refine JU hn (List.map_congr_left fun x hx=>Hp x (H7 x hx)) hS (fun p hp i hi=>?_) (fun p hp i hi=>?_) EV hNN hK
   ·obtain⟨x,hx,rfl⟩:=List.mem_map.1 hp;exact hl x (H7 x hx) i hi
   ·obtain⟨x,hx,rfl⟩:=List.mem_map.1 hp;exact On (by simp only[Kt,hcf]) x (H7 x hx) i hi
  ·exact hn
 ·exact hn
theorem Z9 (hn:Rel none none){C:Ft}{call:Ax}{K:St->Option R}{K':St->Option R'}(Hp:∀x∈o.op.operands.toList,Bv tm x=Bv tm' x)(hK:∀v Ck,(∀i,hp i≠none->Ck i≠none)->Rel (K ⟨Bj tm o.dst v,Ck⟩) (K' ⟨Bj tm' o.dst v,Ck⟩)):Rel (Ql C P N call ⟨tm,hp⟩ o K) (Ql C P N call ⟨tm',hp⟩ o K'):=
 H2 hn Hp (fun _ _=>.inl rfl) (fun _ _=>rfl) (fun _ _=>rfl) fun v Ck Ek hT=>by
  have:Ck=Ek:=funext fun i=>hT.same i rfl
  subst this;exact hK v Ck hT.keep
end
section
variable {R:Type} {r:R} {C:Ft} {P:Program} {N:Nat} {call:Ax} {ops:Array Oper} {o x:Oper} {s:St} {K:St->Option R}
theorem HP {tm:Nat->PV}{hp Ck:Nat->Option Bk}{tm':Nat->PV}{q:Po}(hm:Gb P o.op=false)(ht:∀t∈looks ops o,tm t=tm' t)(h:gE C P N call ops o ⟨tm,hp⟩=some q):gE C P N call ops o ⟨tm',Ck⟩=some q:=
 Sf (s:=⟨tm,hp⟩) (s':=⟨tm',Ck⟩) ht (fun h=>by rw[hm] at h;cases h) h
theorem Vm {tm:Nat->PV}{hp:Nat->Option Bk}(hm:Gb P o.op=false)(h:C8 C P N call ops o ⟨tm,hp⟩ K=some r):
  ∃v nw,gE C P N call ops o ⟨tm,hp⟩=some (v,[],nw)∧Fc N o.dst=true∧Bn hp nw=true∧(∀p∈nw,o.dst=some p.1)∧K ⟨Bj tm o.dst v,An hp nw⟩=some r:=by
 have hM:M6 C P o.op=false:=by
  cases hh:M6 C P o.op
  ·rfl
  ·rw[Sj hh] at hm;cases hm
 rw[H3 (by simp[Fn,hM])] at h
 cases e:gE C P N call ops o ⟨tm,hp⟩ with
 |none=>rw[e] at h;cases h
 |some q=>
  obtain⟨v,fz,nw⟩:=q;obtain⟨h1,h2⟩:=(Ph e).1 hm;simp only at h1 h2;subst h1;rw[e] at h;obtain⟨hb,h⟩:=Aj h;simp only[Bool.and_eq_true] at hb;exact⟨v,nw,rfl,hb.1,hb.2,h2,h⟩
theorem Zy {tm:Nat->PV}{hp:Nat->Option Bk}{v:PV}{nw:List (Nat × Bk)} (hm:Gb P o.op=false)(e:gE C P N call ops o ⟨tm,hp⟩=some (v,[],nw)) (hd:Fc N o.dst=true)(ha:Bn hp nw=true)(h:K ⟨Bj tm o.dst v,An hp nw⟩=some r):C8 C P N call ops o ⟨tm,hp⟩ K=some r:=by
 have hM:M6 C P o.op=false:=by
  cases hh:M6 C P o.op
  ·rfl
  ·rw[Sj hh] at hm;cases hm
 rw[H3 (by simp[Fn,hM]),e]
 show Bi _ _=_;have YD:Bn hp nw=true:=ha;rw[hd,YD];exact h
theorem Jt {hp:Nat->Option Bk}{nw:List (Nat × Bk)} (ha:Bn hp nw=true){i:Nat}(hi:∀p∈nw,p.1≠i):An hp nw i=hp i:=
 (Du (Bg ha).2).2 i fun b hb=>hi _ hb rfl
theorem Abx {hp Ck:Nat->Option Bk}{nw:List (Nat × Bk)} (ha:Bn hp nw=true){g:Nat->Option Bk}(h1:∀i,(∀p∈nw,p.1≠i)->g i=Ck i) (h2:∀i,(∃p∈nw,p.1=i)->g i=An hp nw i) (YD:Bn Ck nw=true):g=An Ck nw:=by
 funext i
 by_cases h:∃p∈nw,p.1=i
 ·rw[h2 i h];obtain⟨⟨j,b⟩,hp,rfl⟩:=h;rw[(Du (Bg ha).2).1 j b hp,(Du (Bg YD).2).1 j b hp]
 ·have h':∀p∈nw,p.1≠i:=fun p hp e=>h ⟨p,hp,e⟩
  rw[h1 i h',Jt YD h']
theorem Ad0 (ap:S2 C P ops x o)(hx:Fn C P ops x s.tm=true)
  (h:C8 C P N call ops x s (fun s1=>C8 C P N call ops o s1 K)=some r):C8 C P N call ops o s (fun s1=>C8 C P N call ops x s1 K)=some r:=by
 have hm:Gb P o.op=false:=ap.mx (by unfold Fn at hx;simp only[Bool.and_eq_true] at hx;exact hx.1)
 rw[Gy hx] at h;obtain⟨tm,hp⟩:=s;have look:∀v,∀t∈looks ops o,Bj tm x.dst v t=tm t:=fun v=>D4 ap.xo
 have h1:=H2 (P:=P) (N:=N) (o:=x) (tm:=tm) (tm':=tm) (hp:=hp) (Cb:=hp) (K:=fun s1=>C8 C P N call ops o s1 K) (K':=fun _=>none)
  (Rel:=fun (a:Option R)(_:Option R)=>a=some r->∃v nw,gE C P N call ops o ⟨tm,hp⟩=some (v,[],nw)∧Fc N o.dst=true∧(∀p∈nw,o.dst=some p.1)∧Bn hp nw=true) (fun h=>by cases h) (fun _ _=>rfl) (fun _ _=>.inl rfl) (fun _ _=>rfl) (fun _ _=>rfl) (fun v Ck _ hT h=>by
   obtain⟨u,nw,hu,hd,ha,hn,_⟩:=Vm hm h;refine⟨u,nw,HP hm (look v) hu,hd,hn,Mh ha fun i b hi=>?_⟩
   cases hh:hp i with
   |none=>rfl
   |some c=>exact absurd ((Bg ha).1 i b hi) (hT.keep i (by rw[hh];simp))) h
 obtain⟨v,nw,hv,hd,hn,ha⟩:=h1;refine Zy hm hv hd ha ?_;have t2:∀t∈looks ops x,tm t=Bj tm o.dst v t:=fun t ht=>(D4 ap.ox t ht).symm
 rw[Gy (by rw[←F9 t2];exact hx)]
 refine H2 (P:=P) (N:=N) (o:=x) (tm:=tm) (tm':=Bj tm o.dst v) (hp:=hp) (Cb:=An hp nw) (Rel:=fun (a b:Option R)=>a=some r->b=some r) (fun h=>by cases h) (Em t2) (fun i _=>?_) (fun d hxd=>?_) (fun i hi=>(Jt ha fun p hp e=>by have:=M1 hd (hn p hp);omega).symm) (fun u Ck Ek hT h=>?_) h
 ·by_cases hi:∃p∈nw,p.1=i
  ·obtain⟨⟨j,b⟩,Cb,rfl⟩:=hi;exact .inr ⟨(Bg ha).1 j b Cb,fun _ h=>by cases h⟩
  ·exact .inl (Jt ha fun p hp e=>hi ⟨p,hp,e⟩).symm
 ·refine (Jt ha fun p hp e=>?_).symm
  have:=hn p hp;rw[e] at this;exact ap.ne d hxd this
 ·obtain⟨v',nw',Lj,_,YD,_,h'⟩:=Vm hm h;have he:=HP (Ck:=hp) hm (look u) Lj;rw[hv] at he;simp only[Option.some.injEq,Prod.mk.injEq,true_and] at he;obtain⟨rfl,rfl⟩:=he
  have hh:Ek=An Ck nw:=by
   refine Abx ha (fun i hi=>?_) (fun i hi=>?_) YD
   ·exact (hT.same i (Jt ha hi).symm).symm
   ·obtain⟨⟨j,b⟩,Cb,rfl⟩:=hi;refine (hT.off j (M1 hd (hn _ Cb)) (fun e=>ap.ne j e (hn _ Cb)) (.inr ((Bg ha).1 j b Cb))).2
  rw[hh,←Ia ap.ne];exact h'
theorem Ads (hw:OE C P o s)(ap:S2 C P ops x o)(ho:Fn C P ops o s.tm=true)
  (h:C8 C P N call ops x s (fun s1=>C8 C P N call ops o s1 K)=some r):C8 C P N call ops o s (fun s1=>C8 C P N call ops x s1 K)=some r:=by
 have hm:Gb P x.op=false:=ap.mo (by unfold Fn at ho;simp only[Bool.and_eq_true] at ho;exact ho.1)
 obtain⟨tm,hp⟩:=s;obtain⟨v,nw,hv,hd,ha,hn,h1⟩:=Vm hm h;have t1:∀t∈looks ops o,Bj tm x.dst v t=tm t:=D4 ap.xo;change C8 C P N call ops o ⟨Bj tm x.dst v,An hp nw⟩ K=some r at h1;rw[Gy (by rw[F9 t1];exact ho)] at h1
 rw[Gy ho];have hMo:M6 C P o.op=true:=by unfold Fn at ho;simp only[Bool.and_eq_true] at ho;exact ho.1
 have Aht:∀i,R1 o tm hp i->hp i≠none:=by
  rintro i (⟨y,hy,hi⟩|⟨Pk,id,c,⟨y,hy,hi⟩,hc,p,Cb,hk⟩)
  ·exact hw.1 y hy i hi
  ·exact hw.2 hMo Pk y hy id hi c hc p Cb i hk
 refine H2 (P:=P) (N:=N) (o:=o) (tm:=Bj tm x.dst v) (tm':=tm) (hp:=An hp nw) (Cb:=hp) (Rel:=fun (a b:Option R)=>a=some r->b=some r) (fun h=>by cases h) (Em t1) (fun i hi=>?_) (fun d hod=>?_) (fun i hi=>Jt ha fun p hp e=>by have:=M1 hd (hn p hp);omega) (fun u Ck Ek hT h=>?_) h1
 ·refine .inl (Jt ha fun p Ck e=>Aht i hi ?_)
  rw[←e];exact (Bg ha).1 p.1 p.2 Ck
 ·refine Jt ha fun p Ck e=>?_
  have:=hn p Ck;rw[e] at this;exact ap.ne d this hod
 ·have Ls:∀p∈nw,Ck p.1=An hp nw p.1∧Ek p.1=none:=by
   intro p hp2;have FW:=(Bg ha).1 p.1 p.2 hp2;have h3:=hT.off p.1 (M1 hd (hn p hp2)) (fun e=>ap.ne p.1 (hn p hp2) e) (.inl fun hL=>Aht _ hL FW)
   exact⟨h3.1,h3.2.trans FW⟩
  have YD:Bn Ek nw=true:=Mh ha fun i b hi=>(Ls (i,b) hi).2
  refine Zy hm (HP hm (fun t ht=>(D4 ap.ox t ht).symm) hv) hd YD ?_
  have hh:Ck=An Ek nw:=by
   refine Abx ha (fun i hi=>?_) (fun i hi=>?_) YD
   ·exact hT.same i (Jt ha hi)
   ·obtain⟨p,hp2,rfl⟩:=hi;exact (Ls p hp2).1
  rw[←Ia ap.ne,←hh];exact h
theorem Ap8 (hw:OE C P o s)(ap:S2 C P ops x o)
  (h:C8 C P N call ops x s (fun s1=>C8 C P N call ops o s1 K)=some r):C8 C P N call ops o s (fun s1=>C8 C P N call ops x s1 K)=some r:=by
 cases hx:Fn C P ops x s.tm
 ·cases ho:Fn C P ops o s.tm
  ·exact TA hw ap.xo ap.ne ap.ox hx ho h
  ·exact Ads hw ap ho h
 ·exact Ad0 ap hx h
theorem Ib (h:Ou P o.op=true):M6 C P o.op=false:=by
 unfold Ou at h;split at h
 ·rename_i ho;rw[ho];rfl
 ·rename_i ho;rw[ho];rfl
 ·cases h
def CH (P:Program)(ops:Array Oper)(o:Oper)(tm:Nat->PV):Prop:=Ou P o.op=true∨Fw ops o tm=some false
theorem Rs {tm tm':Nat->PV}(h:∀t∈looks ops o,tm t=tm' t)(hl:CH P ops o tm):CH P ops o tm':=by
 rcases hl with hl|hl
 ·exact .inl hl
 ·exact .inr (by rw[←Ig h];exact hl)
theorem FE {tm:Nat->PV}(hl:CH P ops o tm):Fn C P ops o tm=false:=by
 rcases hl with hl|hl
 ·simp[Fn,Ib hl]
 ·simp[Fn,hl]
theorem SD {q:Po}(hl:CH P ops o s.tm)(h:gE C P N call ops o s=some q):q.2.1=[]∧q.2.2=[]:=by
 unfold gE at h;split at h
 ·cases h
 ·rename_i hv
  have hl:Ou P o.op=true:=by
   rcases hl with hl|hl
   ·exact hl
   ·rw[hv] at hl;cases hl
  rw[Ib hl] at h;have h:WW C P N call o s=some q:=h;unfold Ou at hl;split at hl
  ·rename_i t a ho;unfold WW X7 at h;rw[ho] at h
   have:=FP (nz:=C.nz N) (P:=P) (f:=rd s.hp) (f':=rd s.hp) (g:=Hm s.hp) (g':=Hm s.hp) (t:=t) (x:=Bv s.tm a) (Rel:=fun (a b:Option Po)=>∀q,a=some q->q.2.1=[]∧q.2.2=[])
    (K:=fun v=>some (v,[],[])) (K':=fun v=>some (v,[],[])) (fun _ h=>by cases h) (fun _ _=>.inl ⟨rfl,rfl⟩) (fun v q hq=>by cases hq;exact⟨rfl,rfl⟩)
   exact this q h
  ·rename_i src dst y ho;unfold WW X7 at h;rw[ho] at h;simp only at h;unfold Zz at h;split at hl
   ·rename_i hd;rw[hd] at h;simp only at h;split at h
    ·obtain⟨_,_,h⟩:=C5 h;obtain⟨_,_,h⟩:=B3 h;cases h;exact⟨rfl,rfl⟩
    ·split at h
     ·exact Mg (f:=Hm s.hp) (f':=Hm s.hp) (K':=fun _ _=>(none:Option Po)) (Rel:=fun (a _:Option Po)=>a=some q->q.2.1=[]∧q.2.2=[]) (fun h=>by cases h) (fun _ _=>.inl rfl) (fun n c h=>by
       obtain⟨_,h⟩:=Aj h;obtain⟨_,_,h⟩:=B3 h;obtain⟨_,_,h⟩:=B3 h;cases h;exact⟨rfl,rfl⟩) h
     ·exact Mg (f:=Hm s.hp) (f':=Hm s.hp) (K':=fun _ _=>(none:Option Po)) (Rel:=fun (a _:Option Po)=>a=some q->q.2.1=[]∧q.2.2=[]) (fun h=>by cases h) (fun _ _=>.inl rfl) (fun n c h=>by
       obtain⟨_,h⟩:=Aj h;obtain⟨_,_,h⟩:=B3 h;obtain⟨_,_,h⟩:=B3 h;cases h;exact⟨rfl,rfl⟩) h
     ·cases h
    ·cases h
   ·cases hl
  ·cases hl
 ·cases h;exact⟨rfl,rfl⟩
theorem XB {tm tm':Nat->PV}{hp:Nat->Option Bk}(h:∀t∈looks ops o,tm t=tm' t){i:Nat}(hi:R1 o tm hp i):R1 o tm' hp i:=by
 have he:=Em (ops:=ops) (o:=o) h;rcases hi with⟨y,hy,hi⟩|⟨Pk,id,c,⟨y,hy,hi⟩,hc,q⟩
 ·exact .inl ⟨y,hy,by rw[←he y hy];exact hi⟩
 ·exact .inr ⟨Pk,id,c,⟨y,hy,by rw[←he y hy];exact hi⟩,hc,q⟩
theorem Ag0 {hp Ck:Nat->Option Bk}{i:Nat}(h:Ck i=hp i):rd Ck i=rd hp i∧Hm Ck i=Hm hp i:=by
 unfold rd Hm;rw[h];exact⟨rfl,rfl⟩
theorem U7 {tm:Nat->PV}{hp:Nat->Option Bk}(hl:CH P ops o tm)(h:C8 C P N call ops o ⟨tm,hp⟩ K=some r):
  ∃v,gE C P N call ops o ⟨tm,hp⟩=some (v,[],[])∧Fc N o.dst=true∧K ⟨Bj tm o.dst v,hp⟩=some r:=by
 rw[H3 (FE hl)] at h;cases e:gE C P N call ops o ⟨tm,hp⟩ with
 |none=>rw[e] at h;cases h
 |some q=>
  obtain⟨v,fz,nw⟩:=q;obtain⟨h1,h2⟩:=SD hl e;simp only at h1 h2;subst h1;subst h2;rw[e] at h;obtain⟨hb,h⟩:=Aj h;simp only[Bool.and_eq_true] at hb;exact⟨v,rfl,hb.1,h⟩
theorem X4 {tm:Nat->PV}{hp:Nat->Option Bk}{v:PV}(hl:CH P ops o tm)(e:gE C P N call ops o ⟨tm,hp⟩=some (v,[],[])) (hd:Fc N o.dst=true)(h:K ⟨Bj tm o.dst v,hp⟩=some r):C8 C P N call ops o ⟨tm,hp⟩ K=some r:=by
 rw[H3 (FE hl),e];show Bi _ _=_;have ha:Bn hp []=true:=rfl;simp only[hd,ha,Bool.and_self];exact h
theorem Adr (hw:OE C P o s)(xo:∀d,x.dst=some d->d ∉ looks ops o)(ne:∀d,x.dst=some d->o.dst≠some d)(ox:∀d,o.dst=some d->d ∉ looks ops x)(hl:CH P ops o s.tm)
  (JZ:∀y∈o.op.operands.toList,∀i∈Bo (Bv s.tm y),¬R1 x s.tm s.hp i) (hx:Fn C P ops x s.tm=true)
  (h:C8 C P N call ops x s (fun s1=>C8 C P N call ops o s1 K)=some r):C8 C P N call ops o s (fun s1=>C8 C P N call ops x s1 K)=some r:=by
 rw[Gy hx] at h;obtain⟨tm,hp⟩:=s;have look:∀v,∀t∈looks ops o,Bj tm x.dst v t=tm t:=fun v=>D4 xo
 have back:∀{u:PV} {Ck:Nat->Option Bk} {q:Po},(∀y∈o.op.operands.toList,∀i∈Bo (Bv tm y),Ck i=hp i)->gE C P N call ops o ⟨Bj tm x.dst u,Ck⟩=some q->gE C P N call ops o ⟨tm,hp⟩=some q:=
  fun hh e=>Sf (s:=⟨Bj tm x.dst _,_⟩) (s':=⟨tm,hp⟩) (look _) (fun _ y hy i hi=>.inl (Ag0 (hh y hy i hi))) e
 have h1:=H2 (P:=P) (N:=N) (o:=x) (tm:=tm) (tm':=tm) (hp:=hp) (Cb:=hp) (K:=fun s1=>C8 C P N call ops o s1 K) (K':=fun _=>none)
  (Rel:=fun (a:Option R)(_:Option R)=>a=some r->∃v,gE C P N call ops o ⟨tm,hp⟩=some (v,[],[])∧Fc N o.dst=true) (fun h=>by cases h) (fun _ _=>rfl) (fun _ _=>.inl rfl) (fun _ _=>rfl) (fun _ _=>rfl) (fun v Ck _ hT h=>by
   obtain⟨u,hu,hd,_⟩:=U7 (Rs (fun t ht=>(look v t ht).symm) hl) h
   exact⟨u,back (fun y hy i hi=>hT.far i (JZ y hy i hi) (hw.1 y hy i hi)) hu,hd⟩) h
 obtain⟨v,hv,hd⟩:=h1;refine X4 hl hv hd ?_;have t2:∀t∈looks ops x,tm t=Bj tm o.dst v t:=fun t ht=>(D4 ox t ht).symm
 rw[Gy (by rw[←F9 t2];exact hx)]
 refine H2 (P:=P) (N:=N) (o:=x) (tm:=tm) (tm':=Bj tm o.dst v) (hp:=hp) (Cb:=hp) (Rel:=fun (a b:Option R)=>a=some r->b=some r) (fun h=>by cases h) (Em t2) (fun _ _=>.inl rfl) (fun _ _=>rfl) (fun _ _=>rfl) (fun u Ck Ek hT h=>?_) h
 have e1:Ck=Ek:=funext fun i=>hT.same i rfl
 subst e1;obtain⟨v',Lj,_,h'⟩:=U7 (Rs (fun t ht=>(look u t ht).symm) hl) h
 have he:=back (fun y hy i hi=>hT.far i (fun hR=>JZ y hy i hi (XB (fun t ht=>(t2 t ht).symm) hR)) (hw.1 y hy i hi)) Lj
 rw[hv] at he;simp only[Option.some.injEq,Prod.mk.injEq,and_true] at he;subst he;rw[←Ia ne];exact h'
theorem Afq (xo:∀d,x.dst=some d->d ∉ looks ops o)(ne:∀d,x.dst=some d->o.dst≠some d)(ox:∀d,o.dst=some d->d ∉ looks ops x)(hl:CH P ops x s.tm)
  (JZ:∀y∈x.op.operands.toList,∀i∈Bo (Bv s.tm y),¬R1 o s.tm s.hp i) (ho:Fn C P ops o s.tm=true)
  (h:C8 C P N call ops x s (fun s1=>C8 C P N call ops o s1 K)=some r):C8 C P N call ops o s (fun s1=>C8 C P N call ops x s1 K)=some r:=by
 obtain⟨tm,hp⟩:=s;obtain⟨v,hv,hd,h1⟩:=U7 hl h;have t1:∀t∈looks ops o,Bj tm x.dst v t=tm t:=D4 xo;rw[Gy (by rw[F9 t1];exact ho)] at h1
 rw[Gy ho];refine H2 (P:=P) (N:=N) (o:=o) (tm:=Bj tm x.dst v) (tm':=tm) (hp:=hp) (Cb:=hp) (Rel:=fun (a b:Option R)=>a=some r->b=some r) (fun h=>by cases h) (Em t1) (fun _ _=>.inl rfl) (fun _ _=>rfl) (fun _ _=>rfl) (fun u Ck Ek hT h=>?_) h1
 have e1:Ck=Ek:=funext fun i=>hT.same i rfl
 subst e1;have t2:∀t∈looks ops x,tm t=Bj tm o.dst u t:=fun t ht=>(D4 ox t ht).symm
 refine X4 (Rs t2 hl) (Sf (s:=⟨tm,hp⟩) (s':=⟨Bj tm o.dst u,Ck⟩) t2 (fun _ y hy i hi=>?_) hv) hd ?_
 ·have hi:i∈Bo (Bv tm y):=by rw[Em t2 y hy];exact hi
  by_cases hn:hp i=none
  ·exact .inr ⟨SX hn,Im hn⟩
  ·obtain⟨h3,h4⟩:=Ag0 (hT.far i (JZ y hy i hi) hn);exact .inl ⟨h3.symm,h4.symm⟩
 ·rw[←Ia ne];exact h
def EA (P:Program)(x:Oper)(s s1:St):Prop:=(∀t,x.dst≠some t->s1.tm t=s.tm t)∧(∀i,s.hp i≠none->s1.hp i≠none)∧(Gb P x.op=false->∀i,s.hp i≠none->s1.hp i=s.hp i)
theorem Ll {tm:Nat->PV}{d:Option Tmp}{v:PV}{t:Nat}(h:d≠some t):Bj tm d v t=tm t:=by
 cases d with
 |none=>rfl
 |some d=>exact Ai _ _ (by rintro rfl;exact h rfl)
theorem Xz {K':St->Option R}(h:C8 C P N call ops x s K=some r)(hK:∀s1,EA P x s s1->K s1=some r->K' s1=some r):C8 C P N call ops x s K'=some r:=by
 cases hx:Fn C P ops x s.tm
 ·rw[H3 hx] at h ⊢;cases ex:gE C P N call ops x s with
  |none=>rw[ex] at h;cases h
  |some q=>
   rw[ex] at h;obtain⟨hb,h1⟩:=Aj h;simp only[Bool.and_eq_true] at hb;show Bi _ _=_;rw[hb.1,hb.2];refine hK _ ⟨fun t ht=>Ll ht,fun i hi=>Kv hb.2 hi,fun hm i hi=>?_⟩ h1
   show An (Af s.hp q.2.1) q.2.2 i=s.hp i;rw[E2 hb.2 hi,((Ph ex).1 hm).1];simp
 ·rw[Gy hx] at h ⊢
  exact Z9 (P:=P) (N:=N) (o:=x) (tm:=s.tm) (tm':=s.tm) (hp:=s.hp) (Rel:=fun (a b:Option R)=>a=some r->b=some r) (fun h=>by cases h) (fun _ _=>rfl) (fun v Ck hh h=>hK _ ⟨fun t ht=>Ll ht,hh,fun hm=>by
   have hM:M6 C P x.op=true:=by unfold Fn at hx;simp only[Bool.and_eq_true] at hx;exact hx.1
   rw[Sj hM] at hm;cases hm⟩ h) h
theorem OE.keeps {s1:St}(h:OE C P o s)(ap:S2 C P ops x o)(hk:EA P x s s1):OE C P o s1:=by
 have hop:∀y∈o.op.operands.toList,Bv s1.tm y=Bv s.tm y:=fun y hy=>Em (ops:=ops) (o:=o) (fun t ht=>hk.1 t fun hd=>ap.xo t hd ht) y hy
 refine⟨fun y hy i hi=>?_,fun hM hA y hy i hi c hc p hp k hkk=>?_⟩
 ·rw[hop y hy] at hi;exact hk.2.1 i (h.1 y hy i hi)
 ·rw[hop y hy] at hi;have hi0:=h.1 y hy i hi;rw[hk.2.2 (ap.mo hM) i hi0] at hc;exact hk.2.1 k (h.2 hM hA y hy i hi c hc p hp k hkk)
theorem Yr:∀(l:List Oper){s:St}{K:St->Option R},OE C P o s->(∀x∈l,S2 C P ops x o)->Kf C P N call ops l s (fun s1=>C8 C P N call ops o s1 K)=some r->C8 C P N call ops o s (fun s1=>Kf C P N call ops l s1 K)=some r
 |[],_,_,_,_,h=>h
 |x::l,s,K,hw,ap,h=>by
  refine Ap8 hw (ap x (by simp)) ?_
  refine Xz (K:=fun s1=>Kf C P N call ops l s1 (fun s2=>C8 C P N call ops o s2 K)) h fun s1 hk h1=>?_
  exact Yr l (hw.keeps (ap x (by simp)) hk) (fun y hy=>ap y (List.mem_cons_of_mem _ hy)) h1
theorem Pr:∀(l l':List Oper){s:St}{K:St->Option R},Kf C P N call ops (l++l') s K=Kf C P N call ops l s (fun s1=>Kf C P N call ops l' s1 K)
 |[],_,_,_=>rfl
 |x::l,l',s,K=>by
  show C8 C P N call ops x s (fun s1=>Kf C P N call ops (l++l') s1 K)=C8 C P N call ops x s (fun s1=>Kf C P N call ops l s1 _)
  congr 1
  funext s1
  exact Pr l l'
theorem WC {l l':List Oper}(hw:OE C P o s)(ap:∀x∈l,S2 C P ops x o)(h:Kf C P N call ops (l++o::l') s K=some r):C8 C P N call ops o s (fun s1=>Kf C P N call ops (l++l') s1 K)=some r:=by
 rw[Pr] at h;have:=Yr l hw ap h;refine Xz this fun s1 _ h1=>?_
 rw[Pr];exact h1
end
open Go.RowKit
section
variable {R:Type} {r:R} {P:Program} {N:Nat} {w0:World} {X0:Gm} {Y:Nat->Prop} {β β':Bt} {s:St} {a:Act} {w w':World} {o:Oper} {ops:Array Oper} {C:Ft} {call:Ax} {K:St->Option R}
theorem Zc (h:Ci N w0 X0 Y β s a w){j d:Nat}(hd:(ops[j]?).bind (·.dst)=some d) {v:Value}(ht:s.tm d=.sc v):yielded ops a.tmps j=match v with | .bool b=>some b|_=>none:=by
 have B4:d<N:=by
  rcases Nat.lt_or_ge d N with h'|h'
  ·exact h'
  ·rw[h.tmo d h'] at ht;cases ht
 have hv:=h.tms d B4;rw[ht] at hv;have hv:=Vg hv;have ZC:d<a.tmps.size:=by rw[h.tsz];exact B4
 have he:a.tmps[d]?=some v:=by
  rw[Array.getElem?_eq_getElem ZC];simp[ZC] at hv;rw[hv]
 unfold yielded;rw[hd];simp only[Option.bind_some,he];cases v<;>rfl
theorem R4 (h:Ci N w0 X0 Y β s a w){G:R0}(Ie:KH P G w0 X0)(Df:∀f args res,call f args=some res->Cy G P f args res){i:Nat}(hi:ops[i]?=some o) (hk:C8 C P N call ops o s K=some r):
  ∃s',K s'=some r∧∀(next:Act->World->Prop) (Q:Exit->Act->World->Prop),(∀a' w' β',Ci N w0 X0 Y β' s' a' w'->next a' w')->wpOp P ops Q i next a w:=by
 rw[JE] at hk
 have hw:∀b,Fw ops o s.tm=some b->Region.wanted o (yielded ops a.tmps)=b:=by
  intro b hb;unfold Fw at hb;unfold Region.wanted;cases hg:o.guard with
  |none=>rw[hg] at hb;simpa using hb
  |some q=>
   obtain⟨j,want⟩:=q;rw[hg] at hb;simp only at hb ⊢;cases hd:(ops[j]?).bind (·.dst) with
   |none=>rw[hd] at hb;cases hb
   |some d=>
    rw[hd] at hb;simp only at hb;split at hb
    ·rename_i b' ht;rw[Zc h hd ht];simp at hb;rw[←hb];cases b'<;>cases want<;>rfl
    ·rename_i ht;rw[Zc h hd ht];simp at hb;rw[hb];rfl
    ·cases hb
 split at hk
 ·cases hk
 ·rename_i hv;obtain⟨s',hs',hn⟩:=PW h Ie Df hk;refine⟨s',hs',fun next Q Aav=>?_⟩
  unfold wpOp;rw[hi];simp only[hw _ hv,if_true];exact .inl (hn next Q Aav)
 ·rename_i hv;obtain⟨hd,hk⟩:=Aj hk;refine⟨_,hk,fun next Q Aav=>?_⟩
  unfold wpOp;rw[hi];simp only[hw _ hv];refine Aav _ _ β (h.put hd (Ar.sc _) (by simp[Bo,B6,Am]))
theorem Ci.known (h:Ci N w0 X0 Y β s a w){d:Nat}(hd:s.tm d=.ub):∃b,Ci N w0 X0 Y β ⟨Ch s.tm d (.sc (.bool b)),s.hp⟩ a w:=by
 have B4:d<N:=by
  rcases Nat.lt_or_ge d N with h'|h'
  ·exact h'
  ·rw[h.tmo d h'] at hd;cases hd
 have hu:=h.tms d B4;rw[hd] at hu;have Hc:Ar w (Cs s.hp β Y) .ub (a.tmps.getD d undef):=hu
 obtain⟨b,hv⟩:∃b,a.tmps.getD d undef=.bool b:=by
  generalize a.tmps.getD d undef=x at Hc;cases Hc with
  |ub b=>exact⟨b,rfl⟩
 refine⟨b,⟨h.dfr,h.tsz,fun i hi=>?_,fun i hi=>?_,h.box,h.inj,h.blt,fun i hi=>?_,h.wfB,h.ownd,h.rngB,h.pin,h.stp,h.Yx,h.Ylt,h.fr⟩⟩
 ·show Ch s.tm d _ i=_;rw[Ai _ _ (by omega)]
  exact h.tmo i hi
 ·by_cases e:i=d
  ·subst e;show Dx _ _ _ (Ch s.tm i _ i) _;rw[Al,hv];exact Ar.sc _
  ·show Dx _ _ _ (Ch s.tm d _ i) _;rw[Ai _ _ e];exact h.tms i hi
 ·by_cases e:i=d
  ·subst e;show ∀id∈Bo (Ch s.tm i _ i),_;rw[Al];simp[Bo,B6,Am]
  ·show ∀id∈Bo (Ch s.tm d _ i),_;rw[Ai _ _ e];exact h.wfT i hi
theorem FG {x y:Option R}(h:FI x y=some r):x=some r∧y=some r:=by
 unfold FI at h;split at h
 ·rename_i e;exact⟨h,e ▸ h⟩
 ·cases h
theorem IU (h:Ci N w0 X0 Y β s a w){F:St->Option R}(hk:OT ops o s F=some r):∃s',F s'=some r∧Ci N w0 X0 Y β s' a w:=by
 unfold OT at hk;split at hk
 ·exact⟨s,hk,h⟩
 ·split at hk
  ·exact⟨s,hk,h⟩
  ·split at hk
   ·rename_i d _ ht;obtain⟨b,hb⟩:=h.known ht;obtain⟨h1,h2⟩:=FG hk;cases b
    ·exact⟨_,h2,hb⟩
    ·exact⟨_,h1,hb⟩
   ·exact⟨s,hk,h⟩
theorem S0 {G:R0}(Ie:KH P G w0 X0)(Df:∀f args res,call f args=some res->Cy G P f args res){Q:Exit->Act->World->Prop}(hQ:∀s' a' w' β',K s'=some r->Ci N w0 X0 Y β' s' a' w'->Q .normal a' w'):
  ∀(l:List Nat) (os:List Oper),l.length=os.length->(∀(k i:Nat),l[k]?=some i->ops[i]?=os[k]?)->∀{s:St} {a:Act} {w:World} {β:Bt},Ci N w0 X0 Y β s a w->HX C P N call ops os s K=some r->wpOps P ops Q l a w
 |[],[],_,_,s,a,w,β,h,hk=>by
  show Q .normal a w;exact hQ s a w β hk h
 |[],_::_,hl,_,_,_,_,_,_,_=>by cases hl
 |_::_,[],hl,_,_,_,_,_,_,_=>by cases hl
 |i::l,o::os,hl,hi,s,a,w,β,h,hk=>by
  rw[wpOps_cons];obtain⟨s1,hk,h⟩:=IU h hk;obtain⟨s',hs',hn⟩:=R4 h Ie Df (by simpa using hi 0 i rfl) hk
  exact hn _ _ fun a' w' β' h'=>S0 Ie Df hQ l os (by simpa using hl) (fun k j hj=>by simpa using hi (k+1) j (by simpa using hj)) h' hs'
theorem Ci.drew (h:Ci N w0 X0 Y β s a w):Ci N w0 X0 Y β s a { w with drawn:=w.drawn+1 }:=by
 have:=h.stepR (d:=none) (v:=.top) (nw:=[]) (val:=undef) (w':={ w with drawn:=w.drawn+1 }) (β':=β) rfl rfl
  ⟨rfl,rfl,rfl,⟨Nat.le_refl _,fun _ _ _=>rfl,fun _ _=>Fz.refl _ _⟩,fun _ _=>rfl,by simp,by simp,by simp,by simp,by simp,.top _,by simp[Bo,B6,Am]⟩
 exact this
theorem GN (h:Ci N w0 X0 Y β s a w){G:R0}(Ie:KH P G w0 X0)(Df:∀f args res,call f args=some res->Cy G P f args res){id:Nat}{Q:Exit->Act->World->Prop}
  (hk:HX C P N call ops ops.toList s K=some r)(hQ:∀s' a' w' β',K s'=some r->Ci N w0 X0 Y β' s' a' w'->Q .normal a' w'):(Code.region id ops false).wp P Q a w:=by
 refine wp_region (S0 Ie Df hQ (List.range ops.size) ops.toList (by simp) (fun k i hi=>?_) h hk)
 rw[List.getElem?_range] at hi
 ·simp at hi;subst hi;simp
 ·rcases Nat.lt_or_ge k ops.size with h'|h'
  ·exact h'
  ·rw[List.getElem?_eq_none (by simpa using h')] at hi;cases hi
def Jz (n:Nat)(listed:Array Bool):List Nat:=(List.range n).filter fun i=> !listed.getD i true
def Anh (ops:Array Oper)(listed:Array Bool)(o:Oper):Prop:=∀e∈o.after,Region.binds .any e=true->listed.getD e.on false=true
theorem testBit_or {a b j:Nat}:(a ||| b).testBit j=(a.testBit j||b.testBit j):=Nat.testBit_or a b j
theorem DD {acc:List Nat}{j:Nat}:∀(es:List Edge)(v:Nat),(es.foldl (fun s e=>bif Region.binds .any e then s ||| 2 ^ e.on ||| acc.getD e.on 0 else s) v).testBit j=true ->
  v.testBit j=true∨∃e∈es,Region.binds .any e=true∧(j=e.on∨(acc.getD e.on 0).testBit j=true)
 |[],v,h=>.inl h
 |e::es,v,h=>by
  rcases DD es _ h with h|⟨e',he',h⟩
  ·cases hb:Region.binds .any e<;>simp only[hb] at h
   ·exact .inl h
   ·simp only[cond_true,Nat.testBit_or,Bool.or_eq_true] at h;rcases h with (h|h)|h
    ·exact .inl h
    ·refine .inr ⟨e,by simp,hb,.inl ?_⟩
     rw[Nat.testBit_two_pow] at h;exact (of_decide_eq_true h).symm
    ·exact .inr ⟨e,by simp,hb,.inr h⟩
  ·exact .inr ⟨e',by simp[he'],h⟩
theorem Ng {listed:Array Bool}(hc:∀(j:Nat) oj,ops[j]?=some oj->listed.getD j false=true->Anh ops listed oj):
  ∀(rest done:List Oper) (acc:List Nat),ops.toList=done++rest->acc.length=done.length ->
   (∀(k:Nat) o,done[k]?=some o->Anh ops listed o->∀j,(acc.getD k 0).testBit j=true->listed.getD j false=true) ->
   ∀(k:Nat) o,ops[k]?=some o->Anh ops listed o->∀j,((Gx rest acc).getD k 0).testBit j=true->listed.getD j false=true
 |[],done,acc,he,_,h,k,o,ho,hf,j,hj=>by
  refine h k o ?_ hf j hj;rw[List.append_nil] at he;rw[←he]
  simpa using ho
 |o'::rest,done,acc,he,hl,h,k,o,ho,hf,j,hj=>by
  refine Ng hc rest (done++[o']) _ (by rw[he];simp) (by simp[hl]) ?_ k o ho hf j hj
  intro k o ho hf j hj;rcases Nat.lt_trichotomy k done.length with B4|heq|hgt
  ·rw[List.getElem?_append_left B4] at ho;rw[List.getD_eq_getElem?_getD,List.getElem?_append_left (by omega),←List.getD_eq_getElem?_getD] at hj
   exact h k o ho hf j hj
  ·subst heq;simp at ho;subst ho;rw[←hl] at hj;simp only[List.getD_eq_getElem?_getD,List.getElem?_append_right (Nat.le_refl _),Nat.sub_self,List.getElem?_cons_zero,Option.getD_some] at hj
   have hj:(o'.after.toList.foldl (fun s e=>bif Region.binds .any e then s ||| 2 ^ e.on ||| acc.getD e.on 0 else s) 0).testBit j=true:=by
    simpa only[List.getD_eq_getElem?_getD] using hj
   rcases DD _ _ hj with h0|⟨e,hm,hb,h1⟩
   ·simp at h0
   ·have AC:=hf e (by simpa using hm) hb
    rcases h1 with h1|h1
    ·rw[h1];exact AC
    ·cases hd:done[e.on]? with
     |none=>
      have:acc.getD e.on 0=0:=by
       rw[List.getD_eq_getElem?_getD,List.getElem?_eq_none (by rw[hl];exact List.getElem?_eq_none_iff.1 hd)]
       rfl
      rw[this] at h1;simp at h1
     |some oe=>
      have hoe:ops[e.on]?=some oe:=by
       rw[←Array.getElem?_toList,he,List.getElem?_append_left (by
        rcases Nat.lt_or_ge e.on done.length with h'|h'
        ·exact h'
        ·rw[List.getElem?_eq_none h'] at hd;cases hd)]
       exact hd
      exact h e.on oe hd (hc e.on oe hoe AC) j h1
  ·rw[List.getElem?_eq_none (by simp;omega)] at ho
   cases ho
theorem Tu {bs:List Nat}:∀(l:List Oper)(n:Nat),Xq C P ops bs l n=true->∀(k:Nat) o,l[k]?=some o->∀(j:Nat) x,ops[j]?=some x->j<n+k->Zv C P ops x o=true->(bs.getD (n+k) 0).testBit j=true
 |[],_,_,k,o,ho,_,_,_,_,_=>by simp at ho
 |o'::l,n,h,k,o,ho,j,x,hx,hj,J4=>by
  simp only[Xq,Bool.and_eq_true] at h;cases k with
  |zero=>
   simp at ho;subst ho
   have:=List.all_eq_true.1 h.1 (x,j) (by
    rw[List.mem_zipIdx_iff_getElem?]
    simpa using hx)
   simp only[J4,Bool.not_true,Bool.or_false,Bool.or_eq_true,Bool.not_eq_true'] at this;rcases this with h'|h'
   ·have:Nat.blt j n=true:=Nat.ble_eq_true_of_le (by omega)
    rw[this] at h';cases h'
   ·exact h'
  |succ k=>
   have:=Tu l (n+1) h.2 k o (by simpa using ho) j x hx (by omega) J4
   rwa [show n+(k+1)=n+1+k by omega]
theorem Hi {n i:Nat}{listed:Array Bool}:i∈Jz n listed↔i<n∧listed.getD i true=false:=by
 unfold Jz;simp[List.mem_filter]
theorem Rt {n i:Nat}{listed:Array Bool}(hi:i∈Jz n listed)(K1:listed.size=n):∃l1 l2,Jz n listed=l1++i::l2∧Jz n (listed.setIfInBounds i true)=l1++l2∧∀j∈l1,j<i:=by
 obtain⟨B4,Hr⟩:=Hi.1 hi
 have hr:List.range n=List.range i++i::(List.range (n-i-1)).map (i+1 + ·):=by
  conv=>lhs;rw[show n=i+(1+(n-i-1)) by omega]
  rw[List.range_add,List.range_add];simp[Nat.add_assoc]
 refine⟨(List.range i).filter fun i=> !listed.getD i true,((List.range (n-i-1)).map (i+1 + ·)).filter fun i=> !listed.getD i true,?_,?_,fun j hj=>?_⟩
 ·unfold Jz;rw[hr,List.filter_append,List.filter_cons_of_pos (by rw[Hr];rfl)]
 ·unfold Jz;rw[hr,List.filter_append,List.filter_cons_of_neg (by simp[K1,B4])]
  congr 1
  ·refine List.filter_congr fun j hj=>?_
   rw[getD_set_ne true (by have:=List.mem_range.1 hj;omega)]
  ·refine List.filter_congr fun j hj=>?_
   obtain⟨k,_,rfl⟩:=List.mem_map.1 hj;rw[getD_set_ne true (by omega)]
 ·exact List.mem_range.1 (List.mem_filter.1 hj).1
theorem Ace (h:Ci N w0 X0 Y β s a w)(o:Oper):OE C P o s:=by
 refine⟨fun y _ i hi=>Ef h y i hi,fun _ _ y _ i hi c hc p hp k hk=>h.wfB i c hc p hp k hk⟩
theorem FR (Aaw:(ops.toList.zipIdx.all fun q=>q.1.after.toList.all fun e=> !Region.binds .any e||Nat.blt e.on q.2)=true) {listed:Array Bool}(inv:HeadInv .any ops ops.size listed)(hr:Region.ready .any ops listed=[]):Jz ops.size listed=[]:=by
 cases hp:Jz ops.size listed with
 |nil=>rfl
 |cons i l=>
  exfalso;have hi:i∈Jz ops.size listed:=by rw[hp];simp
  obtain⟨B4,Hr⟩:=Hi.1 hi;obtain⟨l1,l2,h1,_,h3⟩:=Rt hi inv.size
  have AC:l1=[]:=by
   cases l1 with
   |nil=>rfl
   |cons j l1=>
    rw[hp] at h1;simp at h1;have:=h3 j (by simp)
    omega
  subst AC
  have A11:∀j,j<i->listed.getD j false=true:=by
   intro j hj;cases hh:listed.getD j false with
   |true=>rfl
   |false=>
    have:j∈Jz ops.size listed:=Hi.2 ⟨by omega,getD_in (by rw[inv.size];omega) hh⟩
    have hs:(Jz ops.size listed).Pairwise (· < ·):=List.Pairwise.filter _ List.pairwise_lt_range
    rw[h1] at this hs;simp at this;rcases this with e|e
    ·omega
    ·have:=(List.pairwise_cons.1 hs).1 j e;omega
  have:i∈Region.ready .any ops listed:=by
   refine mem_ready.2 ⟨Hr,ops[i],Array.getElem?_eq_getElem B4,fun e he hb=>A11 _ ?_⟩
   have:=List.all_eq_true.1 Aaw (ops[i],i) (by
    rw[List.mem_zipIdx_iff_getElem?];simp[B4])
   have:=List.all_eq_true.1 this e (Array.mem_toList_iff.2 he);simp only[hb,Bool.not_true,Bool.false_or] at this;exact Nat.lt_of_succ_le (Nat.le_of_ble_eq_true this)
  rw[hr] at this;simp at this
theorem GT {G:R0}(Ie:KH P G w0 X0)(Df:∀f args res,call f args=some res->Cy G P f args res)(hok:DO C P ops=true){Q:Exit->Act->World->Prop}(hQ:∀s' a' w' β',K s'=some r->Ci N w0 X0 Y β' s' a' w'->Q .normal a' w'):
  ∀(fuel:Nat) {listed:Array Bool} {s:St} {a:Act} {w:World} {β:Bt},HeadInv .any ops ops.size listed->(Jz ops.size listed).length=fuel->Ci N w0 X0 Y β s a w->Kf C P N call ops ((Jz ops.size listed).filterMap (ops[·]?)) s K=some r->wpAny P .any ops Q fuel listed a w:=by
 unfold DO at hok;simp only[Bool.and_eq_true] at hok;obtain⟨Aaw,Ama⟩:=hok;intro fuel
 induction fuel with
 |zero=>
  intro listed s a w β inv hf h hk;have hp:=List.eq_nil_of_length_eq_zero hf;rw[hp] at hk;refine⟨?_,hQ s a w β hk h⟩;cases hr:Region.ready .any ops listed with
  |nil=>rfl
  |cons i l=>
   exfalso;have hi:i∈Region.ready .any ops listed:=by rw[hr];simp
   obtain⟨Hr,o,ho,_⟩:=mem_ready.1 hi;have:i∈Jz ops.size listed:=Hi.2 ⟨(Array.getElem?_eq_some_iff.1 ho).1,Hr⟩;rw[hp] at this;simp at this
 |succ fuel ih=>
  intro listed s a w β inv hf h hk;refine⟨fun hr=>?_,fun i hi=>?_⟩
  ·rw[FR Aaw inv hr] at hf;cases hf
  ·obtain⟨Hr,o,ho,K7⟩:=mem_ready.1 hi;have B4:i<ops.size:=(Array.getElem?_eq_some_iff.1 ho).1;obtain⟨l1,l2,h1,h2,h3⟩:=Rt (Hi.2 ⟨B4,Hr⟩) inv.size;rw[h1,List.filterMap_append,List.filterMap_cons_some ho] at hk
   have Pk:∀x∈l1.filterMap (ops[·]?),S2 C P ops x o:=by
    intro x hx;obtain⟨j,hj,hxj⟩:=List.mem_filterMap.1 hx;refine Acc ?_;cases J4:Zv C P ops x o with
    |false=>rfl
    |true=>
     exfalso;have CO:=Tu ops.toList 0 Ama i o (by simpa using ho) j x hxj (by have:=h3 j hj;omega) J4
     rw[Nat.zero_add] at CO;have hjl:=Ng (listed:=listed) (fun j oj hj hl=>inv.closed j oj hj hl) ops.toList [] [] (by simp) rfl (by simp) i o ho K7 j CO
     have:j∈Jz ops.size listed:=by rw[h1];simp[hj]
     have:=getD_both (Hi.1 this).2;rw[hjl] at this;cases this
   obtain⟨s',hs',hn⟩:=R4 h Ie Df ho (WC (Ace h o) Pk hk);refine hn _ _ fun a' w' β' h'=>ih (inv.set hi B4) ?_ h' ?_
   ·rw[h2];rw[h1] at hf;simp at hf ⊢;omega
   ·rw[h2,List.filterMap_append];exact hs'
theorem U5 (h:Ci N w0 X0 Y β s a w){G:R0}(Ie:KH P G w0 X0)(Df:∀f args res,call f args=some res->Cy G P f args res)(hm:P.follows .mixedOrders=true)(hok:DO C P ops=true){Q:Exit->Act->World->Prop}
  (hk:Kf C P N call ops ops.toList s K=some r)(hQ:∀s' a' w' β',K s'=some r->Ci N w0 X0 Y β' s' a' w'->Q .normal a' w'):wpAny P .any ops Q ops.size (Array.replicate ops.size false) a { w with drawn:=w.drawn+1 }:=by
 have hp:Jz ops.size (Array.replicate ops.size false)=List.range ops.size:=by
  unfold Jz;refine List.filter_eq_self.2 fun i hi=>?_
  have:=List.mem_range.1 hi;simp[this]
 refine GT (C:=C) Ie Df hok hQ ops.size ⟨by simp,fun j oj _ hl=>(by rw[getD_replicate_false] at hl;cases hl),fun t ht ht'=>by omega⟩ (by rw[hp];simp) h.drew ?_
 rw[hp]
 have:(List.range ops.size).filterMap (ops[·]?)=ops.toList:=by
  refine List.ext_getElem? fun k=>?_
  have:∀(n:Nat),n<=ops.size->(List.range n).filterMap (ops[·]?)=ops.toList.take n:=by
   intro n
   induction n with
   |zero=>intro _;rfl
   |succ n ih=>
    intro hn;rw[List.range_succ,List.filterMap_append,ih (by omega),List.take_add_one]
    congr 1
    have:ops[n]?=some ops[n]:=Array.getElem?_eq_getElem (by omega)
    simp[this]
  rw[this ops.size (Nat.le_refl _)]
  congr 1
  exact List.take_of_length_le (by simp)
 rw[this];exact hk
theorem HH (h:Ci N w0 X0 Y β s a w){G:R0}(Ie:KH P G w0 X0)(Df:∀f args res,call f args=some res->Cy G P f args res)(hm:P.follows .mixedOrders=true)(hok:DO C P ops=true){id:Nat}{Q:Exit->Act->World->Prop}
  (hk:Kf C P N call ops ops.toList s K=some r)(hQ:∀s' a' w' β',K s'=some r->Ci N w0 X0 Y β' s' a' w'->Q .normal a' w'):(Code.region id ops true).wp P Q a w:=
 wp_region_any hm (U5 h Ie Df hm hok hk hQ)
end
end
section
open Go.RowKit
section
variable {R R':Type} {Rel:Option R->Option R'->Prop} {P:Program} {N:Nat} {tm tm':Nat->PV} {hp Cb:Nat->Option Bk} {o:Oper}
theorem VD (hn:Rel none none){C:Ft}{call:Ax}{K:St->Option R}{K':St->Option R'}(Pk:Kt o.op=true)(Hp:∀x∈o.op.operands.toList,Bv tm x=Bv tm' x)
  (hS:∀i,R1 o tm' Cb i->hp i=Cb i∨(hp i=none∧∀b,Rel none b)) (EV:∀d,o.dst=some d->hp d=Cb d)
  (hK:∀v Ck Ek,(∀M,CC M (R1 o tm' Cb) o.dst hp Cb Ck Ek)->Rel (K ⟨Bj tm o.dst v,Ck⟩) (K' ⟨Bj tm' o.dst v,Ek⟩)):Rel (Ql C P N call ⟨tm,hp⟩ o K) (Ql C P N call ⟨tm',Cb⟩ o K'):=by
 unfold Ql;have hl:∀x∈o.op.operands.toList,∀i∈Bo (Bv tm' x),R1 o tm' Cb i:=fun x hx i hi=>.inl ⟨x,hx,hi⟩
 generalize hLd:R1 o tm' Cb=S at *
 generalize hop:o.op=op at *
 unfold Kt at Pk;split at Pk
 ·rename_i c
  have H7:∀x∈c.args.toList,x∈(Op.call c).operands.toList:=by
   intro x hx;simp only[Op.operands,Call.operands,Array.toList_append,List.mem_append];exact .inr hx
  split at Pk
  ·rename_i hc;simp only[hc];refine Ct hn fun d hd=>Be hn fun x _ hx=>Be hn fun y _ hy=>Eh hn (Be hn fun _ _ _=>Be hn fun _ _ _=>?_)
   subst hy;have UP:=H7 x (by rw[hx];simp)
   have hym:=H7 y (by rw[hx];simp)
   simp only[Hp x UP,Hp y hym];refine S8 hn hS (EV d hd) (fun i hi=>hl x UP i (Ew hi)) (fun i hi=>hl y hym i (Ew hi)) fun v Ck Ek hh=>?_
   have:=hK v Ck Ek (by rw[hd];exact hh)
   rw[hd] at this;exact this
  ·cases Pk
 ·cases Pk
theorem My {C:Ft}{call:Ax}(Pk:Kt o.op=true)(Hp:∀x∈o.op.operands.toList,Bv tm x=Bv tm' x)(hS:∀i,R1 o tm' Cb i->hp i=Cb i)(EV:∀d,o.dst=some d->hp d=Cb d){s1:St}
  (h:Ql C P N call ⟨tm,hp⟩ o some=some s1):∃v Ck Ek,s1=⟨Bj tm o.dst v,Ck⟩∧Ql C P N call ⟨tm',Cb⟩ o some=some ⟨Bj tm' o.dst v,Ek⟩∧∀M,CC M (R1 o tm' Cb) o.dst hp Cb Ck Ek:=by
 have:=VD (P:=P) (N:=N) (C:=C) (call:=call) (o:=o) (tm:=tm) (tm':=tm') (hp:=hp) (Cb:=Cb) (K:=some) (K':=some)
  (Rel:=fun (a b:Option St)=>∀s1,a=some s1->∃v Ck Ek,s1=⟨Bj tm o.dst v,Ck⟩∧b=some ⟨Bj tm' o.dst v,Ek⟩∧∀M,CC M (R1 o tm' Cb) o.dst hp Cb Ck Ek) (fun _ h=>by cases h) Pk Hp (fun i hi=>.inl (hS i hi)) EV
  (fun v Ck Ek hT s1 h=>by cases h;exact⟨v,Ck,Ek,rfl,rfl,hT⟩)
 exact this s1 h
end
section
variable {R R':Type} {r:R} {r':R'} {C:Ft} {P:Program} {N:Nat} {call:Ax} {ops:Array Oper} {o x:Oper} {s s1 s2:St} {K:St->Option R}
theorem Ox {tm:Nat->PV}(h:Fn C P ops o tm=true):M6 C P o.op=true:=by
 unfold Fn at h;simp only[Bool.and_eq_true] at h;exact h.1
theorem JC (h:Kt o.op=true):M6 C P o.op=true:=by
 unfold Kt at h;split at h
 ·rename_i c hc;rw[hc];split at h
  ·rename_i hcc;simp only[M6,hcc];exact h
  ·cases h
 ·cases h
theorem Ku (h:C8 C P N call ops x s K=some r):∃s1,C8 C P N call ops x s some=some s1∧EA P x s s1∧(Ou P x.op=true->s1.hp=s.hp)∧K s1=some r:=by
 cases hx:Fn C P ops x s.tm
 ·rw[H3 hx] at h ⊢;cases ex:gE C P N call ops x s with
  |none=>rw[ex] at h;cases h
  |some q=>
   rw[ex] at h;obtain⟨hb,h1⟩:=Aj h;simp only[Bool.and_eq_true] at hb;refine⟨_,?_,⟨fun t ht=>Ll ht,fun i hi=>Kv hb.2 hi,fun hm i hi=>?_⟩,fun hl=>?_,h1⟩
   ·show Bi _ _=_;rw[hb.1,hb.2];rfl
   ·show An (Af s.hp q.2.1) q.2.2 i=s.hp i;rw[E2 hb.2 hi,((Ph ex).1 hm).1];simp
   ·show An (Af s.hp q.2.1) q.2.2=s.hp;obtain⟨h1,h2⟩:=SD (.inl hl) ex;rw[h1,h2]
    funext i
    show Af s.hp [] i=_;rw[Bq];simp
 ·rw[Gy hx] at h ⊢
  exact Z9 (P:=P) (N:=N) (o:=x) (tm:=s.tm) (tm':=s.tm) (hp:=s.hp) (K':=some) (Rel:=fun (a:Option R) (b:Option St)=>a=some r->∃s1,b=some s1∧EA P x s s1∧(Ou P x.op=true->s1.hp=s.hp)∧K s1=some r) (fun h=>by cases h) (fun _ _=>rfl) (fun v Ck hh h=>⟨_,rfl,⟨fun t ht=>Ll ht,hh,fun hm=>(by
   rw[Sj (Ox hx)] at hm;cases hm)⟩,fun hl=>(by
   have:=Ox hx;rw[Ib hl] at this;cases this),h⟩) h
theorem Qd {K':St->Option R'}(h:C8 C P N call ops x s some=some s1)(hk:K' s1=some r'):C8 C P N call ops x s K'=some r':=by
 cases hx:Fn C P ops x s.tm
 ·rw[H3 hx] at h ⊢;cases ex:gE C P N call ops x s with
  |none=>rw[ex] at h;cases h
  |some q=>
   rw[ex] at h;obtain⟨hb,h1⟩:=Aj h;show Bi _ _=_;rw[hb];cases h1;exact hk
 ·rw[Gy hx] at h ⊢;exact Z9 (P:=P) (N:=N) (o:=x) (tm:=s.tm) (tm':=s.tm) (hp:=s.hp) (K:=some) (Rel:=fun (a:Option St) (b:Option R')=>a=some s1->b=some r') (fun h=>by cases h) (fun _ _=>rfl) (fun v Ck hh h=>by cases h;exact hk) h
theorem GV {d:Nat}{t tx:TypeId}{b y:PV}(h:Lb P N s d t tx b y K=some r):s.hp d=none:=by
 unfold Lb at h;split at h
 ·obtain⟨_,h⟩:=Aj h;cases hI:Sn P tx
  ·rw[hI,cond_false] at h;refine Uy (P:=P) (tm:=s.tm) (tm':=s.tm) (hp:=s.hp) (Cb:=s.hp) (S:=fun _=>True) (K':=fun _ _=>(none:Option R)) (Rel:=fun (a:Option R) (_:Option R)=>a=some r->s.hp d=none) (fun h=>by cases h) (fun _ _=>.inl rfl) (fun _ _=>trivial) (fun m new h=>?_) h
   split at h
   ·split at h
    ·obtain⟨hb,_⟩:=Aj h;simp only[Bool.and_eq_true,Option.isNone_iff_eq_none] at hb;simp only[hb]
    ·cases h
   ·obtain⟨_,_,_,h,_⟩:=Et h;obtain⟨hb,_⟩:=Aj h;simp only[Bool.and_eq_true,Option.isNone_iff_eq_none] at hb;simp only[hb]
  ·rw[hI,cond_true] at h;unfold O3 at h;obtain⟨_,_,_,h⟩:=C4 h;obtain⟨_,_,_,h,_⟩:=Et h;obtain⟨hb,_⟩:=Aj h;simp only[Bool.and_eq_true,Option.isNone_iff_eq_none] at hb;simp only[hb]
 ·cases h
theorem Afj (hw:OE C P o s)(hwx:∀y∈x.op.operands.toList,∀i∈Bo (Bv s.tm y),s.hp i≠none) (xo:∀d,x.dst=some d->d ∉ looks ops o)(ne:∀d,x.dst=some d->o.dst≠some d)(ox:∀d,o.dst=some d->d ∉ looks ops x)
  (Cv:Kt x.op=true)(UE:Kt o.op=true)(JZ:∀i,R1 x s.tm s.hp i->¬R1 o s.tm s.hp i)(hx:Fn C P ops x s.tm=true)(ho:Fn C P ops o s.tm=true)
  (h:C8 C P N call ops x s (fun s1=>C8 C P N call ops o s1 K)=some r):C8 C P N call ops o s (fun s1=>C8 C P N call ops x s1 K)=some r:=by
 obtain⟨tm,hp⟩:=s;obtain⟨s1,e1,_,_,h⟩:=Ku h;obtain⟨s2,e2,_,_,h⟩:=Ku h;rw[Gy hx] at e1
 have hSx:∀i,R1 x tm hp i->hp i≠none:=by
  rintro i (⟨y,hy,hi⟩|⟨Pk,_⟩)
  ·exact hwx y hy i hi
  ·rw[Cv] at Pk;cases Pk
 have hSo:∀i,R1 o tm hp i->hp i≠none:=by
  rintro i (⟨y,hy,hi⟩|⟨Pk,_⟩)
  ·exact hw.1 y hy i hi
  ·rw[UE] at Pk;cases Pk
 obtain⟨vx,hpx,Aff,rfl,e1',T1⟩:=My Cv (fun _ _=>rfl) (fun _ _=>rfl) (fun _ _=>rfl) e1
 have:Aff=hpx:=by
  rw[e1] at e1';injection e1' with q;injection q with _ q;exact q.symm
 subst this;have t1:∀t∈looks ops o,Bj tm x.dst vx t=tm t:=D4 xo;have t1o:=Em (ops:=ops) (o:=o) t1;rw[Gy (by rw[F9 t1];exact ho)] at e2
 have hRo:∀i,R1 o (Bj tm x.dst vx) Aff i↔R1 o tm hp i:=by
  intro i;constructor
  ·rintro (⟨y,hy,hi⟩|⟨Pk,_⟩)
   ·exact .inl ⟨y,hy,by rw[←t1o y hy];exact hi⟩
   ·rw[UE] at Pk;cases Pk
  ·rintro (⟨y,hy,hi⟩|⟨Pk,_⟩)
   ·exact .inl ⟨y,hy,by rw[t1o y hy];exact hi⟩
   ·rw[UE] at Pk;cases Pk
 have Ahk:∀{s:St} {o:Oper} {s2:St},Kt o.op=true->Ql C P N call s o some=some s2->∀d,o.dst=some d->s.hp d=none:=by
  intro s o s2 UE e d hd;unfold Ql at e;unfold Kt at UE;split at UE
  ·rename_i c hc;rw[hc] at e;simp only at e;split at UE
   ·rename_i hcc;rw[hcc] at e;simp only[hd,Dk] at e;obtain⟨_,_,_,e⟩:=A6 e;obtain⟨_,_,_,e⟩:=A6 e;obtain⟨_,e⟩:=C6 e;obtain⟨_,_,_,e⟩:=A6 e;obtain⟨_,_,_,e⟩:=A6 e;exact GV e
   ·cases UE
  ·cases UE
 have A4m:∀d,o.dst=some d->hp d=none:=by
  intro d hd;have h0:=Ahk UE e2 d hd;cases hh:hp d with
  |none=>rfl
  |some b=>exact absurd h0 ((T1 0).keep d (by rw[hh];simp))
 have Aso:=Ahk Cv e1;simp only at Aso;have hoS:∀d,o.dst=some d->¬R1 x tm hp d:=fun d hd hR=>hSx d hR (A4m d hd)
 have hxS:∀d,x.dst=some d->¬R1 o tm hp d:=fun d hd hR=>hSo d hR (Aso d hd)
 obtain⟨vo,A1o,hpo,rfl,e3,T2⟩:=My (tm':=tm) (Cb:=hp) UE t1o (fun i hi=>(T1 0).far i (fun hR=>JZ i hR hi) (hSo i hi)) (fun d hd=>((T1 (d+1)).off d (by omega) (fun e=>ne d e hd) (.inl (hoS d hd))).1) e2
 obtain⟨vo',Ay7,MJ,e3a,e3b,T3⟩:=My (tm':=tm) (Cb:=hp) UE (fun _ _=>rfl) (fun _ _=>rfl) (fun _ _=>rfl) e3
 rw[e3] at e3b
 have Ax4:Ay7=hpo∧MJ=hpo:=by
  injection e3a with _ q1;injection e3b with q2;injection q2 with _ q3;exact⟨q1.symm,q3.symm⟩
 obtain⟨rfl,rfl⟩:=Ax4;have t2:∀t∈looks ops x,tm t=Bj tm o.dst vo t:=fun t ht=>(D4 ox t ht).symm
 have t2x:=Em (ops:=ops) (o:=x) t2
 have hRx:∀i,R1 x (Bj tm o.dst vo) MJ i↔R1 x tm hp i:=by
  intro i;constructor
  ·rintro (⟨y,hy,hi⟩|⟨Pk,_⟩)
   ·exact .inl ⟨y,hy,by rw[t2x y hy];exact hi⟩
   ·rw[Cv] at Pk;cases Pk
  ·rintro (⟨y,hy,hi⟩|⟨Pk,_⟩)
   ·exact .inl ⟨y,hy,by rw[←t2x y hy];exact hi⟩
   ·rw[Cv] at Pk;cases Pk
 obtain⟨vx2,Ayf,A08,e4a,e4,T4⟩:=My (tm':=Bj tm o.dst vo) (Cb:=MJ) Cv t2x (fun i hi=>((T3 0).far i (JZ i ((hRx i).1 hi)) (hSx i ((hRx i).1 hi))).symm) (fun d hd=>((T3 (d+1)).off d (by omega) (fun e=>ne d hd e) (.inl (hxS d hd))).1.symm) e1
 have hvx:Bj tm x.dst vx=Bj tm x.dst vx2∧Aff=Ayf:=by
  injection e4a with q1 q2;exact⟨q1,q2⟩
 obtain⟨hvx,rfl⟩:=hvx;obtain⟨_,Q0,J5,e5a,e5b,T5⟩:=My (tm':=Bj tm x.dst vx) (Cb:=Aff) UE (fun _ _=>rfl) (fun _ _=>rfl) (fun _ _=>rfl) e2
 have hq:Q0=A1o:=by injection e5a with _ q1;exact q1.symm
 subst hq;obtain⟨_,hu1,hu2,e6a,e6b,T6⟩:=My (tm':=Bj tm o.dst vo) (Cb:=MJ) Cv (fun _ _=>rfl) (fun _ _=>rfl) (fun _ _=>rfl) e4
 have hu:hu1=A08:=by injection e6a with _ q1;exact q1.symm
 subst hu
 have H7:Q0=hu1:=by
  funext i
  by_cases hi:R1 o tm hp i∨o.dst=some i
  ·have hxi:¬R1 x tm hp i:=by
    rcases hi with hi|hi
    ·exact fun hR=>JZ i hR hi
    ·exact hoS i hi
   have hdi:x.dst≠some i:=by
    rcases hi with hi|hi
    ·exact fun e=>hxS i e hi
    ·exact fun e=>ne i e hi
   rw[(T2 0).same i ((T1 (i+1)).off i (by omega) hdi (.inl hxi)).1]
   exact ((T6 (i+1)).off i (by omega) hdi (.inl fun hR=>hxi ((hRx i).1 hR))).1.symm
  ·have hoi:¬R1 o tm hp i:=fun e=>hi (.inl e)
   have hdi:o.dst≠some i:=fun e=>hi (.inr e)
   rw[((T5 (i+1)).off i (by omega) hdi (.inl fun hR=>hoi ((hRo i).1 hR))).1]
   exact (T4 0).same i ((T3 (i+1)).off i (by omega) hdi (.inl hoi)).1.symm
 refine Qd (s1:=⟨Bj tm o.dst vo,MJ⟩) (by rw[Gy ho];exact e3) ?_
 refine Qd (s1:=⟨Bj (Bj tm o.dst vo) x.dst vx2,hu1⟩) (by rw[Gy (by rw[←F9 t2];exact hx)];exact e4) ?_
 rw[←Ia ne,←hvx,←H7];exact h
theorem Sh (hM:M6 C P o.op=true){i:Nat}(h:R1 o s.tm s.hp i):i∈Jl C P s o:=by
 unfold Jl;rw[hM];cases hA:Kt o.op
 ·simp only[Bool.not_false,Bool.and_self,cond_true,List.mem_append];rcases h with⟨y,hy,hi⟩|⟨_,id,c,⟨y,hy,hi⟩,hc,p,hp,hk⟩
  ·exact .inl (List.mem_flatMap.2 ⟨y,hy,hi⟩)
  ·refine .inr (List.mem_flatMap.2 ⟨id,List.mem_flatMap.2 ⟨y,hy,hi⟩,?_⟩);rw[hc];exact List.mem_flatMap.2 ⟨p,hp,hk⟩
 ·simp only[Bool.not_true,Bool.and_false,cond_false,Bool.or_true,cond_true];rcases h with⟨y,hy,hi⟩|⟨hn,_⟩
  ·exact List.mem_flatMap.2 ⟨y,hy,hi⟩
  ·rw[hA] at hn;cases hn
theorem Xv (hl:M6 C P o.op=true∨Ou P o.op=true){y:Operand}(hy:y∈o.op.operands.toList){i:Nat}(h:i∈Bo (Bv s.tm y)):i∈Jl C P s o:=by
 rcases hl with hM|hl
 ·exact Sh hM (.inl ⟨y,hy,h⟩)
 ·unfold Jl;rw[Ib hl,hl];exact List.mem_flatMap.2 ⟨y,hy,h⟩
theorem ML (ht:∀t∈looks ops o,s1.tm t=s.tm t)(hh:M6 C P o.op=true->Kt o.op=false->∀y∈o.op.operands.toList,∀i∈Bo (Bv s.tm y),s1.hp i=s.hp i):Jl C P s1 o=Jl C P s o:=by
 have he:=Em (ops:=ops) (o:=o) ht
 have hl:(o.op.operands.toList.flatMap fun y=>Bo (Bv s1.tm y))=o.op.operands.toList.flatMap fun y=>Bo (Bv s.tm y):=by
  have Alr:∀l:List Operand,(∀y∈l,Bv s1.tm y=Bv s.tm y)->(l.flatMap fun y=>Bo (Bv s1.tm y))=l.flatMap fun y=>Bo (Bv s.tm y):=by
   intro l
   induction l with
   |nil=>intro _;rfl
   |cons a l ih=>intro h;simp only[List.flatMap_cons];rw[h a (by simp),ih fun y hy=>h y (by simp[hy])]
  exact Alr _ he
 unfold Jl;simp only[hl];cases hM:(M6 C P o.op && !Kt o.op)
 ·rfl
 ·simp only[cond_true];simp only[Bool.and_eq_true,Bool.not_eq_true'] at hM
  congr 1
  have Alr:∀l:List Nat,(∀i∈l,s1.hp i=s.hp i)->(l.flatMap fun i=>match s1.hp i with|some (.st c)=>c.flatMap Am|_=>[])=l.flatMap fun i=>match s.hp i with|some (.st c)=>c.flatMap Am|_=>[]:=by
   intro l
   induction l with
   |nil=>intro _;rfl
   |cons a l ih=>intro h;simp only[List.flatMap_cons];rw[h a (by simp),ih fun y hy=>h y (by simp[hy])]
  exact Alr _ fun i hi=>by
   obtain⟨y,hy,hi⟩:=List.mem_flatMap.1 hi;exact hh hM.1 hM.2 y hy i hi
theorem Sg {a b:List Nat}(h:WZ a b=true){i:Nat}(ha:i∈a)(hb:i∈b):False:=by
 have:=List.all_eq_true.1 h i ha;have h2:b.any (Nat.beq i)=true:=List.any_eq_true.2 ⟨i,hb,Nat.beq_refl i⟩;rw[h2] at this;cases this
theorem VC {a b:List Nat}(h:WZ a b=true):WZ b a=true:=by
 refine List.all_eq_true.2 fun i hi=>?_
 cases hc:a.any (Nat.beq i)
 ·rfl
 ·obtain⟨j,hj,e⟩:=List.any_eq_true.1 hc;rw[Nat.eq_of_beq_eq_true e] at hi;exact (Sg h hj hi).elim
theorem Rv:Hw C P x o=Hw C P o x:=by
 unfold Hw;cases M6 C P x.op<;>cases M6 C P o.op<;>cases Ou P x.op<;>cases Ou P o.op<;>cases Kt x.op<;>cases Kt o.op<;>rfl
structure I8 (C:Ft) (P:Program) (ops:Array Oper) (x o:Oper):Prop where
 xo:∀d,x.dst=some d->d ∉ looks ops o
 ne:∀d,x.dst=some d->o.dst≠some d
 ox:∀d,o.dst=some d->d ∉ looks ops x
 me:Nm C P x o=false∨Hw C P x o=true
theorem UN (h:Abc C P ops x o=false):I8 C P ops x o:=by
 unfold Abc at h;simp only[Bool.or_eq_false_iff] at h;obtain⟨h1,h2⟩:=h;have hT:=h1;unfold YL at h1;simp only[Bool.or_eq_false_iff] at h1
 have a1:Zv C P ops x o=false∨Nm C P x o=true:=by
  cases hc:Nm C P x o
  ·left;unfold Zv;unfold Nm at hc;simp only[Bool.or_eq_false_iff] at hc ⊢;exact⟨⟨⟨h1.1,h1.2⟩,hc.1⟩,hc.2⟩
  ·exact .inr rfl
 refine⟨fun d hd=>?_,fun d hd he=>?_,fun d hd=>?_,?_⟩
 ·have:=h1.1;simp only[hd,Bool.or_eq_false_iff] at this;exact Nr this.1
 ·have:=h1.1;simp only[hd,he,Bool.or_eq_false_iff] at this;rw[Nat.beq_refl] at this;cases this.2
 ·have:=h1.2;simp only[hd] at this;exact Nr this
 ·cases hc:Nm C P x o
  ·exact .inl rfl
  ·rw[hc] at h2;right
   simpa using h2
theorem I8.apart (ap:I8 C P ops x o)(h:Nm C P x o=false):S2 C P ops x o:=by
 unfold Nm at h;simp only[Bool.or_eq_false_iff,Bool.and_eq_false_iff] at h;refine⟨ap.xo,ap.ne,ap.ox,fun hm=>?_,fun hm=>?_⟩
 ·rcases h.1 with h|h
  ·rw[hm] at h;cases h
  ·exact h
 ·rcases h.2 with h|h
  ·rw[hm] at h;cases h
  ·exact h
theorem I8.same (ap:I8 C P ops x o)(hk:EA P x s s1)(hl:Ou P x.op=true->s1.hp=s.hp)(hM:M6 C P o.op=true)(hA:Kt o.op=false){i:Nat}(hi:s.hp i≠none):s1.hp i=s.hp i:=by
 rcases ap.me with h|h
 ·exact hk.2.2 ((ap.apart h).mo hM) i hi
 ·unfold Hw at h;rw[hA] at h;simp only[Bool.and_false,Bool.or_false,Bool.or_eq_true,Bool.and_eq_true] at h;rcases h with h|h
  ·have:=h.2;rw[Ib (C:=C) (P:=P) this] at hM;cases hM
  ·rw[hl h.2]
theorem OE.keepsS (h:OE C P o s)(ap:I8 C P ops x o)(hk:EA P x s s1)(hl:Ou P x.op=true->s1.hp=s.hp):OE C P o s1:=by
 have hop:∀y∈o.op.operands.toList,Bv s1.tm y=Bv s.tm y:=fun y hy=>Em (ops:=ops) (o:=o) (fun t ht=>hk.1 t fun hd=>ap.xo t hd ht) y hy
 refine⟨fun y hy i hi=>?_,fun hM hA y hy i hi c hc p hp k hkk=>?_⟩
 ·rw[hop y hy] at hi;exact hk.2.1 i (h.1 y hy i hi)
 ·rw[hop y hy] at hi;rw[ap.same hk hl hM hA (h.1 y hy i hi)] at hc;exact hk.2.1 k (h.2 hM hA y hy i hi c hc p hp k hkk)
theorem I8.symm (ap:I8 C P ops x o):I8 C P ops o x:=by
 refine⟨ap.ox,fun d hd he=>ap.ne d he hd,ap.xo,?_⟩
 rcases ap.me with h|h
 ·left;unfold Nm at h ⊢;rw[Bool.or_comm];exact h
 ·right;rw[Rv];exact h
theorem Aqv (hw:OE C P o s)(hwx:Hw C P x o=true->∀i∈Jl C P s x,s.hp i≠none)(ap:I8 C P ops x o)(hd:Hw C P x o=true->WZ (Jl C P s x) (Jl C P s o)=true)
  (h:C8 C P N call ops x s (fun s1=>C8 C P N call ops o s1 K)=some r):C8 C P N call ops o s (fun s1=>C8 C P N call ops x s1 K)=some r:=by
 rcases ap.me with hm|hm
 ·exact Ap8 hw (ap.apart hm) h
 ·have hd:=hd hm;have hwx:=hwx hm;cases hx:Fn C P ops x s.tm
  ·cases ho:Fn C P ops o s.tm
   ·exact TA hw ap.xo ap.ne ap.ox hx ho h
   ·have hMo:=Ox ho
    have hlx:CH P ops x s.tm:=by
     cases hl:Ou P x.op
     ·right
      have hMx:M6 C P x.op=true:=by
       unfold Hw at hm;simp only[hl,Bool.and_false,Bool.or_false,Bool.or_eq_true,Bool.and_eq_true] at hm;rcases hm with hm|hm
       ·exact hm.1
       ·exact JC hm.1
      cases hv:Fw ops x s.tm with
      |none=>
       exfalso;rw[H3 hx] at h;unfold gE at h;rw[hv] at h;cases h
      |some b=>
       cases b
       ·rfl
       ·unfold Fn at hx;rw[hMx,hv] at hx;cases hx
     ·exact .inl hl
    refine Afq ap.xo ap.ne ap.ox hlx (fun y hy i hi hR=>?_) ho h
    refine Sg hd (Xv ?_ hy hi) (Sh hMo hR);unfold Hw at hm;simp only[Bool.or_eq_true,Bool.and_eq_true] at hm;rcases hm with (hm|hm)|hm
    ·exact .inl hm.1
    ·exact .inr hm.2
    ·exact .inl (JC hm.1)
  ·have hMx:=Ox hx;cases ho:Fn C P ops o s.tm
   ·have hlo:CH P ops o s.tm:=by
     cases hl:Ou P o.op
     ·right
      have hMo:M6 C P o.op=true:=by
       unfold Hw at hm;simp only[hl,Bool.and_false,Bool.false_or,Bool.or_eq_true,Bool.and_eq_true] at hm;rcases hm with hm|hm
       ·exact hm.1
       ·exact JC hm.2
      cases hv:Fw ops o s.tm with
      |none=>
       exfalso;obtain⟨s1,_,hk,_,h⟩:=Ku h;have hv1:Fw ops o s1.tm=none:=by rw[Ig (fun t ht=>hk.1 t fun hd=>ap.xo t hd ht)];exact hv
       rw[H3 (by unfold Fn;rw[hv1];cases M6 C P o.op<;>rfl)] at h
       unfold gE at h;rw[hv1] at h;cases h
      |some b=>
       cases b
       ·rfl
       ·unfold Fn at ho;rw[hMo,hv] at ho;cases ho
     ·exact .inl hl
    refine Adr hw ap.xo ap.ne ap.ox hlo (fun y hy i hi hR=>?_) hx h
    refine Sg hd (Sh hMx hR) (Xv ?_ hy hi);unfold Hw at hm;simp only[Bool.or_eq_true,Bool.and_eq_true] at hm;rcases hm with (hm|hm)|hm
    ·exact .inr hm.2
    ·exact .inl hm.1
    ·exact .inl (JC hm.2)
   ·have hMo:=Ox ho;unfold Hw at hm;simp only[Bool.or_eq_true,Bool.and_eq_true] at hm;rcases hm with (hm|hm)|hm
    ·rw[Ib (C:=C) (P:=P) hm.2] at hMo;cases hMo
    ·rw[Ib (C:=C) (P:=P) hm.2] at hMx;cases hMx
    ·exact Afj hw (fun y hy i hi=>hwx i (Xv (.inl hMx) hy hi)) ap.xo ap.ne ap.ox hm.1 hm.2 (fun i h1 h2=>Sg hd (Sh hMx h1) (Sh hMo h2)) hx ho h
theorem Abn {α:Type}(a b:α)(l:List α)(f:α->Bool):(a::b::l).all f=(b::a::l).all f:=by
 simp only[List.all_cons];cases f a<;>cases f b<;>rfl
theorem V9 {bs:List (List Nat)}:∀(l:List Nat){dn dn':List (Nat × Oper × List Nat)} {s:St}{K:St->Option R},(∀f,dn.all f=dn'.all f)->Gl C P N call ops bs dn l s K=Gl C P N call ops bs dn' l s K
 |[],_,_,_,_,_=>rfl
 |i::l,dn,dn',s,K,h=>by
  unfold Gl;cases ops[i]? with
  |none=>rfl
  |some o=>
   simp only[Dk,h]
   congr 2
   funext s'
   exact V9 l fun f=>by simp only[List.all_cons,h]
theorem Z8 {bs:List Nat}{i:Nat}(hi:ops[i]?=some o):(Wf C P ops bs).getD i []=Sw C P ops bs i o:=by
 unfold Wf;rw[List.getD_eq_getElem?_getD,List.getElem?_map,List.getElem?_zipIdx,Array.getElem?_toList,hi];simp
theorem Ni {bs:List Nat}{i j:Nat}:j∈Sw C P ops bs i o↔∃x,ops[j]?=some x∧Hw C P x o=true∧(Nat.blt j i&&(bs.getD i 0).testBit j)=false∧(Nat.blt i j&&(bs.getD j 0).testBit i)=false:=by
 unfold Sw;simp only[List.mem_map,List.mem_filter,Bool.and_eq_true,Bool.not_eq_true',Prod.exists];constructor
 ·rintro⟨x,k,⟨hm,⟨h1,h2⟩,h3⟩,rfl⟩
  rw[List.mem_zipIdx_iff_getElem?] at hm;exact⟨x,by simpa using hm,h1,h2,h3⟩
 ·rintro⟨x,hx,h1,h2,h3⟩
  refine⟨x,j,⟨?_,⟨h1,h2⟩,h3⟩,rfl⟩;rw[List.mem_zipIdx_iff_getElem?]
  simpa using hx
theorem Xm {sm:List (List Nat)} {i j:Nat}(h:j∈sm.getD i []):Wp C P sm s i o=Jl C P s o:=by
 unfold Wp;split
 ·rename_i e;rw[e] at h;simp at h
 ·rfl
theorem ZD {sm:List (List Nat)} {i:Nat}(h:sm.getD i []≠[]->Jl C P s1 o=Jl C P s o):Wp C P sm s1 i o=Wp C P sm s i o:=by
 unfold Wp;split
 ·rfl
 ·rename_i e;exact h (by rw[e];simp)
theorem TP {l:List Nat}{j:Nat}:l.any (Nat.beq j)=true↔j∈l:=by
 constructor
 ·intro h;obtain⟨k,hk,e⟩:=List.any_eq_true.1 h;rw[Nat.eq_of_beq_eq_true e];exact hk
 ·intro h;exact List.any_eq_true.2 ⟨j,h,Nat.beq_refl j⟩
theorem Sl {bs:List Nat}{sm:List (List Nat)} (XU:sm=Wf C P ops bs){i:Nat}(hi:ops[i]?=some o) {l':List Nat}:∀(l:List Nat){dn:List (Nat × Oper × List Nat)} {s:St}{K:St->Option R},OE C P o s ->
  (∀j∈l,j<i∧(bs.getD i 0).testBit j=false∧∀x,ops[j]?=some x->I8 C P ops x o)->Gl C P N call ops sm dn (l++i::l') s K=some r ->
  dn.all (BN C P sm s i o)=true∧C8 C P N call ops o s (fun s1=>Gl C P N call ops sm ((i,o,Wp C P sm s i o)::dn) (l++l') s1 K)=some r
 |[],dn,s,K,hw,_,h=>by
  simp only[List.nil_append] at h ⊢;unfold Gl at h;rw[hi] at h;simp only[Dk] at h;obtain⟨hb,h⟩:=Aj h;simp only[Bool.and_eq_true] at hb;exact⟨hb.1,h⟩
 |j::l,dn,s,K,hw,hl,h=>by
  simp only[List.cons_append] at h ⊢;unfold Gl at h;obtain⟨hji,CO,Pk⟩:=hl j (by simp)
  cases hj:ops[j]? with
  |none=>rw[hj] at h;cases h
  |some x=>
   rw[hj] at h;simp only[Dk] at h;obtain⟨hb,h⟩:=Aj h;simp only[Bool.and_eq_true] at hb;have ap:=Pk x hj
   have hex:∀k∈Wp C P sm s j x,s.hp k≠none:=fun k hk=>by
    have:=List.all_eq_true.1 hb.2 k hk;intro e;rw[e] at this;cases this
   obtain⟨s1,e1,Dn,AC,h1⟩:=Ku h;obtain⟨ha,h2⟩:=Sl XU hi l (hw.keepsS ap Dn AC) (fun k hk=>hl k (by simp[hk])) h1
   have Av5:Jl C P s1 o=Jl C P s o:=ML (ops:=ops) (fun t ht=>Dn.1 t fun hd=>ap.xo t hd ht) fun hM hA y hy k hk=>ap.same Dn AC hM hA (hw.1 y hy k hk)
   have BB:Wp C P sm s1 i o=Wp C P sm s i o:=ZD fun _=>Av5
   rw[List.all_cons,Bool.and_eq_true] at ha
   have Ar7:Nat.blt i j=false:=by
    cases hh:Nat.blt i j
    ·rfl
    ·have:=Nat.le_of_ble_eq_true hh;omega
   have hmi:Hw C P x o=true->j∈sm.getD i []:=fun hs=>by
    rw[XU,Z8 hi];exact Ni.2 ⟨x,hj,hs,by rw[CO,Bool.and_false],by rw[Ar7,Bool.false_and]⟩
   have hmj:Hw C P x o=true->i∈sm.getD j []:=fun hs=>by
    rw[XU,Z8 hj];exact Ni.2 ⟨o,hi,by rw[Rv];exact hs,by rw[Ar7,Bool.false_and],by rw[CO,Bool.and_false]⟩
   have Ag1:Hw C P x o=true->WZ (Wp C P sm s j x) (Wp C P sm s i o)=true:=by
    intro hs;have:=ha.1;unfold BN at this;rw[TP.2 (hmi hs),BB] at this
    simpa using this
   have hok:∀q,BN C P sm s1 i o q=BN C P sm s i o q:=fun q=>by unfold BN;rw[BB]
   have K7:dn.all (BN C P sm s i o)=true:=by
    refine List.all_eq_true.2 fun q hq=>?_
    rw[←hok];exact List.all_eq_true.1 ha.2 q hq
   refine⟨K7,?_⟩;rw[BB] at h2
   have h3:=Aqv hw (fun hs k hk=>hex k (by rw[Xm (hmj hs)];exact hk)) ap (fun hs=>by have:=Ag1 hs;rw[Xm (hmj hs),Xm (hmi hs)] at this;exact this)
    (Qd (K':=fun s1=>C8 C P N call ops o s1 (fun s2=>Gl C P N call ops sm ((i,o,Wp C P sm s i o)::(j,x,Wp C P sm s j x)::dn) (l++l') s2 K)) e1 h2)
   obtain⟨s2,e2,D6,On,h4⟩:=Ku h3;refine Qd e2 ?_
   have EZ:Wp C P sm s2 j x=Wp C P sm s j x:=ZD fun Ee=>by
    obtain⟨q,hq⟩:=List.exists_mem_of_ne_nil _ Ee;refine ML (ops:=ops) (fun t ht=>D6.1 t fun hd=>ap.ox t hd ht) fun hM hA y hy k hk=>ap.symm.same D6 On hM hA (hex k ?_)
    rw[Xm hq];exact Xv (.inl hM) hy hk
   unfold Gl;rw[hj];simp only[Dk]
   have hc:(((i,o,Wp C P sm s i o)::dn).all (BN C P sm s2 j x)&&(Wp C P sm s2 j x).all fun k=>(s2.hp k).isSome)=true:=by
    simp only[List.all_cons,Bool.and_eq_true];refine⟨⟨?_,?_⟩,?_⟩
    ·unfold BN;simp only[EZ];cases hs:(sm.getD j []).any (Nat.beq i)
     ·rfl
     ·have hm:=TP.1 hs;rw[XU,Z8 hj] at hm;obtain⟨o',LD,ST,_⟩:=Ni.1 hm;rw[hi] at LD;cases LD;rw[Rv] at ST;rw[VC (Ag1 ST)];rfl
    ·refine List.all_eq_true.2 fun q hq=>?_
     have:=List.all_eq_true.1 hb.1 q hq;unfold BN at this ⊢;rw[EZ];exact this
    ·rw[EZ];refine List.all_eq_true.2 fun k hk=>?_
     have:=D6.2.1 k (hex k hk);cases hh:s2.hp k with
     |none=>exact absurd hh this
     |some _=>rfl
   rw[hc,EZ];show C8 C P N call ops x s2 _=some r
   have:(fun s'=>Gl C P N call ops sm ((j,x,Wp C P sm s j x)::(i,o,Wp C P sm s i o)::dn) (l++l') s' K)=fun s2=>Gl C P N call ops sm ((i,o,Wp C P sm s i o)::(j,x,Wp C P sm s j x)::dn) (l++l') s2 K:=by
    funext s'
    exact V9 _ fun f=>Abn _ _ _ f
   rw[this];exact h4
end
section
variable {R:Type} {r:R} {P:Program} {N:Nat} {w0:World} {X0:Gm} {Y:Nat->Prop} {β β':Bt} {s:St} {a:Act} {w w':World} {o:Oper} {ops:Array Oper} {C:Ft} {call:Ax} {K:St->Option R}
theorem Q2 {bs:List Nat}:∀(l:List Oper)(n:Nat),Sm C P ops bs l n=true->∀(k:Nat) o,l[k]?=some o->∀(j:Nat) x,ops[j]?=some x->j<n+k->Abc C P ops x o=true->(bs.getD (n+k) 0).testBit j=true
 |[],_,_,k,o,ho,_,_,_,_,_=>by simp at ho
 |o'::l,n,h,k,o,ho,j,x,hx,hj,J4=>by
  simp only[Sm,Bool.and_eq_true] at h;cases k with
  |zero=>
   simp at ho;subst ho
   have:=List.all_eq_true.1 h.1 (x,j) (by
    rw[List.mem_zipIdx_iff_getElem?]
    simpa using hx)
   simp only[J4,Bool.not_true,Bool.or_false,Bool.or_eq_true,Bool.not_eq_true'] at this;rcases this with h'|h'
   ·have:Nat.blt j n=true:=Nat.ble_eq_true_of_le (by omega)
    rw[this] at h';cases h'
   ·exact h'
  |succ k=>
   have:=Q2 l (n+1) h.2 k o (by simpa using ho) j x hx (by omega) J4
   rwa [show n+(k+1)=n+1+k by omega]
theorem HK {G:R0}(Ie:KH P G w0 X0)(Df:∀f args res,call f args=some res->Cy G P f args res)(hok:Y0 C P ops=true){Q:Exit->Act->World->Prop}(hQ:∀s' a' w' β',K s'=some r->Ci N w0 X0 Y β' s' a' w'->Q .normal a' w'):
  ∀(fuel:Nat) {dn:List (Nat × Oper × List Nat)} {listed:Array Bool} {s:St} {a:Act} {w:World} {β:Bt},HeadInv .any ops ops.size listed->(Jz ops.size listed).length=fuel->Ci N w0 X0 Y β s a w->Gl C P N call ops (Wf C P ops (Gx ops.toList [])) dn (Jz ops.size listed) s K=some r->wpAny P .any ops Q fuel listed a w:=by
 unfold Y0 at hok;simp only[Bool.and_eq_true] at hok;obtain⟨Aaw,Ama⟩:=hok;intro fuel
 induction fuel with
 |zero=>
  intro dn listed s a w β inv hf h hk;have hp:=List.eq_nil_of_length_eq_zero hf;rw[hp] at hk;refine⟨?_,hQ s a w β hk h⟩;cases hr:Region.ready .any ops listed with
  |nil=>rfl
  |cons i l=>
   exfalso;have hi:i∈Region.ready .any ops listed:=by rw[hr];simp
   obtain⟨Hr,o,ho,_⟩:=mem_ready.1 hi;have:i∈Jz ops.size listed:=Hi.2 ⟨(Array.getElem?_eq_some_iff.1 ho).1,Hr⟩;rw[hp] at this;simp at this
 |succ fuel ih=>
  intro dn listed s a w β inv hf h hk;refine⟨fun hr=>?_,fun i hi=>?_⟩
  ·rw[FR Aaw inv hr] at hf;cases hf
  ·obtain⟨Hr,o,ho,K7⟩:=mem_ready.1 hi;have B4:i<ops.size:=(Array.getElem?_eq_some_iff.1 ho).1;obtain⟨l1,l2,h1,h2,h3⟩:=Rt (Hi.2 ⟨B4,Hr⟩) inv.size;rw[h1] at hk
   have hnb:∀j∈l1,((Gx ops.toList []).getD i 0).testBit j=false:=by
    intro j hj;cases CO:((Gx ops.toList []).getD i 0).testBit j with
    |false=>rfl
    |true=>
     exfalso;have hjl:=Ng (listed:=listed) (fun j oj hj hl=>inv.closed j oj hj hl) ops.toList [] [] (by simp) rfl (by simp) i o ho K7 j CO
     have:j∈Jz ops.size listed:=by rw[h1];simp[hj]
     have:=getD_both (Hi.1 this).2;rw[hjl] at this;cases this
   have Pk:∀j∈l1,j<i∧((Gx ops.toList []).getD i 0).testBit j=false∧∀x,ops[j]?=some x->I8 C P ops x o:=by
    intro j hj;refine⟨h3 j hj,hnb j hj,fun x hxj=>UN ?_⟩
    cases J4:Abc C P ops x o with
    |false=>rfl
    |true=>
     exfalso;have CO:=Q2 ops.toList 0 Ama i o (by simpa using ho) j x hxj (by have:=h3 j hj;omega) J4
     rw[Nat.zero_add,hnb j hj] at CO;cases CO
   obtain⟨s',hs',hn⟩:=R4 h Ie Df ho (Sl rfl ho l1 (Ace h o) Pk hk).2;refine hn _ _ fun a' w' β' h'=>ih (dn:=(i,o,Wp C P (Wf C P ops (Gx ops.toList [])) s i o)::dn) (inv.set hi B4) ?_ h' ?_
   ·rw[h2];rw[h1] at hf;simp at hf ⊢;omega
   ·rw[h2];exact hs'
theorem Xa (h:Ci N w0 X0 Y β s a w){G:R0}(Ie:KH P G w0 X0)(Df:∀f args res,call f args=some res->Cy G P f args res)(hm:P.follows .mixedOrders=true)(hok:Y0 C P ops=true){Q:Exit->Act->World->Prop}
  (hk:Gl C P N call ops (Wf C P ops (Gx ops.toList [])) [] (List.range ops.size) s K=some r) (hQ:∀s' a' w' β',K s'=some r->Ci N w0 X0 Y β' s' a' w'->Q .normal a' w'):wpAny P .any ops Q ops.size (Array.replicate ops.size false) a { w with drawn:=w.drawn+1 }:=by
 have hp:Jz ops.size (Array.replicate ops.size false)=List.range ops.size:=by
  unfold Jz;refine List.filter_eq_self.2 fun i hi=>?_
  have:=List.mem_range.1 hi;simp[this]
 refine HK (C:=C) (dn:=[]) Ie Df hok hQ ops.size ⟨by simp,fun j oj _ hl=>(by rw[getD_replicate_false] at hl;cases hl),fun t ht ht'=>by omega⟩ (by rw[hp];simp) h.drew ?_
 rw[hp];exact hk
theorem MY (h:Ci N w0 X0 Y β s a w){G:R0}(Ie:KH P G w0 X0)(Df:∀f args res,call f args=some res->Cy G P f args res)(hm:P.follows .mixedOrders=true)(hok:Y0 C P ops=true){id:Nat}{Q:Exit->Act->World->Prop}
  (hk:Gl C P N call ops (Wf C P ops (Gx ops.toList [])) [] (List.range ops.size) s K=some r) (hQ:∀s' a' w' β',K s'=some r->Ci N w0 X0 Y β' s' a' w'->Q .normal a' w'):(Code.region id ops true).wp P Q a w:=
 wp_region_any hm (Xa h Ie Df hm hok hk hQ)
end
open Go.RowKit
section
variable {R:Type} {r:R} {N:Nat} {w0:World} {X0:Gm} {Y:Nat->Prop} {β β':Bt} {s:St} {a:Act} {w w':World}
theorem ZW {i:Nat}(hi:i<a.tmps.size):a.put (some i) (a.tmps.getD i undef)=a:=by
 obtain⟨tmps,dfr⟩:=a;change i<tmps.size at hi
 have:tmps.setIfInBounds i (tmps.getD i undef)=tmps:=by
  apply Array.ext_getElem?;intro k;by_cases e:i=k
  ·subst e;simp[hi]
  ·rw[Array.getElem?_setIfInBounds_ne e]
 simp only[Act.put,this]
theorem TF {A:Nat->Prop}{es:Nat}{v:Value}(h:Ar w A (.lst true es 0 []) v):v=.slice none 0 0:=by
 cases h;rfl
theorem TT {id:Nat}(Bf:s.hp id=none){v:PV}{val:Value}(hv:Dx w (Cs (An s.hp [(id,.ar false [])]) (Ch β id none) Y) (Ch β id none) v val) (hr:∀i∈Bo v,s.hp i≠none∨i=id):
  EY Y β s w v [(id,.ar false [])] val w (Ch β id none):=by
 refine⟨rfl,rfl,rfl,B2.refl _ _,fun j hj=>Ai _ _ (by rintro rfl;exact hj Bf),?_,?_,?_,?_,?_,hv,?_⟩
 ·intro j bx hm;simp at hm;rw[hm.2];trivial
 ·intro j bx hm;simp at hm;obtain⟨rfl,rfl⟩:=hm;exact .inl ⟨Al _ _ _,rfl⟩
 ·intro j bx k q hm hq;simp at hm;obtain⟨rfl,rfl⟩:=hm;rw[Al] at hq;cases hq
 ·intro j bx j' bx' k q q' hm Hv _ _;simp at hm Hv;rw[hm.1,Hv.1]
 ·intro j cells hm;simp at hm
 ·intro j hj;rcases hr j hj with h|rfl
  ·exact .inl h
  ·exact .inr ⟨.ar false [],by simp⟩
theorem BE (h:Ci N w0 X0 Y β s a w)(i:Nat):∃β',Ci N w0 X0 Y β' (Xo N s i) a w:=by
 unfold Xo;split
 ·rename_i es ht
  have B4:i<N:=by
   rcases Nat.lt_or_ge i N with h'|h'
   ·exact h'
   ·rw[h.tmo i h'] at ht;cases ht
  have hv:=h.tms i B4;rw[ht] at hv;have hv:=TF hv;have hd:Fc N (some i)=true:=by simp[Fc,Nat.blt];omega
  have go:∀j,s.hp j=none->∃β',Ci N w0 X0 Y β' ⟨Ch s.tm i (.view j es 0 0),Ch s.hp j (some (.ar false []))⟩ a w:=by
   intro j hn;have:=h.stepR (d:=some i) hd (by simp[Bn,hn]) (TT (v:=.view j es 0 0) (val:=.slice none 0 0) hn (.inl ⟨Al _ _ _,rfl,rfl,none,rfl⟩) (by simp[Bo,B6,Am]))
   rw[←hv,ZW (by rw[h.tsz];exact B4)] at this
   exact⟨_,this⟩
  cases hn:(s.hp i).isNone
  ·cases hn2:(s.hp (i+N*3000)).isNone
   ·exact⟨β,h⟩
   ·exact go _ (by simpa using hn2)
  ·exact go _ (by simpa using hn)
 ·exact⟨β,h⟩
theorem Ci.recell (h:Ci N w0 X0 Y β s a w){id:Nat}{c c':List PV}(h0:s.hp id=some (.st c)) (hl:c'.length=c.length)
  (hc:∀(j:Nat) p,c'[j]?=some p->∃q,c[j]?=some q∧(∀v,Bu w (Cs s.hp β Y) β q v->Bu w (Cs s.hp β Y) β p v)∧∀i∈Am p,s.hp i≠none):
  Ci N w0 X0 Y β ⟨s.tm,Ch s.hp id (some (.st c'))⟩ a w:=by
 have Fk:∀i,Cu (Ch s.hp id (some (.st c')) i)↔Cu (s.hp i):=by
  intro i;by_cases e:i=id
  ·subst e;rw[Al,h0];exact Iff.rfl
  ·rw[Ai _ _ e]
 have hX:IF (Ch s.hp id (some (.st c'))) β=IF s.hp β:=by
  funext b
  apply propext;constructor
  ·rintro⟨i,o,hl,hb⟩;exact⟨i,o,(Fk i).1 hl,hb⟩
  ·rintro⟨i,o,hl,hb⟩;exact⟨i,o,(Fk i).2 hl,hb⟩
 have hA:Cs (Ch s.hp id (some (.st c'))) β Y=Cs s.hp β Y:=by
  funext b;unfold Cs;rw[hX]
 have Ee:∀i,s.hp i≠none->Ch s.hp id (some (.st c')) i≠none:=by
  intro i hi;by_cases e:i=id
  ·subst e;rw[Al];simp
  ·rw[Ai _ _ e];exact hi
 have Alo:∀i,Ch s.hp id (some (.st c')) i≠none->s.hp i≠none:=by
  intro i hi;by_cases e:i=id
  ·subst e;rw[h0];simp
  ·rw[Ai _ _ e] at hi;exact hi
 refine⟨h.dfr,h.tsz,h.tmo,?_,?_,?_,?_,?_,?_,?_,?_,fun i hi=>⟨Ee _ (h.pin i hi).1,(h.pin i hi).2⟩,?_,?_,h.Ylt,h.fr⟩
 ·intro i hi;show Dx w (Cs (Ch s.hp id _) β Y) β _ _;rw[hA];exact h.tms i hi
 ·intro i b hb;show N0 w (Cs (Ch s.hp id _) β Y) β i b;rw[hA];by_cases e:i=id
  ·subst e;change Ch s.hp i (some (.st c')) i=some b at hb;rw[Al] at hb;cases hb;obtain⟨b,o,h1,h2,h3⟩:=h.box i _ h0;refine⟨b,o,h1,fun j p hj=>?_,fun j hj=>h3 j (by rw[←hl];exact hj)⟩
   obtain⟨q,hq,hqp,_⟩:=hc j p hj;obtain⟨v,hv,hr⟩:=h2 j q hq;exact⟨v,hv,hqp v hr⟩
  ·change Ch s.hp id (some (.st c')) i=some b at hb;rw[Ai _ _ e] at hb;exact h.box i b hb
 ·intro i i' b o o' hl H1 hb Gi;exact h.inj i i' b o o' ((Fk i).1 hl) ((Fk i').1 H1) hb Gi
 ·intro i b o hn hb;exact h.blt i b o (Alo i hn) hb
 ·intro i hi j hj;exact Ee j (h.wfT i hi j hj)
 ·intro i cells hb p hp j hj;change Ch s.hp id (some (.st c')) i=_ at hb;by_cases e:i=id
  ·subst e;rw[Al] at hb;cases hb;obtain⟨k,hk⟩:=List.mem_iff_getElem?.1 hp;obtain⟨_,_,_,hr⟩:=hc k p hk;exact Ee j (hr j hj)
  ·rw[Ai _ _ e] at hb;exact Ee j (h.wfB i cells hb p hp j hj)
 ·intro b hb;exact h.ownd b (by rw[←hX];exact hb)
 ·intro i bx b o hb hlb hβ B4 j hj;change Ch s.hp id (some (.st c')) i=some bx at hb;by_cases e:i=id
  ·subst e;rw[Al] at hb;cases hb;exact h.rngB i _ b o h0 trivial hβ B4 j (by unfold BR at hj ⊢;simp only[hl] at hj;exact hj)
  ·rw[Ai _ _ e] at hb;exact h.rngB i bx b o hb hlb hβ B4 j hj
 ·intro i c1 b o hb hβ B4;change Ch s.hp id (some (.st c')) i=_ at hb;by_cases e:i=id
  ·subst e;exact h.stp i c b o h0 hβ B4
  ·rw[Ai _ _ e] at hb;exact h.stp i c1 b o hb hβ B4
 ·intro b hY hb;exact h.Yx b hY (by rw[←hX];exact hb)
theorem CW (h:Ci N w0 X0 Y β s a w)(id j:Nat):∃β',Ci N w0 X0 Y β' (GM N id s j) a w:=by
 unfold GM;split
 ·rename_i c h0;split
  ·rename_i es hj;cases hn:(s.hp (id+N*(j+1))).isNone
   ·exact⟨β,h⟩
   ·have hn:s.hp (id+N*(j+1))=none:=by simpa using hn
    have Ee:id≠id+N*(j+1):=by
     intro e;rw[←e,h0] at hn;cases hn
    have h1:=h.stepR (d:=none) (v:=.top) (val:=undef) rfl (by simp[Bn,hn]) (TT hn (.top _) (by simp[Bo,B6,Am]))
    change Ci N w0 X0 Y (Ch β (id+N*(j+1)) none) ⟨s.tm,Ch s.hp (id+N*(j+1)) (some (.ar false []))⟩ a w at h1
    have h2:=h1.recell (id:=id) (c:=c) (c':=c.set j (.view (id+N*(j+1)) es 0 0)) (by show Ch _ _ _ _=_;rw[Ai _ _ Ee];exact h0) (by simp) (by
     intro k p hp;by_cases e:k=j
     ·subst e
      have B4:k<c.length:=by
       rcases Nat.lt_or_ge k c.length with h'|h'
       ·exact h'
       ·rw[List.getElem?_eq_none h'] at hj;cases hj
      rw[List.getElem?_set_self B4] at hp;cases hp;refine⟨_,hj,fun v hv=>.inl ⟨Al _ _ _,rfl,rfl,none,TF hv⟩,fun i hi=>?_⟩
      simp[Am] at hi;subst hi;show Ch _ _ _ _≠none;rw[Al];simp
     ·rw[List.getElem?_set_ne (fun h=>e h.symm)] at hp
      refine⟨p,hp,fun _ hv=>hv,fun i hi=>?_⟩
      have:=h.wfB id c h0 p (List.mem_of_getElem? hp) i hi;show Ch _ _ _ _≠none;by_cases e':i=id+N*(j+1)
      ·subst e';rw[Al];simp
      ·rw[Ai _ _ e'];exact this)
    refine⟨Ch β (id+N*(j+1)) none,?_⟩;have e3:Ch (Ch s.hp (id+N*(j+1)) (some (.ar false []))) id (some (.st (c.set j (.view (id+N*(j+1)) es 0 0))))=Ch (Ch s.hp id (some (.st (c.set j (.view (id+N*(j+1)) es 0 0))))) (id+N*(j+1)) (some (.ar false [])):=ND _ _ _ (fun h=>Ee h.symm)
    change Ci N w0 X0 Y (Ch β (id+N*(j+1)) none) ⟨s.tm,Ch (Ch s.hp (id+N*(j+1)) (some (.ar false []))) id (some (.st (c.set j (.view (id+N*(j+1)) es 0 0))))⟩ a w at h2;rw[e3] at h2;exact h2
  ·exact⟨β,h⟩
 ·exact⟨β,h⟩
theorem Lc {f:St->Nat->St}(hf:∀s β,Ci N w0 X0 Y β s a w->∀i,∃β',Ci N w0 X0 Y β' (f s i) a w):∀(l:List Nat){s:St}{β:Bt},Ci N w0 X0 Y β s a w->∃β',Ci N w0 X0 Y β' (l.foldl f s) a w
 |[],_,β,h=>⟨β,h⟩
 |i::l,s,β,h=>by
  obtain⟨β1,h1⟩:=hf s β h i;exact Lc hf l h1
theorem HU (h:Ci N w0 X0 Y β s a w)(i:Nat):∃β',Ci N w0 X0 Y β' (HG N s i) a w:=by
 unfold HG;split
 ·split
  ·exact Lc (fun s β h i=>CW h _ i) _ h
  ·exact⟨β,h⟩
 ·exact⟨β,h⟩
theorem EP:∀{m:List (Nat × Nat)},Dp (m.map (·.2))=true->∀{i i' j:Nat},(i,j)∈m->(i',j)∈m->i=i'
 |[],_,_,_,_,h,_=>by simp at h
 |(x,y)::m,hn,i,i',j,h,h'=>by
  simp only[List.map_cons,Dp,Bool.and_eq_true,Bool.not_eq_true'] at hn
  have hy:∀k,(k,y) ∉ m:=by
   intro k hk;exact Nr hn.1 (List.mem_map.2 ⟨(k,y),hk,rfl⟩)
  rcases List.mem_cons.1 h with e|h
  ·cases e;rcases List.mem_cons.1 h' with e|h'
   ·cases e;rfl
   ·exact absurd h' (hy _)
  ·rcases List.mem_cons.1 h' with e|h'
   ·cases e;exact absurd h (hy _)
   ·exact EP hn.2 h h'
theorem Ux:∀{m:List (Nat × Nat)},Dp (m.map (·.1))=true->∀{i j j':Nat},(i,j)∈m->(i,j')∈m->j=j'
 |[],_,_,_,_,h,_=>by simp at h
 |(x,y)::m,hn,i,j,j',h,h'=>by
  simp only[List.map_cons,Dp,Bool.and_eq_true,Bool.not_eq_true'] at hn
  have hx:∀k,(x,k) ∉ m:=by
   intro k hk;exact Nr hn.1 (List.mem_map.2 ⟨(x,k),hk,rfl⟩)
  rcases List.mem_cons.1 h with e|h
  ·cases e;rcases List.mem_cons.1 h' with e|h'
   ·cases e;rfl
   ·exact absurd h' (hx _)
  ·rcases List.mem_cons.1 h' with e|h'
   ·cases e;exact absurd h (hx _)
   ·exact Ux hn.2 h h'
theorem Jx {i j:Nat}(h:Nat.beq i j=false):i≠j:=by rintro rfl;rw[Nat.beq_refl] at h;cases h
theorem Th:∀{m:List (Nat × Nat)} {i j:Nat},Qs m i=some j->(i,j)∈m
 |[],_,_,h=>by cases h
 |(x,y)::m,i,j,h=>by
  unfold Qs at h;cases hb:Nat.beq i x<;>rw[hb] at h
  ·exact List.mem_cons_of_mem _ (Th h)
  ·have:=Nat.eq_of_beq_eq_true hb;cases h;rw[this];simp
theorem Ul {m:List (Nat × Nat)} {hp:Nat->Option Bk}:∀{l:List (Nat × Nat)} {j:Nat}{b:Bk},Jh (Jj m hp l) j=some b->∃i b0,(i,j)∈l∧hp i=some b0∧b=Afl m b0
 |[],_,_,h=>by cases h
 |(x,y)::l,j,b,h=>by
  unfold Jj at h;cases hx:hp x with
  |none=>
   rw[hx] at h;obtain⟨i,b0,h1,h2⟩:=Ul h;exact⟨i,b0,List.mem_cons_of_mem _ h1,h2⟩
  |some bx=>
   rw[hx] at h;simp only[Jh] at h;cases hb:Nat.beq j y<;>rw[hb] at h
   ·obtain⟨i,b0,h1,h2⟩:=Ul h;exact⟨i,b0,List.mem_cons_of_mem _ h1,h2⟩
   ·have:=Nat.eq_of_beq_eq_true hb;subst this;cases h;exact⟨x,bx,by simp,hx,rfl⟩
theorem Kh {m:List (Nat × Nat)} {hp:Nat->Option Bk}:∀{l:List (Nat × Nat)} {i j:Nat},(i,j)∈l->hp i≠none->Jh (Jj m hp l) j≠none
 |[],_,_,h,_=>by simp at h
 |(x,y)::l,i,j,h,hi=>by
  unfold Jj;cases hx:hp x with
  |none=>
   rcases List.mem_cons.1 h with e|h
   ·cases e;exact absurd hx hi
   ·exact Kh h hi
  |some bx=>
   simp only[Jh];cases hb:Nat.beq j y
   ·rcases List.mem_cons.1 h with e|h
    ·cases e;exact absurd rfl (Jx hb)
    ·exact Kh h hi
   ·simp
def BW (m:List (Nat × Nat)) (j:Nat):Option Nat:=
 match m with
 |[]=>none
 |(x,y)::r=>bif Nat.beq j y then some x else BW r j
theorem SO:∀{m:List (Nat × Nat)} {i j:Nat},BW m j=some i->(i,j)∈m
 |[],_,_,h=>by cases h
 |(x,y)::m,i,j,h=>by
  unfold BW at h;cases hb:Nat.beq j y<;>rw[hb] at h
  ·exact List.mem_cons_of_mem _ (SO h)
  ·have:=Nat.eq_of_beq_eq_true hb;cases h;rw[this];simp
theorem NL:∀{m:List (Nat × Nat)} {i j:Nat},(i,j)∈m->∃k,BW m j=some k
 |[],_,_,h=>by simp at h
 |(x,y)::m,i,j,h=>by
  unfold BW;cases hb:Nat.beq j y
  ·rcases List.mem_cons.1 h with e|h
   ·cases e;exact absurd rfl (Jx hb)
   ·exact NL h
  ·exact⟨x,rfl⟩
theorem FV {f:Nat->PV}:∀{l:List Nat}{i:Nat},lk (l.map fun i=>(i,f i)) i=if i∈l then f i else .top
 |[],_=>rfl
 |x::l,i=>by
  simp only[List.map_cons,lk];cases hb:Nat.beq i x
  ·have:=Jx hb;simp only[cond_false,FV,List.mem_cons,this,false_or]
  ·have:=Nat.eq_of_beq_eq_true hb;subst this;simp
theorem EI {m:Nat}:∀{n i:Nat},i∈I7 m n->i<n
 |0,_,h=>by simp[I7] at h
 |n+1,i,h=>by
  simp only[I7,List.mem_append] at h;rcases h with h|h
  ·have:=EI h;omega
  ·cases hb:m.testBit n<;>rw[hb] at h
   ·simp at h
   ·simp at h;omega
theorem HJ (h:Ci N w0 X0 Y β s a w){m:List (Nat × Nat)} (h1:Dp (m.map (·.1))=true) (h2:Dp (m.map (·.2))=true) {ls:List Nat}(hls:∀i∈ls,i<N)(hpn:∀i,X0.pn i->(C3 N i,C3 N i)∈m):
  ∃β',Ci N w0 X0 Y β' ⟨lk (ls.map fun i=>(i,XH m (s.tm i))),Jh (Jj m s.hp m)⟩ a w:=by
 refine⟨fun j=>(BW m j).bind β,?_⟩
 have hβ:∀{i j:Nat},(i,j)∈m->(BW m j).bind β=β i:=by
  intro i j hm;obtain⟨k,hk⟩:=NL hm;rw[hk];have:=EP h2 (SO hk) hm;subst this;rfl
 have hold:∀{j:Nat} {b:Bk},Jh (Jj m s.hp m) j=some b->∃i b0,(i,j)∈m∧s.hp i=some b0∧b=Afl m b0∧(BW m j).bind β=β i:=by
  intro j b hb;obtain⟨i,b0,hm,h3,h4⟩:=Ul hb;exact⟨i,b0,hm,h3,h4,hβ hm⟩
 have Fk:∀{j:Nat},Cu (Jh (Jj m s.hp m) j)->∃i,(i,j)∈m∧Cu (s.hp i)∧(BW m j).bind β=β i:=by
  intro j hl;cases hb:Jh (Jj m s.hp m) j with
  |none=>rw[hb] at hl;exact hl.elim
  |some b=>
   obtain⟨i,b0,hm,h3,rfl,h5⟩:=hold hb;refine⟨i,hm,?_,h5⟩;rw[hb] at hl;rw[h3];cases b0<;>exact hl
 have hX:∀b,IF (Jh (Jj m s.hp m)) (fun j=>(BW m j).bind β) b->IF s.hp β b:=by
  rintro b ⟨j,o,hl,hb⟩
  obtain⟨i,_,H1,e⟩:=Fk hl;exact⟨i,o,H1,by rw[←e];exact hb⟩
 have hA:∀b,Cs (Jh (Jj m s.hp m)) (fun j=>(BW m j).bind β) Y b->Cs s.hp β Y b:=fun b hb=>hb.imp (hX b) id
 have hC:∀p v,Bu w (Cs s.hp β Y) β p v->Bu w (Cs (Jh (Jj m s.hp m)) (fun j=>(BW m j).bind β) Y) (fun j=>(BW m j).bind β) (PA m p) v:=by
  intro p v hp;cases p with
  |view id es off n=>
   show Bu _ _ _ (match Qs m id with|some j=>.view j es off n|none=>.top) v
   cases hj:Qs m id with
   |some j=>
    have e:=hβ (Th hj);rcases hp with⟨e1,e2⟩|⟨b,o,x,cap,e1,e2⟩
    ·exact .inl ⟨by show (BW m j).bind β=none;rw[e];exact e1,e2⟩
    ·exact .inr ⟨b,o,x,cap,by show (BW m j).bind β=_;rw[e];exact e1,e2⟩
   |none=>exact Ar.top _
  |ptr id off=>
   show Bu _ _ _ (match Qs m id with|some j=>.ptr j off|none=>.top) v
   cases hj:Qs m id with
   |some j=>
    have e:=hβ (Th hj);obtain⟨b,o,e1,e2⟩:=hp;exact⟨b,o,by show (BW m j).bind β=_;rw[e];exact e1,e2⟩
   |none=>exact Ar.top _
  |sc v=>exact Ar.step (B2.refl _ _) (fun b _=>hA b) hp
  |lst z es n c=>exact Ar.step (B2.refl _ _) (fun b _=>hA b) hp
  |iptr c off=>exact Bu.step (p:=.iptr c off) (B2.refl _ _) (fun b _=>hA b) (by simp[Am]) hp
  |_=>exact Ar.top _
 have hV:∀p v,Dx w (Cs s.hp β Y) β p v->Dx w (Cs (Jh (Jj m s.hp m)) (fun j=>(BW m j).bind β) Y) (fun j=>(BW m j).bind β) (XH m p) v:=by
  intro p v hp;cases p with
  |agg c=>
   obtain⟨vs,e1,e2⟩:=hp;refine⟨vs,e1,Bb.of_at (by simp;exact e2.len) fun i q u hq hu=>?_⟩
   rw[List.getElem?_map] at hq;cases hc:c[i]? with
   |none=>rw[hc] at hq;cases hq
   |some q0=>
    rw[hc] at hq;cases hq;exact hC _ _ (e2.at_ hc hu)
  |view id es off n=>
   have:=hC (.view id es off n) v hp;change Bu _ _ _ (match Qs m id with|some j=>.view j es off n|none=>.top) v at this
   show Dx _ _ _ (match Qs m id with|some j=>.view j es off n|none=>.top) v
   cases hj:Qs m id<;>rw[hj] at this<;>exact this
  |ptr id off=>
   have:=hC (.ptr id off) v hp;change Bu _ _ _ (match Qs m id with|some j=>.ptr j off|none=>.top) v at this
   show Dx _ _ _ (match Qs m id with|some j=>.ptr j off|none=>.top) v
   cases hj:Qs m id<;>rw[hj] at this<;>exact this
  |sc v'=>exact hC (.sc v') v hp
  |lst z es n c=>exact hC (.lst z es n c) v hp
  |iptr c off=>exact hC (.iptr c off) v hp
  |_=>exact Ar.top _
 have hrC:∀p i,i∈Am (PA m p)->∃k∈Am p,(k,i)∈m:=by
  intro p i hi;cases p with
  |view id es off n=>
   change i∈Am (match Qs m id with|some j=>.view j es off n|none=>.top) at hi
   cases hj:Qs m id<;>rw[hj] at hi
   ·simp[Am] at hi
   ·simp[Am] at hi;subst hi;exact⟨id,by simp[Am],Th hj⟩
  |ptr id off=>
   change i∈Am (match Qs m id with|some j=>.ptr j off|none=>.top) at hi
   cases hj:Qs m id<;>rw[hj] at hi
   ·simp[Am] at hi
   ·simp[Am] at hi;subst hi;exact⟨id,by simp[Am],Th hj⟩
  |_=>simp[PA,Am] at hi
 have hrV:∀p i,i∈Bo (XH m p)->∃k∈Bo p,(k,i)∈m:=by
  intro p i hi;cases p with
  |agg c=>
   simp only[XH,Bo,B6,List.mem_flatMap,List.mem_map] at hi;obtain⟨_,⟨q,hq,rfl⟩,hi⟩:=hi;obtain⟨k,hk,hm⟩:=hrC q i hi;exact⟨k,by simp only[Bo,B6,List.mem_flatMap];exact⟨q,hq,hk⟩,hm⟩
  |view id es off n=>
   refine (hrC (.view id es off n) i ?_).imp fun k hk=>hk
   change i∈Bo (match Qs m id with|some j=>.view j es off n|none=>.top) at hi
   show i∈Am (match Qs m id with|some j=>.view j es off n|none=>.top)
   cases hj:Qs m id<;>rw[hj] at hi<;>exact hi
  |ptr id off=>
   refine (hrC (.ptr id off) i ?_).imp fun k hk=>hk
   change i∈Bo (match Qs m id with|some j=>.ptr j off|none=>.top) at hi
   show i∈Am (match Qs m id with|some j=>.ptr j off|none=>.top)
   cases hj:Qs m id<;>rw[hj] at hi<;>exact hi
  |_=>simp[XH,PA,Bo,B6,Am] at hi
 refine⟨h.dfr,h.tsz,?_,?_,?_,?_,?_,?_,?_,?_,?_,?_,?_,?_,h.Ylt,h.fr⟩
 ·intro i hi;show lk _ i=_;rw[FV,if_neg (fun hm=>by have:=hls i hm;omega)]
 ·intro i hi;show Dx w _ _ (lk _ i) _;rw[FV];split
  ·exact hV _ _ (h.tms i hi)
  ·exact Ar.top _
 ·intro j b hb;obtain⟨i,b0,hm,h3,rfl,e⟩:=hold hb;have I3:=h.box i b0 h3;cases b0 with
  |st c=>
   obtain⟨b,o,e1,e2,e3⟩:=I3;refine⟨b,o,by show (BW m j).bind β=_;rw[e];exact e1,fun k p hp=>?_,fun k hk=>e3 k (by simpa using hk)⟩
   rw[List.getElem?_map] at hp;cases hc:c[k]? with
   |none=>rw[hc] at hp;cases hp
   |some q=>
    rw[hc] at hp;cases hp;obtain⟨v,hv,hr⟩:=e2 k q hc;exact⟨v,hv,hC _ _ hr⟩
  |ar fz c=>
   have:=N0.step' hA I3;show N0 _ _ _ _ (.ar fz c);rcases this with⟨e1,e2⟩|⟨b,o,e1,e2⟩
   ·exact .inl ⟨by show (BW m j).bind β=_;rw[e];exact e1,e2⟩
   ·exact .inr ⟨b,o,by show (BW m j).bind β=_;rw[e];exact e1,e2⟩
  |mv=>exact trivial
 ·intro j j' b o o' hl H1 hb Gi;obtain⟨i,hm,AC,e⟩:=Fk hl;obtain⟨i',Hv,Ayc,e'⟩:=Fk H1;have:=h.inj i i' b o o' AC Ayc (by rw[←e];exact hb) (by rw[←e'];exact Gi)
  subst this;exact Ux h1 hm Hv
 ·intro j b o hn hb;cases hj:Jh (Jj m s.hp m) j with
  |none=>exact absurd hj hn
  |some bx=>
   obtain⟨i,b0,_,h3,_,e⟩:=hold hj;exact h.blt i b o (by rw[h3];simp) (by rw[←e];exact hb)
 ·intro i hi j hj;change j∈Bo (lk _ i) at hj;rw[FV] at hj;split at hj
  ·obtain⟨k,hk,hm⟩:=hrV _ j hj;exact Kh hm (h.wfT i hi k hk)
  ·simp[Bo,B6,Am] at hj
 ·intro j cells hb p hp k hk;obtain⟨i,b0,_,h3,h4,_⟩:=hold hb;cases b0 with
  |st c=>
   cases h4;obtain⟨q,hq,rfl⟩:=List.mem_map.1 hp;obtain⟨k',I1,hm⟩:=hrC q k hk;exact Kh hm (h.wfB i c h3 q hq k' I1)
  |ar fz c=>cases h4
  |mv=>cases h4
 ·intro b hb;exact h.ownd b (hX b hb)
 ·intro j bx b o hb hlb hβ1 B4 k hk;obtain⟨i,b0,_,h3,h4,e⟩:=hold hb;subst h4;refine h.rngB i b0 b o h3 ?_ (by rw[←e];exact hβ1) B4 k ?_
  ·cases b0<;>exact hlb
  ·cases b0 with
   |st c=>simpa [BR,Afl] using hk
   |ar fz c=>exact hk
   |mv=>exact hk
 ·intro i hi;exact⟨Kh (hpn i hi) (h.pin i hi).1,(hβ (hpn i hi)).trans (h.pin i hi).2⟩
 ·intro j c b o hb hβ1 B4;obtain⟨i,b0,hm,h3,h4,e⟩:=hold hb;cases b0 with
  |st c0=>
   obtain⟨k,rfl,hk⟩:=h.stp i c0 b o h3 (by rw[←e];exact hβ1) B4
   exact⟨k,Ux h1 hm (hpn k hk),hk⟩
  |ar fz c0=>cases h4
  |mv=>cases h4
 ·intro b hY hb;exact h.Yx b hY (hX b hb)
theorem Qb {m:List (Nat × Nat)} {q:Nat × Nat}{o n:Nat}(h:q∈m):q∈DU m o n:=by
 unfold DU;split
 ·exact h
 ·exact List.mem_append.2 (.inl h)
theorem Ik {q:Nat × Nat}{new:Nat}:∀{c:List PV}{j:Nat}{m:List (Nat × Nat)},q∈m->q∈Nb N new c j m
 |[],_,_,h=>h
 |p::c,j,m,h=>by
  unfold Nb;split
  ·rename_i e;cases e
  ·rename_i e;cases e;exact Ik (Qb h)
  ·rename_i e;cases e;exact Ik h
theorem LC {q:Nat × Nat}{m:List (Nat × Nat)} {i:Nat}(h:q∈m):q∈Xr N s m i:=by
 unfold Xr;split
 ·exact Qb h
 ·split
  ·exact h
  ·split
   ·exact Ik (Qb h)
   ·exact Qb h
 ·exact Ik h
 ·exact h
theorem Tv {q:Nat × Nat}:∀{l:List Nat}{m:List (Nat × Nat)},q∈m->q∈l.foldl (Xr N s) m
 |[],_,h=>h
 |_::l,_,h=>Tv (l:=l) (LC h)
theorem Ns {q:Nat × Nat}{m:List (Nat × Nat)} (h:q∈m):∀k,q∈Pg N s.hp k m
 |0=>h
 |k+1=>by
  unfold Pg;split
  ·exact Ik (Ns h k)
  ·exact Ns h k
theorem EO:∀{k i:Nat},i<k->s.hp (C3 N i)≠none->(C3 N i,C3 N i)∈MI N s.hp k
 |0,_,h,_=>by omega
 |k+1,i,h,hn=>by
  unfold MI;by_cases e:i=k
  ·subst e
   have:(s.hp (C3 N i)).isSome=true:=by
    cases hq:s.hp (C3 N i) with
    |none=>exact absurd hq hn
    |some b=>rfl
   rw[this];simp
  ·have:=EO (k:=k) (i:=i) (by omega) hn
   cases (s.hp (C3 N k)).isSome
   ·exact this
   ·exact List.mem_append.2 (.inl this)
theorem We (h:Ci N w0 X0 Y β s a w){L:Nat}{q:Bool}{K:St->Option R}(hk:RS N (I7 L N) q s K=some r):∃β' s',K s'=some r∧Ci N w0 X0 Y β' s' a w:=by
 unfold RS at hk;obtain⟨hb,Dn⟩:=Aj hk;simp only[Bool.and_eq_true] at hb
 obtain⟨β2,h2⟩:∃β2,Ci N w0 X0 Y β2 (bif q then s else (I7 L N).foldl (HG N) ((I7 L N).foldl (Xo N) s)) a w:=by
  cases q
  ·obtain⟨β1,h1⟩:=Lc (fun s β h i=>BE h i) (I7 L N) h
   obtain⟨β2,h2⟩:=Lc (fun s β h i=>HU h i) (I7 L N) h1
   exact⟨β2,h2⟩
  ·exact⟨β,h⟩
 obtain⟨β3,h3⟩:=HJ h2 hb.1 hb.2 (ls:=I7 L N) (fun i hi=>EI hi) (fun i hi=>Tv (Ns (EO (X0.p8 i hi) (h2.pin i hi).1) 8))
 exact⟨β3,_,Dn,h3⟩
theorem Ov (h:Ci N w0 X0 Y β s a w){L:Nat}{K:St->Option R}(hk:T8 N L s K=some r):∃β' s',K s'=some r∧Ci N w0 X0 Y β' s' a w:=We h hk
theorem KO (h:Ci N w0 X0 Y β s a w){L:Nat}{K:St->Option R}(hk:TL N L s K=some r):∃β' s',K s'=some r∧Ci N w0 X0 Y β' s' a w:=We h hk
end
open Go.RowKit
section
variable {R:Type} {r:R} {P:Program} {N:Nat} {w0:World} {X0:Gm} {Y:Nat->Prop} {C:Ft} {call:Ax}
theorem DP {n:Nat}{F:St->Option R}{s:St}(h:Yh n F s=some r):F s=some r:=by
 unfold Yh at h;split at h
 ·cases h
 ·exact h
theorem NI {β:Bt}{s:St}{a:Act}{w:World}(h:Ci N w0 X0 Y β s a w){c:Operand}{kt kf:St->Option R}(hk:Acg s c kt kf=some r):(a.eval c=.bool true∧kt s=some r)∨(a.eval c=.bool false∧kf s=some r):=by
 unfold Acg at hk;split at hk
 ·rename_i d;split at hk
  ·rename_i b ht;have hv:a.eval (.tmp d)=.bool b:=B0 h (x:=.tmp d) ht;cases b
   ·change kf ⟨Ch s.tm d (.sc (.bool false)),s.hp⟩=some r at hk;rw[Sx s.tm ht] at hk;exact .inr ⟨hv,hk⟩
   ·change kt ⟨Ch s.tm d (.sc (.bool true)),s.hp⟩=some r at hk;rw[Sx s.tm ht] at hk;exact .inl ⟨hv,hk⟩
  ·rename_i ht;have hu:=Cn h (.tmp d);change Dx _ _ _ (s.tm d) _ at hu;rw[ht] at hu;have Hc:Ar w _ .ub (a.eval (.tmp d)):=hu
   obtain⟨b,hv⟩:∃b,a.eval (.tmp d)=.bool b:=by
    generalize a.eval (.tmp d)=x at Hc;cases Hc with
    |ub b=>exact⟨b,rfl⟩
   obtain⟨h1,h2⟩:=FG hk;cases b
   ·exact .inr ⟨hv,h2⟩
   ·exact .inl ⟨hv,h1⟩
  ·cases hk
 ·exact .inl ⟨rfl,hk⟩
 ·exact .inr ⟨rfl,hk⟩
 ·cases hk
theorem X3 {c:Code}{Q:Exit->Act->World->Prop}{F:(St->Option R)->St->Option R} {nm:St->(St->Option R)->Option R}
  (BS:∀{β s a w} {K:St->Option R},Ci N w0 X0 Y β s a w->nm s K=some r->∃β' s',K s'=some r∧Ci N w0 X0 Y β' s' a w)
  (hF:∀{β s a w} {K:St->Option R}{Q':Act->World->Prop},Ci N w0 X0 Y β s a w->F K s=some r->(∀s' a' w' β',K s'=some r->Ci N w0 X0 Y β' s' a' w'->Q' a' w')->c.wp P (Exit.then Q' Q) a w):
  ∀(n:Nat) {β s a w},Ci N w0 X0 Y β s a w->Aaq F nm n s=some r->Code.rounds P c Q n a w
 |0,_,_,_,_,_,hk=>by cases hk
 |n+1,β,s,a,w,h,hk=>by
  rw[rounds_succ];refine hF h hk fun s' a' w' β' I1 h'=>?_
  obtain⟨β1,s1,Dn,h1⟩:=BS h' I1;exact X3 BS hF n h1 Dn
theorem OS {G:R0}(Ie:KH P G w0 X0)(Df:∀f args res,call f args=some res->Cy G P f args res)(hm:P.follows .mixedOrders=true){fu:Nat}:
  ∀(c:Code) {ln:Nat} {lx:Nat->Nat} {lr:Nat} {kn:St->Option R} {kx:Nat->St->Option R} {kr:St->Option R} {β:Bt} {s:St} {a:Act} {w:World} {Q:Exit->Act->World->Prop},Ci N w0 X0 Y β s a w ->
   Ly C P fu N call c ln lx lr kn kx kr s=some r->(∀s' a' w' β',kn s'=some r->Ci N w0 X0 Y β' s' a' w'->Q .normal a' w') ->
   (∀id s' a' w' β',kx id s'=some r->Ci N w0 X0 Y β' s' a' w'->Q (.exit id) a' w')->(∀s' a' w' β',kr s'=some r->Ci N w0 X0 Y β' s' a' w'->Q .ret a' w')->c.wp P Q a w:=by
 intro c
 induction c with
 |skip=>intro ln lx lr kn kx kr β s a w Q h hk hn hx hr;exact wp_skip (hn s a w β hk h)
 |region id ops draw=>
  intro ln lx lr kn kx kr β s a w Q h hk hn hx hr;unfold Ly at hk;cases draw
  ·simp only[LE,Bool.false_and,cond_false] at hk;exact GN h Ie Df hk hn
  ·simp only[LE,Ag4,Bool.true_and,cond_true] at hk;cases hb:DO C P ops<;>rw[hb] at hk
   ·obtain⟨Gi,Dn⟩:=Aj (show Bi _ _=some r from hk)
    exact MY h Ie Df hm Gi Dn hn
   ·exact HH h Ie Df hm hb hk hn
 |seq c1 c2 ih1 ih2=>
  intro ln lx lr kn kx kr β s a w Q h hk hn hx hr;unfold Ly at hk
  refine wp_seq (ih1 h hk (fun s' a' w' β' I1 h'=>by
    cases hc:Ab8 P c1 c2
    ·rw[hc] at I1;exact ih2 h' I1 hn hx hr
    ·rw[hc] at I1;cases hq:Xn c1 c2
     ·rw[hq] at I1;obtain⟨β1,s1,Dn,h1⟩:=Ov h' (show T8 _ _ _ _=some r from I1)
      exact ih2 h1 (DP Dn) hn hx hr
     ·rw[hq] at I1;obtain⟨β1,s1,Dn,h1⟩:=KO h' (show TL _ _ _ _=some r from I1)
      exact ih2 h1 (DP Dn) hn hx hr) (fun id s' a' w' β' I1 h'=>hx id s' a' w' β' I1 h') (fun s' a' w' β' I1 h'=>hr s' a' w' β' I1 h'))
 |cond c c1 c2 ih1 ih2=>
  intro ln lx lr kn kx kr β s a w Q h hk hn hx hr;unfold Ly at hk;rcases NI h hk with⟨hc,Dn⟩|⟨hc,Dn⟩
  ·exact wp_cond_true hc (ih1 h Dn hn hx hr)
  ·exact wp_cond_false hc (ih2 h Dn hn hx hr)
 |block id c ih=>
  intro ln lx lr kn kx kr β s a w Q h hk hn hx hr;unfold Ly at hk;refine wp_block (ih h hk (fun s' a' w' β' I1 h'=>hn s' a' w' β' I1 h') (fun j s' a' w' β' I1 h'=>?_) (fun s' a' w' β' I1 h'=>hr s' a' w' β' I1 h'))
  show (if j=id then _ else _)
  by_cases e:j=id
  ·subst e;rw[if_pos rfl];rw[Nat.beq_refl] at I1;exact hn s' a' w' β' I1 h'
  ·rw[if_neg e]
   have:Nat.beq j id=false:=by
    cases hb:Nat.beq j id
    ·rfl
    ·exact absurd (Nat.eq_of_beq_eq_true hb) e
   rw[this] at I1;exact hx j s' a' w' β' I1 h'
 |loop c ih=>
  intro ln lx lr kn kx kr β s a w Q h hk hn hx hr;unfold Ly at hk;obtain⟨β1,s1,Dn,h1⟩:=Ov h hk;refine wp_loop_rounds fu (X3 (fun h hk=>Ov h hk) (fun h hk hQ=>?_) fu h1 Dn)
  exact ih h hk hQ (fun id s' a' w' β' I1 h'=>hx id s' a' w' β' I1 h') (fun s' a' w' β' I1 h'=>hr s' a' w' β' I1 h')
 |«exit» id=>intro ln lx lr kn kx kr β s a w Q h hk hn hx hr;exact wp_exit (hx id s a w β hk h)
 |ret=>intro ln lx lr kn kx kr β s a w Q h hk hn hx hr;exact wp_ret (hr s a w β hk h)
 |_=>intro ln lx lr kn kx kr β s a w Q h hk hn hx hr;cases hk
end
open Go.RowKit
theorem J2:∀{l:List (Nat × Bk)} {i:Nat}{b:Bk},Jh l i=some b->(i,b)∈l
 |[],_,_,h=>by cases h
 |(j,c)::l,i,b,h=>by
  unfold Jh at h;cases hb:Nat.beq i j<;>rw[hb] at h
  ·exact List.mem_cons_of_mem _ (J2 h)
  ·have:=Nat.eq_of_beq_eq_true hb;cases h;rw[this];simp
theorem JK:∀{l:List (Nat × Bk)},(l.map (·.1)).Nodup->∀{i b},(i,b)∈l->Jh l i=some b
 |[],_,_,_,h=>by cases h
 |(j,c)::l,hn,i,b,h=>by
  simp only[List.map_cons,List.nodup_cons] at hn;unfold Jh;rcases List.mem_cons.1 h with e|h
  ·cases e;simp only[Nat.beq_refl,cond_true]
  ·have:Nat.beq i j=false:=by
    cases hb:Nat.beq i j
    ·rfl
    ·exact absurd (Nat.eq_of_beq_eq_true hb ▸ List.mem_map.2 ⟨_,h,rfl⟩) hn.1
   simp only[this,cond_false];exact JK hn.2 h
section
variable {R:Type} {r:R} {P:Program} {N:Nat} {w0:World} {X0:Gm} {Y:Nat->Prop} {β β':Bt} {s:St} {a:Act} {w w':World} {A:Nat->Prop}
theorem ZB {id:Nat}{t:CT}{p:PV}{K:PV->List (Nat × Bk)->Option R} (hk:YT id t p K=some r):
  (∃c,K c []=some r∧Rb c∧∀w A q u,Fd w A q p u->Ar w A c u)∨∃es n cc,p=.own es n cc∧K (.view id es 0 n) [(id,.ar false cc)]=some r:=by
 have tree:∀t',(Uz t' p fun c=>K c [])=some r->∃c,K c []=some r∧Rb c∧∀w A q u,Fd w A q p u->Ar w A c u:=by
  intro t' hk;obtain⟨c,hk,hT,Y6,hv⟩:=Ju hk;refine⟨c,hk,hT,fun w A q u h=>(hv w A (fun _=>none) u ?_).1⟩
  cases p<;>first|exact h|exact Y6.elim
 unfold YT at hk;cases t with
 |sl es=>
  dsimp only at hk;split at hk
  ·rename_i es' n c;cases hb:Nat.beq es' es<;>rw[hb] at hk
   ·cases hk
   ·have:=Nat.eq_of_beq_eq_true hb;subst this;exact .inr ⟨_,_,_,rfl,hk⟩
  ·exact .inl (tree (.sl es) hk)
 |int k=>exact .inl (tree _ hk)
 |bool=>exact .inl (tree _ hk)
 |str=>exact .inl (tree _ hk)
 |any=>exact .inl (tree _ hk)
theorem Mt:∀{ts:List CT}{id:Nat}{ps:List PV}{K:List PV->List (Nat × Bk)->Option R},Vy N id ts ps K=some r ->
  ∃cs bs,∃qs:List (Nat × Nat),K cs bs=some r∧cs.length=ps.length∧ps.length=ts.length∧bs.map (·.1)=qs.map (·.1)∧(∀q∈qs,∀q'∈qs,q.2=q'.2->q.1=q'.1) ∧
   (∀i bx,(i,bx)∈bs->∃c,bx=.ar false c)∧(∀c∈cs,BV c)∧(∀c∈cs,∀i∈Am c,∃bx,(i,bx)∈bs) ∧
   ∀(w:World) (A:Nat->Prop) (own β':Bt) (j0:Nat) (us:List Value),(∀q∈qs,β' q.1=own (j0+q.2))->D8 w A own j0 ps us->Bb (Bu w A β') cs us∧∀i bx,(i,bx)∈bs->N0 w A β' i bx
 |[],id,ps,K,hk=>by
  obtain⟨rfl,hk⟩:=C6 hk;refine⟨[],[],[],hk,rfl,rfl,rfl,by simp,by simp,by simp,by simp,fun w A own β' j0 us _ h=>⟨?_,by simp⟩⟩
  cases us with
  |nil=>trivial
  |cons u us=>exact h.elim
 |t::ts,id,ps,K,hk=>by
  unfold Vy at hk;obtain⟨p,ps',Wt,Dn⟩:=A6 hk;subst Wt;rcases ZB Dn with⟨c,D6,hT,hv⟩|⟨es,n,cc,rfl,D6⟩
  ·obtain⟨cs,bs,qs,I2,hl,On,hb,J5,Ec,hF,Gw,Ob⟩:=Mt D6;refine⟨c::cs,bs,qs.map (fun q=>(q.1,q.2+1)),I2,by simp[hl],by simp[On],by rw[hb];simp,?_,Ec,?_,?_,fun w A own β' j0 us hβ ho=>?_⟩
   ·intro q hq q' Ex e;obtain⟨q0,Qt,rfl⟩:=List.mem_map.1 hq;obtain⟨q1,Hn,rfl⟩:=List.mem_map.1 Ex;exact J5 q0 Qt q1 Hn (by simp only at e;omega)
   ·intro y hy;rcases List.mem_cons.1 hy with rfl|hy
    ·exact M8 hT
    ·exact hF y hy
   ·intro y hy i hi;rcases List.mem_cons.1 hy with rfl|hy
    ·rw[Gd hT] at hi;cases hi
    ·exact Gw y hy i hi
   ·cases us with
    |nil=>exact ho.elim
    |cons u us=>
     obtain⟨h1,h2⟩:=Ob w A own β' (j0+1) us (fun q hq=>by rw[hβ _ (List.mem_map_of_mem hq)];congr 1;simp only;omega) ho.2
     exact⟨⟨Aai (hv w A _ u ho.1),h1⟩,h2⟩
  ·obtain⟨cs,bs,qs,I2,hl,On,hb,J5,Ec,hF,Gw,Ob⟩:=Mt D6;refine⟨_::cs,(id,.ar false cc)::bs,(id,0)::qs.map (fun q=>(q.1,q.2+1)),I2,by simp[hl],by simp[On],by simp only[List.map_cons,hb];simp,?_,?_,?_,?_,fun w A own β' j0 us hβ ho=>?_⟩
   ·intro q hq q' Ex e;rcases List.mem_cons.1 hq with rfl|hq
    ·rcases List.mem_cons.1 Ex with rfl|Ex
     ·rfl
     ·obtain⟨q0,Qt,rfl⟩:=List.mem_map.1 Ex;simp only at e;omega
    ·obtain⟨q0,Qt,rfl⟩:=List.mem_map.1 hq;rcases List.mem_cons.1 Ex with rfl|Ex
     ·simp only at e;omega
     ·obtain⟨q1,Hn,rfl⟩:=List.mem_map.1 Ex;exact J5 q0 Qt q1 Hn (by simp only at e;omega)
   ·intro i bx hm;rcases List.mem_cons.1 hm with e|hm
    ·cases e;exact⟨cc,rfl⟩
    ·exact Ec i bx hm
   ·intro y hy;rcases List.mem_cons.1 hy with rfl|hy
    ·trivial
    ·exact hF y hy
   ·intro y hy i hi;rcases List.mem_cons.1 hy with rfl|hy
    ·simp only[Am,List.mem_singleton] at hi;subst hi;exact⟨_,List.mem_cons_self⟩
    ·obtain⟨bx,I3⟩:=Gw y hy i hi;exact⟨bx,List.mem_cons_of_mem _ I3⟩
   ·cases us with
    |nil=>exact ho.elim
    |cons u us=>
     obtain⟨h1,h2⟩:=Ob w A own β' (j0+1) us (fun q hq=>by rw[hβ _ (List.mem_cons_of_mem _ (List.mem_map_of_mem hq))];congr 1;simp only;omega) ho.2
     have h0:=hβ (id,0) List.mem_cons_self;simp only[Nat.add_zero] at h0;refine⟨⟨?_,h1⟩,fun i bx hm=>?_⟩
     ·rcases ho.1 with⟨h3,rfl,_,h5⟩|⟨b,ob,cap,h3,h4,h5,h6,h7,_⟩
      ·exact .inl ⟨h0.trans h3,rfl,rfl,h5⟩
      ·exact .inr ⟨b,ob,ob,cap,h0.trans h3,h4,.inl rfl,h5,h6,h7⟩
     ·rcases List.mem_cons.1 hm with e|hm
      ·cases e;exact Tw ho.1 h0
      ·exact h2 i bx hm
theorem Afy {i:Nat}{t:TypeId}{p:PV}{K:PV->List (Nat × Bk)->Option R} (hk:inK P N i t p K=some r):
  ∃v bs,∃qs:List (Nat × Nat),K v bs=some r∧bs.map (·.1)=qs.map (·.1)∧(∀q∈qs,∀q'∈qs,q.2=q'.2->q.1=q'.1)∧(Ub p=true->(C3 N i,0)∈qs∧i<8) ∧
   (∀id bx,(id,bx)∈bs->Cu (some bx)∧∀c,bx=.st c->id=C3 N i∧Ub p=true)∧(∀id∈Bo v,∃bx,(id,bx)∈bs)∧Vb bs ∧
   ∀(w:World) (A:Nat->Prop) (bt β':Bt) (u:Value),(∀q∈qs,β' q.1=bt q.2)->MD w A bt p u->Dx w A β' v u∧(∀id bx,(id,bx)∈bs->N0 w A β' id bx) ∧
    ∀id bx b o,(id,bx)∈bs->β' id=some (b,o)->∀j,BR bx o j->Aky bt p b j:=by
 have owns:∀{bs:List (Nat × Bk)} {qs:List (Nat × Nat)},bs.map (·.1)=qs.map (·.1)->(∀i bx,(i,bx)∈bs->∃c,bx=.ar false c)->∀{bt β':Bt},(∀q∈qs,β' q.1=bt (1+q.2))->∀id bx b o,(id,bx)∈bs->β' id=some (b,o)->∀j,BR bx o j->∃k o',bt (k+1)=some (b,o')∧o'<=j:=by
  intro bs qs hb Ec bt β' hβ id bx b o hm JD j hj;have:id∈qs.map (·.1):=by rw[←hb];exact List.mem_map.2 ⟨_,hm,rfl⟩
  obtain⟨q,hq,rfl⟩:=List.mem_map.1 this;obtain⟨c,rfl⟩:=Ec _ _ hm;rw[hβ q hq,Nat.add_comm] at JD;exact⟨q.2,o,JD,hj⟩
 have nost:∀{bs:List (Nat × Bk)},(∀i bx,(i,bx)∈bs->∃c,bx=.ar false c)->Vb bs:=by
  intro bs Ec id cells hm;obtain⟨c,e⟩:=Ec id _ hm;cases e
 unfold inK at hk;split at hk
 ·rename_i e he;obtain⟨ps,rfl,Dn⟩:=FM hk;obtain⟨hi8,D6⟩:=Aj Dn;have hi8:i<8:=Nat.lt_of_succ_le (Nat.le_of_ble_eq_true hi8);obtain⟨cs,bs,qs,I2,hl,On,hb,J5,Ec,hF,Gw,hv⟩:=Mt D6;refine⟨_,_,(C3 N i,0)::qs.map (fun q=>(q.1,q.2+1)),I2,by simp only[List.map_cons,hb];simp,?_,fun _=>⟨List.mem_cons_self,hi8⟩,?_,?_,?_,fun w A bt β' u hβ hp=>?_⟩
  ·intro q hq q' Ex e;rcases List.mem_cons.1 hq with rfl|hq
   ·rcases List.mem_cons.1 Ex with rfl|Ex
    ·rfl
    ·obtain⟨q0,Qt,rfl⟩:=List.mem_map.1 Ex;simp only at e;omega
   ·obtain⟨q0,Qt,rfl⟩:=List.mem_map.1 hq;rcases List.mem_cons.1 Ex with rfl|Ex
    ·simp only at e;omega
    ·obtain⟨q1,Hn,rfl⟩:=List.mem_map.1 Ex;exact J5 q0 Qt q1 Hn (by simp only at e;omega)
  ·intro id bx hm;rcases List.mem_cons.1 hm with e|hm
   ·cases e;exact⟨trivial,fun _ _=>⟨rfl,rfl⟩⟩
   ·obtain⟨c,rfl⟩:=Ec id bx hm;exact⟨trivial,fun _ e=>by cases e⟩
  ·intro id Bf;simp only[Bo,B6,Am,List.mem_singleton] at Bf;subst Bf;exact⟨_,List.mem_cons_self⟩
  ·intro id cells hm c hc k hk;rcases List.mem_cons.1 hm with e|hm
   ·cases e;obtain⟨bx,I3⟩:=Gw c hc k hk;exact⟨bx,List.mem_cons_of_mem _ I3⟩
   ·obtain⟨c,e⟩:=Ec id _ hm;cases e
  ·obtain⟨b,o,h1,rfl,_,vs,h3,h4,h5⟩:=hp;have h0:=hβ (C3 N i,0) List.mem_cons_self;simp only at h0;have hβ1:∀q∈qs,β' q.1=bt (1+q.2):=fun q hq=>by rw[hβ _ (List.mem_cons_of_mem _ (List.mem_map_of_mem hq)),Nat.add_comm]
   obtain⟨h6,h7⟩:=hv w A bt β' 1 vs hβ1 h3;refine⟨⟨b,o,h0.trans h1,by simp⟩,fun id bx hm=>?_,fun id bx b' o' hm Gi j hj=>?_⟩
   ·rcases List.mem_cons.1 hm with e|hm
    ·cases e;refine⟨b,o,h0.trans h1,fun k c hk=>?_,fun k hk=>h5 k (by omega)⟩
     obtain⟨v,hv,NN⟩:=h6.get hk;exact⟨v,h4 k v hv,NN⟩
    ·exact h7 id bx hm
   ·rcases List.mem_cons.1 hm with e|hm
    ·cases e;rw[h0] at Gi;have hj:o'<=j∧j<o'+cs.length:=hj;exact .inr ⟨o',ps,Gi,hj.1,.inl ⟨rfl,by omega⟩⟩
    ·exact .inl (owns hb Ec hβ1 id bx b' o' hm Gi j hj)
 ·split at hk
  ·rename_i ps;obtain⟨e,he,Dn⟩:=B3 hk;obtain⟨hi8,D6⟩:=Aj Dn;have hi8:i<8:=Nat.lt_of_succ_le (Nat.le_of_ble_eq_true hi8);obtain⟨q,qr,hq,I2⟩:=A6 D6;subst hq;obtain⟨Uh,Qw⟩:=C6 I2;subst Uh;unfold NY at Qw;split at Qw
   ·rename_i es' n c;cases hb:Nat.beq es' (A7 P e)<;>rw[hb] at Qw
    ·cases Qw
    ·have Qp:=Nat.eq_of_beq_eq_true hb;subst Qp;refine⟨_,_,[(C3 N i,0)],Qw,rfl,by simp,fun _=>⟨by simp,hi8⟩,?_,?_,?_,fun w A bt β' u hβ hp=>?_⟩
     ·intro id bx hm;simp only[List.mem_singleton] at hm;cases hm;exact⟨trivial,fun _ e=>by cases e⟩
     ·intro id Bf;simp only[Bo,B6,Am,List.mem_singleton] at Bf;subst Bf;exact⟨_,List.mem_cons_self⟩
     ·intro id cells hm;simp only[List.mem_singleton] at hm;cases hm
     ·obtain⟨es,n',c',h1,h2⟩:=hp;cases h1;have h0:=hβ (C3 N i,0) List.mem_cons_self;simp only at h0;refine⟨?_,fun id bx hm=>?_,fun id bx b' o' hm Gi j hj=>?_⟩
      ·rcases h2 with⟨h3,rfl,_,h5⟩|⟨b,ob,cap,h3,h4,h5,h6,h7,_⟩
       ·exact .inl ⟨h0.trans h3,rfl,rfl,h5⟩
       ·exact .inr ⟨b,ob,ob,cap,h0.trans h3,h4,.inl rfl,h5,h6,h7⟩
      ·simp only[List.mem_singleton] at hm;cases hm;exact Tw h2 h0
      ·simp only[List.mem_singleton] at hm;cases hm;rw[h0] at Gi;exact .inr ⟨o',_,Gi,hj,.inr rfl⟩
   ·cases Qw
  ·rename_i PL;cases E5:B1 P t<;>rw[E5] at hk
   ·simp only[cond_false] at hk;obtain⟨cs,bs,qs,I2,hl,On,hb,J5,Ec,hF,Gw,hv⟩:=Mt hk;obtain⟨c,cs',Xx,Qw⟩:=A6 I2;subst Xx;obtain⟨Uh,PE⟩:=C6 Qw;subst Uh;have hFc:=hF c (by simp)
    have YS:Ub p=false∨∃ps,p=.pbox ps:=by
     cases p<;>first|exact .inl rfl|exact .inr ⟨_,rfl⟩|exact absurd rfl (PL _)
    have hpb:∀ps,p ≠ .pbox ps:=by
     rintro ps rfl
     cases JN:Gr P t with
     |nil=>rw[JN] at On;simp at On
     |cons t' ts=>
      rw[JN] at hk;unfold Vy YT at hk;obtain⟨q,qs1,hq,Dn⟩:=A6 hk;cases hq;cases t'<;>simp[Uz,Sa,Ak,Aq,Az,WN] at Dn
    have hpa:∀ps,p ≠ .agg ps:=by
     rintro ps rfl
     cases JN:Gr P t with
     |nil=>rw[JN] at On;simp at On
     |cons t' ts=>
      rw[JN] at hk;unfold Vy YT at hk;obtain⟨q,qs1,hq,Dn⟩:=A6 hk;cases hq;cases t'<;>simp[Uz,Sa,Ak,Aq,Az,WN] at Dn
    have YS:Ub p=false:=YS.elim id (fun ⟨ps,e⟩=>absurd e (hpb ps))
    have Rc:Bo c=Am c:=by cases c<;>first|rfl|exact hFc.elim
    refine⟨c,bs,qs.map (fun q=>(q.1,q.2+1)),PE,by rw[hb];simp,?_,(fun h=>by rw[YS] at h;cases h),?_,fun id Bf=>Gw c (by simp) id (by rw[←Rc];exact Bf),nost Ec,fun w A bt β' u hβ hp=>?_⟩
    ·intro q hq q' Ex e;obtain⟨q0,Qt,rfl⟩:=List.mem_map.1 hq;obtain⟨q1,Hn,rfl⟩:=List.mem_map.1 Ex;exact J5 q0 Qt q1 Hn (by simp only at e;omega)
    ·intro id bx hm;obtain⟨c,rfl⟩:=Ec id bx hm;exact⟨trivial,fun _ e=>by cases e⟩
    ·have Ck:Fd w A (bt 1) p u:=by cases p<;>first|exact hp.2|exact absurd rfl (hpa _)|exact absurd rfl (hpb _)|exact absurd rfl (PL _)
     have hβ1:∀q∈qs,β' q.1=bt (1+q.2):=fun q hq=>by rw[hβ _ (List.mem_map_of_mem hq),Nat.add_comm]
     obtain⟨h6,h7⟩:=hv w A bt β' 1 [u] hβ1 ⟨Ck,trivial⟩;refine⟨?_,h7,fun id bx b' o' hm Gi j hj=>.inl (owns hb Ec hβ1 id bx b' o' hm Gi j hj)⟩
     have h8:=h6.1;cases c<;>first|exact h8|exact hFc.elim
   ·simp only[cond_true] at hk;obtain⟨ps,Gn,Dn⟩:=F3 hk;subst Gn;obtain⟨cs,bs,qs,I2,hl,On,hb,J5,Ec,hF,Gw,hv⟩:=Mt Dn;refine⟨_,bs,qs.map (fun q=>(q.1,q.2+1)),I2,by rw[hb];simp,?_,(fun h=>by cases h),?_,fun id Bf=>?_,nost Ec,fun w A bt β' u hβ hp=>?_⟩
    ·intro q hq q' Ex e;obtain⟨q0,Qt,rfl⟩:=List.mem_map.1 hq;obtain⟨q1,Hn,rfl⟩:=List.mem_map.1 Ex;exact J5 q0 Qt q1 Hn (by simp only at e;omega)
    ·intro id bx hm;obtain⟨c,rfl⟩:=Ec id bx hm;exact⟨trivial,fun _ e=>by cases e⟩
    ·obtain⟨c,hc,hi⟩:=List.mem_flatMap.1 (show id∈cs.flatMap Am from Bf)
     exact Gw c hc id hi
    ·obtain⟨vs,h1,_,h3⟩:=hp;have hβ1:∀q∈qs,β' q.1=bt (1+q.2):=fun q hq=>by rw[hβ _ (List.mem_map_of_mem hq),Nat.add_comm]
     obtain⟨h6,h7⟩:=hv w A bt β' 1 vs hβ1 h3;exact⟨⟨vs,h1,h6⟩,h7,fun id bx b' o' hm Gi j hj=>.inl (owns hb Ec hβ1 id bx b' o' hm Gi j hj)⟩
theorem LW:∀{ts:List TypeId}{i:Nat}{ps:List PV}{K:List (Nat × PV)->List (Nat × Bk)->Option R},ZQ P N i ts ps K=some r ->
  ∃tms bs,∃qs:List (Nat × Nat × Nat),K tms bs=some r∧bs.map (·.1)=qs.map (·.1)∧(∀q∈qs,i<=q.2.1)∧(∀q∈qs,∀q'∈qs,q.2=q'.2->q.1=q'.1) ∧
   (∀k p,ps[k]?=some p->Ub p=true->(C3 N (i+k),i+k,0)∈qs∧i+k<8)∧(∀id bx,(id,bx)∈bs->Cu (some bx)∧∀c,bx=.st c->∃k p,ps[k]?=some p∧Ub p=true∧id=C3 N (i+k)) ∧
   (∀j,∀id∈Bo (lk tms j),∃bx,(id,bx)∈bs)∧Vb bs ∧
   ∀(w:World) (A:Nat->Prop) (bt:Ud) (β':Bt) (us:List Value),(∀q∈qs,β' q.1=bt q.2.1 q.2.2)->Iu w A bt i ps us ->
    (∀j,(∃u,i<=j∧us[j-i]?=some u∧Dx w A β' (lk tms j) u)∨(lk tms j=.top∧(i<=j->us[j-i]?=none)))∧(∀id bx,(id,bx)∈bs->N0 w A β' id bx) ∧
    ∀id bx b o,(id,bx)∈bs->β' id=some (b,o)->∀j,BR bx o j->∃k p,ps[k]?=some p∧Aky (bt (i+k)) p b j
 |[],i,ps,K,hk=>by
  obtain⟨Wt,hk⟩:=C6 hk;subst Wt;refine⟨[],[],[],hk,rfl,by simp,by simp,by simp,by simp,(fun j id Bf=>by cases Bf),(by intro i cells hm;cases hm),fun w A bt β' us _ h=>?_⟩
  cases us with
  |nil=>exact⟨fun j=>.inr ⟨rfl,fun _=>by simp⟩,by simp,by simp⟩
  |cons u us=>exact h.elim
 |t::ts,i,ps,K,hk=>by
  unfold ZQ at hk;obtain⟨p,ps',Wt,Dn⟩:=A6 hk;subst Wt;obtain⟨v,bs,qs,D6,hb,hqi,AE,I3,hr,QD,hv⟩:=Afy Dn;obtain⟨tms,bs',qs',I2,Gi,Anl,Ats,Ar2,Auq,hr',Aw5,Lj⟩:=LW D6;refine⟨(i,v)::tms,bs++bs',qs.map (fun q=>(q.1,i,q.2))++qs',I2,by simp only[List.map_append,hb,Gi];simp,?_,?_,?_,?_,?_,?_,fun w A bt β' us hβ hp=>?_⟩
  ·intro q hq;rcases List.mem_append.1 hq with hq|hq
   ·obtain⟨q0,Qt,rfl⟩:=List.mem_map.1 hq;exact Nat.le_refl _
   ·have:=Anl q hq;omega
  ·intro q hq q' Ex e;rcases List.mem_append.1 hq with hq|hq
   ·obtain⟨q0,Qt,rfl⟩:=List.mem_map.1 hq;rcases List.mem_append.1 Ex with Ex|Ex
    ·obtain⟨q1,Hn,rfl⟩:=List.mem_map.1 Ex;simp only[Prod.mk.injEq,true_and] at e;exact hqi q0 Qt q1 Hn e
    ·have:=Anl q' Ex;rw[←e] at this;simp only at this;omega
   ·have h5:=Anl q hq;rcases List.mem_append.1 Ex with Ex|Ex
    ·obtain⟨q1,Hn,rfl⟩:=List.mem_map.1 Ex;rw[e] at h5;simp only at h5;omega
    ·exact Ats q hq q' Ex e
  ·intro k p' I1 hL;cases k with
   |zero=>
    simp only[List.getElem?_cons_zero,Option.some.injEq] at I1;subst I1;obtain⟨h1,h2⟩:=AE hL;exact⟨List.mem_append.2 (.inl (List.mem_map.2 ⟨_,h1,rfl⟩)),h2⟩
   |succ k=>
    obtain⟨h1,h2⟩:=Ar2 k p' (by simpa using I1) hL
    rw[show i+1+k=i+(k+1) by omega] at h1 h2
    exact⟨List.mem_append.2 (.inr h1),h2⟩
  ·intro id bx hm;rcases List.mem_append.1 hm with hm|hm
   ·obtain⟨h1,h2⟩:=I3 id bx hm;exact⟨h1,fun c hc=>⟨0,p,rfl,(h2 c hc).2,(h2 c hc).1⟩⟩
   ·obtain⟨h1,h2⟩:=Auq id bx hm;refine⟨h1,fun c hc=>?_⟩
    obtain⟨k,p',h3,h4,h5⟩:=h2 c hc;exact⟨k+1,p',by simpa using h3,h4,by rw[h5,show i+1+k=i+(k+1) by omega]⟩
  ·intro j id Bf;unfold lk at Bf;cases hbq:Nat.beq j i<;>rw[hbq] at Bf
   ·obtain⟨bx,h1⟩:=hr' j id Bf;exact⟨bx,List.mem_append.2 (.inr h1)⟩
   ·obtain⟨bx,h1⟩:=hr id Bf;exact⟨bx,List.mem_append.2 (.inl h1)⟩
  ·intro id cells hm c hc k hk;rcases List.mem_append.1 hm with hm|hm
   ·obtain⟨bx,h1⟩:=QD id cells hm c hc k hk;exact⟨bx,List.mem_append.2 (.inl h1)⟩
   ·obtain⟨bx,h1⟩:=Aw5 id cells hm c hc k hk;exact⟨bx,List.mem_append.2 (.inr h1)⟩
  ·cases us with
   |nil=>exact hp.elim
   |cons u us=>
    obtain⟨h1,h2,h3⟩:=hv w A (bt i) β' u (fun q hq=>hβ _ (List.mem_append.2 (.inl (List.mem_map_of_mem hq)))) hp.1
    obtain⟨HR,h2',h3'⟩:=Lj w A bt β' us (fun q hq=>hβ q (List.mem_append.2 (.inr hq))) hp.2
    refine⟨fun j=>?_,fun id bx hm=>?_,fun id bx b o hm JD j hj=>?_⟩
    ·unfold lk;cases hbq:Nat.beq j i
     ·have Ee:=Jx hbq;simp only[cond_false];rcases HR j with⟨u',h4,h5,h6⟩|⟨h4,h5⟩
      ·refine .inl ⟨u',by omega,?_,h6⟩
       rw[show j-i=(j-(i+1))+1 by omega]
       simpa using h5
      ·refine .inr ⟨h4,fun hij=>?_⟩
       rw[show j-i=(j-(i+1))+1 by omega]
       simpa using h5 (by omega)
     ·have:=Nat.eq_of_beq_eq_true hbq;subst this;exact .inl ⟨u,Nat.le_refl _,by simp,h1⟩
    ·rcases List.mem_append.1 hm with hm|hm
     ·exact h2 id bx hm
     ·exact h2' id bx hm
    ·rcases List.mem_append.1 hm with hm|hm
     ·exact⟨0,p,rfl,h3 id bx b o hm JD j hj⟩
     ·obtain⟨k,p',h4,h5⟩:=h3' id bx b o hm JD j hj;exact⟨k+1,p',by simpa using h4,by rw[show i+(k+1)=i+1+k by omega];exact h5⟩
def QJ (bt:Ud)(args:List PV)(h8:∀k p,args[k]?=some p->Ub p=true->k<8):Gm:=
 ⟨VA bt,Yi bt args,fun i=>∃p,args[i]?=some p∧Ub p=true,fun i=>bt i 0,fun i ⟨p,h1,h2⟩=>h8 i p h1 h2⟩
theorem VL {ts:List TypeId}{args:List PV}{us:List Value}{bt:Ud}{K:List (Nat × PV)->List (Nat × Bk)->Option R} (Z2:Ins w Y bt args us)(hk:ZQ P N 0 ts args K=some r):
  ∃tms bs,K tms bs=some r∧(Bn (fun _=>none) bs=true->us.length<=N->∃(h8:∀k p,args[k]?=some p->Ub p=true->k<8),∃β0,
   Ci N w (QJ bt args h8) Y β0 ⟨lk tms,Jh bs⟩ { tmps:=us.toArray++Array.replicate (N-us.toArray.size) undef,defers:=[] } w):=by
 obtain⟨tms,bs,qs,Dn,hb,Qt,hqi,AE,I3,hr,QD,hv⟩:=LW hk;refine⟨tms,bs,Dn,fun Lq hN=>?_⟩
 have PD:=Nw Lq
 have h8:∀k p,args[k]?=some p->Ub p=true->k<8:=fun k p h1 h2=>by
  have:=(AE k p h1 h2).2;omega
 have AW:(qs.map (·.1)).Nodup:=by rw[←hb];exact PD
 obtain⟨β0,hβ0⟩:∃β0:Bt,∀q∈qs,β0 q.1=bt q.2.1 q.2.2:=by
  have:∀(l:List (Nat × Nat × Nat)),(l.map (·.1)).Nodup->∃β0:Bt,∀q∈l,β0 q.1=bt q.2.1 q.2.2:=by
   intro l
   induction l with
   |nil=>intro _;exact⟨fun _=>none,by simp⟩
   |cons q l ih=>
    intro hn;simp only[List.map_cons,List.nodup_cons] at hn;obtain⟨b1,h1⟩:=ih hn.2;refine⟨Ch b1 q.1 (bt q.2.1 q.2.2),fun q' Ex=>?_⟩
    rcases List.mem_cons.1 Ex with rfl|Ex
    ·exact Al _ _ _
    ·have Ee:q'.1≠q.1:=fun e=>hn.1 (by rw[←e];exact List.mem_map.2 ⟨q',Ex,rfl⟩)
     rw[Ai _ _ Ee];exact h1 q' Ex
  exact this qs AW
 refine⟨h8,β0,?_⟩;obtain⟨hs,JM,hL⟩:=hv w _ bt β0 us hβ0 Z2.args
 have hqm:∀id bx,(id,bx)∈bs->∃ik,(id,ik)∈qs∧β0 id=bt ik.1 ik.2:=by
  intro id bx hm;have:id∈qs.map (·.1):=by rw[←hb];exact List.mem_map.2 ⟨_,hm,rfl⟩
  obtain⟨q,hq,rfl⟩:=List.mem_map.1 this;exact⟨q.2,hq,hβ0 q hq⟩
 have hX:∀b,IF (Jh bs) β0 b->VA bt b:=by
  rintro b ⟨id,o,hl,hβ⟩
  cases hq:Jh bs id with
  |none=>rw[hq] at hl;exact hl.elim
  |some bx=>
   obtain⟨ik,_,h2⟩:=hqm id bx (J2 hq);rw[h2] at hβ;exact⟨_,_,_,hβ⟩
 have hA:∀b,Cs (Jh bs) β0 Y b->VA bt b∨Y b:=fun b hb=>hb.imp (hX b) id
 have Ada:∀{p:PV} {u:Value},Dx w (fun b=>VA bt b∨Y b) β0 p u->Dx w (Cs (Jh bs) β0 Y) β0 p u:=fun h=>h.step (B2.refl _ _) (fun b _=>hA b) (fun _ _=>rfl)
 refine⟨rfl,by simp;omega,fun i hi=>?_,fun i hi=>?_,?_,?_,?_,fun i hi id Bf=>?_,?_,fun b hb=>.inl (hX b hb),?_,?_,?_,fun b hY hXb=>Z2.Yx b hY (hX b hXb),Z2.Ylt,⟨rfl,rfl,rfl,B2.refl _ _,fun _ _ _ _=>⟨rfl,rfl⟩⟩⟩
 ·rcases hs i with⟨u,_,h,_⟩|⟨h,_⟩
  ·rw[Nat.sub_zero,List.getElem?_eq_none (by omega)] at h;cases h
  ·exact h
 ·rcases hs i with⟨u,_,h,hv⟩|⟨h,h'⟩
  ·rw[Nat.sub_zero] at h
   have B4:i<us.length:=by
    rcases Nat.lt_or_ge i us.length with h'|h'
    ·exact h'
    ·rw[List.getElem?_eq_none h'] at h;cases h
   have:(us.toArray++Array.replicate (N-us.toArray.size) undef).getD i undef=u:=by
    rw[Array.getD_eq_getD_getElem?,Array.getElem?_append_left (by simpa using B4)]
    simp[h]
   show Dx w _ _ _ ((us.toArray++Array.replicate (N-us.toArray.size) undef).getD i undef);rw[this];exact Ada hv
  ·show Dx w _ _ (lk tms i) _;rw[h];exact Ar.top _
 ·intro id bx hq;exact (JM id bx (J2 hq)).step' hA
 ·intro id id' b o o' hl H1 hβ hβ';cases hq:Jh bs id with
  |none=>change Cu (Jh bs id) at hl;rw[hq] at hl;exact hl.elim
  |some bx=>
   cases Ex:Jh bs id' with
   |none=>change Cu (Jh bs id') at H1;rw[Ex] at H1;exact H1.elim
   |some bx'=>
    obtain⟨ik,h1,h2⟩:=hqm id bx (J2 hq);obtain⟨ik',HR,h2'⟩:=hqm id' bx' (J2 Ex);rw[h2] at hβ;rw[h2'] at hβ';obtain⟨h3,h4⟩:=Z2.inj _ _ _ _ b o o' hβ hβ';exact hqi _ h1 _ HR (Prod.ext h3 h4)
 ·intro id b o hn hβ;cases hq:Jh bs id with
  |none=>exact absurd hq hn
  |some bx=>
   obtain⟨ik,h1,h2⟩:=hqm id bx (J2 hq);rw[h2] at hβ;exact Z2.lt b ⟨_,_,_,hβ⟩
 ·obtain⟨bx,hm⟩:=hr i id Bf;show Jh bs id≠none;rw[JK PD hm];simp
 ·intro id cells hq c hc k hk;obtain⟨bx,hm⟩:=QD id cells (J2 hq) c hc k hk;show Jh bs k≠none;rw[JK PD hm];simp
 ·intro id bx b o hq hl hβ _ j hj;obtain⟨k,p,h1,h2⟩:=hL id bx b o (J2 hq) hβ j hj;rw[Nat.zero_add] at h2;exact⟨k,p,h1,h2⟩
 ·rintro i ⟨p,h1,h2⟩
  have h3:=(AE i p h1 h2).1;rw[Nat.zero_add] at h3;refine⟨?_,hβ0 _ h3⟩;have:C3 N i∈bs.map (·.1):=by rw[hb];exact List.mem_map.2 ⟨_,h3,rfl⟩
  obtain⟨⟨id,bx⟩,hm,e⟩:=List.mem_map.1 this;show Jh bs (C3 N i)≠none;rw[←e,JK PD hm];simp
 ·intro id c b o hq _ _;obtain⟨k,p,h1,h2,h3⟩:=(I3 id _ (J2 hq)).2 c rfl;rw[Nat.zero_add] at h3;exact⟨k,h3,p,h1,h2⟩
end
open Go.RowKit
def Ir (β:Bt)(l:List (Option Nat)) (j:Nat):Option (Nat × Nat):=((l[j]?).bind id).bind β
section
variable {R:Type} {r:R} {P:Program} {N:Nat} {w0:World} {X0:Gm} {Y:Nat->Prop} {β β':Bt} {s:St} {a:Act} {w w':World} {A:Nat->Prop}
def Aag (s:St)(l:List (Option Nat)):Prop:=∀id,some id∈l->Cu (s.hp id)
def Jf (s:St)(z:List Nat):Prop:=∀id∈z,∃f c,s.hp id=some (.ar f c)
theorem FJ (h : Ci N w0 X0 Y β s a w) {shr : Bool} {t : CT} {p : PV} {K : PV -> List Nat -> List Nat -> Option R} (hk : TO shr s.hp t p K = some r) :
    ∃ c q z, K c (Option.toList q) z = some r ∧ (∀ x, c ≠ .agg x ∧ c ≠ .pbox x) ∧ BV p ∧ (∀ id, q = some id -> ∃ c, s.hp id = some (.ar false c)) ∧ Jf s z ∧
      ∀ (fz : List Nat) A u, (∀ i ∈ z, i ∈ fz) -> Jf s fz -> (∀ b, A b -> Cs (Af s.hp fz) β Y b) -> Bu w (Cs s.hp β Y) β p u -> Fd w A (q.bind β) c u := by
  have notree : ∀ {c : PV}, Rb c -> ∀ x, c ≠ .agg x ∧ c ≠ .pbox x := fun hT x => ⟨Tf hT x, by rintro rfl; exact hT⟩
  unfold TO at hk
  cases shr <;> simp only[cond_true, cond_false] at hk
  · have tree : ∀ t', (∀ es, t' ≠ .sl es) -> (Uz t' p fun c => K c [] []) = some r -> ∃ c q z, K c (Option.toList q) z = some r ∧ (∀ x, c ≠ .agg x ∧ c ≠ .pbox x) ∧ BV p ∧ (∀ id, q = some id -> ∃ c, s.hp id = some (.ar false c)) ∧ Jf s z ∧
        ∀ (fz : List Nat) A u, (∀ i ∈ z, i ∈ fz) -> Jf s fz -> (∀ b, A b -> Cs (Af s.hp fz) β Y b) -> Bu w (Cs s.hp β Y) β p u -> Fd w A (q.bind β) c u := by
      intro t' Ee hk
      obtain⟨c, Dn, hT, Y6, hv⟩ := Ju hk
      refine⟨c, none, [], Dn, notree hT, M8 Y6, by simp, (by intro i hi; cases hi), fun fz A u _ _ hA hc => Hz hT ?_⟩
      exact (hv w _ β u hc).1.step (B2.refl _ _) (fun b _ hb => J9 (hA b hb))
    unfold Ah0 at hk
    cases t with
    | sl es =>
      dsimp only at hk
      split at hk
      · rename_i id es' off n
        cases hb : (Nat.beq es' es && Nat.beq off 0) <;> rw[hb] at hk
        · cases hk
        · simp only[Bool.and_eq_true] at hb
          have he := Nat.eq_of_beq_eq_true hb.1
          have ho := Nat.eq_of_beq_eq_true hb.2
          subst he ho
          simp only[cond_true] at hk
          split at hk
          · rename_i c h0
            obtain⟨hl, Dn⟩ := Aj hk
            refine⟨_, some id, [], Dn, by simp, trivial, fun i hi => by cases hi; exact⟨c, h0⟩, (by intro i hi; cases hi), fun fz A u _ _ hA hc => ?_⟩
            rcases hc with⟨h1, _, rfl, h4⟩ | ⟨b, o, x, cap, h1, h2, hx, h3, h4, h5⟩
            · exact .inl ⟨h1, rfl, by simp, h4⟩
            · have hx : x = o := by rcases hx with e | ⟨_, e⟩ <;> omega
              subst hx
              rcases h.box id _ h0 with⟨h6, _⟩ | ⟨b', o', h6, h7, h8, _⟩
              · rw[h1] at h6; cases h6
              · rw[h1] at h6
                cases h6
                refine .inr ⟨b, x, cap, h1, h2, h3, h4, h5, fun j q hq => ?_, fun j hj Ok => h8 rfl j hj Ok⟩
                rw[List.getElem?_take] at hq
                split at hq
                · obtain⟨v, hv, h9, ht⟩ := h7 j q hq
                  exact⟨v, hv, h9, ht.step (B2.refl _ _) (fun b _ hb => J9 (hA b hb))⟩
                · cases hq
          · cases hk
      · obtain⟨z, n, c, Dn, hp⟩ := Et hk
        obtain⟨hz, D6⟩ := Aj Dn
        subst hz
        have hpF : BV p := by rcases hp with e | ⟨e, _⟩ <;> (rw[e]; trivial)
        refine⟨_, none, [], D6, by simp, hpF, by simp, (by intro i hi; cases hi), fun fz A u _ _ _ hc => ?_⟩
        have hu : u = .slice none 0 0 := by
          rcases hp with rfl | ⟨rfl, _⟩
          · cases hc; rfl
          · exact Ar.val hc
        exact .inl ⟨rfl, rfl, rfl, none, hu⟩
    | int k => exact tree _ (by simp) hk
    | bool => exact tree _ (by simp) hk
    | str => exact tree _ (by simp) hk
    | any => exact tree _ (by simp) hk
  · obtain⟨c, m, Dn, hT, hF, hm, hv⟩ := Yj h hk
    exact⟨c, none, m, Dn, notree hT, hF, by simp, hm, fun fz A u h1 h2 hA hc => Hz hT ((hv fz h1 h2 u hc).1.step (B2.refl _ _) (fun b _ hb => hA b hb))⟩
structure Wq (s:St) (β:Bt) (Y:Nat->Prop) (w:World) (cs:List PV) (l:List (Option Nat)) (z:List Nat) (ps:List PV):Prop where
 len:l.length=cs.length
 pl:cs.length=ps.length
 na:∀c∈cs,∀x,c ≠ .agg x∧c ≠ .pbox x
 fr:∀p∈ps,BV p
 own:∀id,some id∈l->∃c,s.hp id=some (.ar false c)
 row:Jf s z
 sem:∀(fz:List Nat) A us,(∀i∈z,i∈fz)->Jf s fz->(∀b,A b->Cs (Af s.hp fz) β Y b)->Bb (Bu w (Cs s.hp β Y) β) ps us->∀own j0,(∀j,j<l.length->own (j0+j)=Ir β l j)->D8 w A own j0 cs us
theorem Wq.nil:Wq s β Y w [] [] [] []:=⟨rfl,rfl,by simp,by simp,by simp,(by intro i hi;cases hi),fun fz A us _ _ _ hu own j0 _=>by
 cases us with
 |nil=>trivial
 |cons u us=>exact hu.elim⟩
theorem Wq.cons {c p:PV}{q:Option Nat}{z zs:List Nat}{cs ps:List PV}{l:List (Option Nat)} (Vc:∀x,c ≠ .agg x∧c ≠ .pbox x)(hF:BV p)(hq:∀id,q=some id->∃c,s.hp id=some (.ar false c)) (hz:Jf s z)
  (hv:∀(fz:List Nat) A u,(∀i∈z,i∈fz)->Jf s fz->(∀b,A b->Cs (Af s.hp fz) β Y b)->Bu w (Cs s.hp β Y) β p u->Fd w A (q.bind β) c u) (H:Wq s β Y w cs l zs ps):Wq s β Y w (c::cs) (q::l) (z++zs) (p::ps):=by
 refine⟨by simp[H.len],by simp[H.pl],?_,?_,?_,?_,fun fz A us OG Lo hA hu own j0 Fa=>?_⟩
 ·intro x hx;rcases List.mem_cons.1 hx with rfl|hx
  ·exact Vc
  ·exact H.na x hx
 ·intro x hx;rcases List.mem_cons.1 hx with rfl|hx
  ·exact hF
  ·exact H.fr x hx
 ·intro id Bf;rcases List.mem_cons.1 Bf with e|Bf
  ·exact hq id e.symm
  ·exact H.own id Bf
 ·intro i hi;rcases List.mem_append.1 hi with hi|hi
  ·exact hz i hi
  ·exact H.row i hi
 ·cases us with
  |nil=>exact hu.elim
  |cons u us=>
   have h0:=Fa 0 (by simp)
   rw[Nat.add_zero] at h0;refine⟨?_,H.sem fz A us (fun i hi=>OG i (by simp[hi])) Lo hA hu.2 own (j0+1) fun j hj=>?_⟩
   ·rw[h0];exact hv fz A u (fun i hi=>OG i (by simp[hi])) Lo hA hu.1
   ·have:=Fa (j+1) (by simp;omega)
    rw[show j0+1+j=j0+(j+1) by omega,this]
    simp[Ir]
theorem Nn (h:Ci N w0 X0 Y β s a w){shr:Bool}:∀{ts:List CT}{ps:List PV}{K:List PV->List Nat->List Nat->Option R},Vd shr s.hp ts ps K=some r ->
  ∃cs l z,K cs (l.filterMap id) z=some r∧Wq s β Y w cs l z ps
 |[],[],K,hk=>⟨[],[],[],hk,Wq.nil⟩
 |[],_::_,K,hk=>by cases hk
 |_::_,[],K,hk=>by cases hk
 |t::ts,p::ps,K,hk=>by
  unfold Vd at hk;obtain⟨c,q,z,Dn,Vc,hF,hq,hz,hv⟩:=FJ h hk;obtain⟨cs,l,zs,D6,H⟩:=Nn h Dn;refine⟨c::cs,q::l,z++zs,?_,Wq.cons Vc hF hq hz hv H⟩;cases q<;>exact D6
theorem Vu (h:Ci N w0 X0 Y β s a w):∀{ts:List CT}{ws ps:List PV}{K:List PV->List Nat->List Nat->Option R},Xk s.hp ts ws ps K=some r ->
  ∃cs l z,K cs (l.filterMap id) z=some r∧cs.length=ws.length∧Wq s β Y w cs l z ps
 |[],[],[],K,hk=>⟨[],[],[],hk,rfl,Wq.nil⟩
 |[],_::_,_,K,hk=>by cases hk
 |[],[],_::_,K,hk=>by cases hk
 |_::_,[],_,K,hk=>by cases hk
 |_::_,_::_,[],K,hk=>by cases hk
 |t::ts,x::ws,p::ps,K,hk=>by
  unfold Xk at hk;obtain⟨c,q,z,Dn,Vc,hF,hq,hz,hv⟩:=FJ h hk;obtain⟨cs,l,zs,D6,hl,H⟩:=Vu h Dn;refine⟨c::cs,q::l,z++zs,?_,by simp[hl],Wq.cons Vc hF hq hz hv H⟩
  cases q<;>exact D6
theorem QZ {own:Bt}{zz j:Nat}{p:PV}{u:Value}(hp:∀x,p ≠ .agg x∧p ≠ .pbox x)(h:D8 w A own j [p] [u]):Ad1 w A own zz j p u:=by
 cases p<;>first|exact h.1|exact absurd rfl (hp _).1|exact absurd rfl (hp _).2
theorem SB (h:Ci N w0 X0 Y β s a w){id b o:Nat}{c cs:List PV}{l:List (Option Nat)} {z:List Nat}(h0:s.hp id=some (.st c)) (hβ:β id=some (b,o)) (H:Wq s β Y w cs l z c){fz:List Nat}{A:Nat->Prop}(h1:∀i∈z,i∈fz)(h2:Jf s fz)(hA:∀b,A b->Cs (Af s.hp fz) β Y b)
  {own:Bt} {j0:Nat} (Fa:∀j,j<l.length->own (j0+j)=Ir β l j):Abl w A own j0 b o cs:=by
 obtain⟨b',o',Ec,Gw,Rg⟩:=h.box id _ h0;rw[hβ] at Ec;cases Ec;refine⟨c.mapIdx (fun j _=>(w.cell? ⟨b,o+j,none⟩).getD undef),H.sem fz A _ h1 h2 hA ?_ own j0 Fa,?_,fun k hk=>Rg k (by have:=H.pl;omega)⟩
 ·refine Bb.of_at (by simp) fun j p v hp hv=>?_
  obtain⟨u,hu,NN⟩:=Gw j p hp;rw[List.getElem?_mapIdx,hp,Option.map_some,hu] at hv;simp at hv;subst hv;exact NN
 ·intro k v XN;rw[List.getElem?_mapIdx] at XN;cases hp:c[k]? with
  |none=>rw[hp] at XN;cases XN
  |some p=>
   obtain⟨u,hu,NN⟩:=Gw k p hp;rw[hp,Option.map_some,hu] at XN;simp at XN;subst XN;exact hu
theorem VV (h:Ci N w0 X0 Y β s a w){shr:Bool}{t:TypeId}{p:PV}{u:Value}(hp:Dx w (Cs s.hp β Y) β p u) {K:PV->List Nat->List Nat->Option R}(hk:YN P shr s.hp t p K=some r):
  ∃v l z,K v (l.filterMap id) z=some r∧l.length=UB v∧Aag s l∧Jf s z ∧
   ∀(fz:List Nat) A zz,(∀i∈z,i∈fz)->Jf s fz->(∀b,A b->Cs (Af s.hp fz) β Y b)->(∀id c b o,some id∈l->s.hp id=some (.st c)->β id=some (b,o)->zz<=b) ->
    ∀own j0,(∀j,j<l.length->own (j0+j)=Ir β l j)->Ad1 w A own zz j0 v u:=by
 unfold YN at hk;split at hk
 ·rename_i e he;split at hk
  ·rename_i id off;split at hk
   ·rename_i c h0;obtain⟨hof,Dn⟩:=Aj hk;have hof:=Nat.eq_of_beq_eq_true hof;subst hof;obtain⟨cs,l,z,D6,H⟩:=Nn h Dn;obtain⟨b,o,hβ,hu⟩:=hp;refine⟨.pbox cs,some id::l,z,D6,by simp only[UB,List.length_cons,H.len];omega,?_,H.row,fun fz A zz h1 h2 hA hz own j0 Fa=>?_⟩
    ·intro i hi;rcases List.mem_cons.1 hi with e|hi
     ·cases e;rw[h0];trivial
     ·obtain⟨c',Nv⟩:=H.own i hi;rw[Nv];trivial
    ·have h3:=Fa 0 (by simp)
     rw[Nat.add_zero] at h3;refine⟨b,o,by rw[h3];exact hβ,hz id c b o (by simp) h0 hβ,by rw[hu,Nat.add_zero],SB h h0 hβ H h1 h2 hA fun j hj=>?_⟩
     have:=Fa (j+1) (by simp;omega)
     rw[show j0+1+j=j0+(j+1) by omega,this]
     simp[Ir]
   ·cases hk
  ·cases hk
 ·cases E5:B1 P t<;>rw[E5] at hk<;>simp only[cond_true,cond_false] at hk
  ·obtain⟨cs,l,z,Dn,H⟩:=Nn h hk;obtain⟨c,cs',Xx,D6⟩:=A6 Dn;subst Xx;obtain⟨Uh,I2⟩:=C6 D6;subst Uh;have Vc:=H.na c (by simp)
   have BD:UB c=1:=by cases c<;>first|rfl|exact absurd rfl (Vc _).1|exact absurd rfl (Vc _).2
   have hF:=H.fr p (by simp)
   refine⟨c,l,z,I2,by rw[BD];exact H.len,fun i hi=>?_,H.row,fun fz A zz h1 h2 hA _ own j0 Fa=>QZ Vc (H.sem fz A [u] h1 h2 hA ⟨?_,trivial⟩ own j0 Fa)⟩
   ·obtain⟨c',Nv⟩:=H.own i hi;rw[Nv];trivial
   ·cases p<;>first|exact hp|exact hF.elim
  ·obtain⟨ps,Wt,Dn⟩:=F3 hk;subst Wt;obtain⟨cs,l,z,D6,H⟩:=Nn h Dn;obtain⟨vs,hu,Ob⟩:=hp;refine⟨.agg cs,l,z,D6,H.len,fun i hi=>?_,H.row,fun fz A zz h1 h2 hA _ own j0 Fa=>⟨vs,hu,H.sem fz A vs h1 h2 hA Ob own j0 Fa⟩⟩
   obtain⟨c',Nv⟩:=H.own i hi;rw[Nv];trivial
def II (P:Program)(tmps:Array Value)(w:World)(rv:ResultVar)(u:Value):Prop:=
  (match rv with
   |.tmp t=>(pure (tmps.getD t undef):Sem Value)
   |.cell a t=>do loadVar t (←asAddr (tmps.getD a undef))).run P w=.ok u w
theorem ZP (h:Ci N w0 X0 Y β s a w)(t:Nat):Dx w (Cs s.hp β Y) β (s.tm t) (a.tmps.getD t undef):=by
 rcases Nat.lt_or_ge t N with h'|h'
 ·exact h.tms t h'
 ·rw[h.tmo t h'];exact Ar.top _
theorem UI (h:Ci N w0 X0 Y β s a w){rv:ResultVar}{K:PV->Option R}(hk:Aa6 P s rv K=some r):∃p u,K p=some r∧II P a.tmps w rv u∧Dx w (Cs s.hp β Y) β p u:=by
 unfold Aa6 at hk;split at hk
 ·rename_i t;exact⟨_,_,hk,rfl,ZP h t⟩
 ·rename_i x t;obtain⟨v,ad,val,Dn,Cv,hl,hv,_⟩:=KQ h (ZP h x) hk;refine⟨v,val,Dn,?_,hv⟩;unfold II;simp[Cv,asAddr,hl]
theorem Re {l l':List (Option Nat)} {j:Nat}(h:j<l.length):Ir β (l++l') j=Ir β l j:=by
 unfold Ir;rw[List.getElem?_append_left h]
theorem Sb {l l':List (Option Nat)} {j:Nat}:Ir β (l++l') (l.length+j)=Ir β l' j:=by
 unfold Ir;rw[List.getElem?_append_right (by omega),Nat.add_sub_cancel_left]
theorem AM (h:Ci N w0 X0 Y β s a w){shr:Bool}:∀{rs:List ResultVar}{ts:List TypeId}{K:List PV->List Nat->List Nat->Option R},HZ P shr s rs ts K=some r ->
  ∃vs l z us,K vs (l.filterMap id) z=some r∧Bb (II P a.tmps w) rs us∧l.length=Ja vs∧Aag s l∧Jf s z ∧
   ∀(fz:List Nat) A zz,(∀i∈z,i∈fz)->Jf s fz->(∀b,A b->Cs (Af s.hp fz) β Y b)->(∀id c b o,some id∈l->s.hp id=some (.st c)->β id=some (b,o)->zz<=b) ->
    ∀own j0,(∀j,j<l.length->own (j0+j)=Ir β l j)->EL w A own zz j0 vs us
 |[],[],K,hk=>⟨[],[],[],[],hk,trivial,rfl,(by intro id Bf;cases Bf),(by intro id Bf;cases Bf),fun _ _ _ _ _ _ _ _ _ _=>trivial⟩
 |[],_::_,K,hk=>by cases hk
 |_::_,[],K,hk=>by cases hk
 |rv::rs,t::ts,K,hk=>by
  unfold HZ at hk;obtain⟨p,u,Dn,hu,hp⟩:=UI h hk;obtain⟨v,l,z,D6,hl,hL,hz,hv⟩:=VV h hp Dn;obtain⟨vs,l',z',us,I2,XQ,H1,XJ,XC,Ob⟩:=AM h D6;refine⟨v::vs,l++l',z++z',u::us,?_,⟨hu,XQ⟩,by simp only[List.length_append,Ja,List.map_cons,List.sum_cons,hl];rw[H1];rfl,?_,?_,fun fz A zz h1 h2 hA E8 own j0 Fa=>⟨?_,?_⟩⟩
  ·rw[List.filterMap_append];exact I2
  ·intro id Bf;rcases List.mem_append.1 Bf with Bf|Bf
   ·exact hL id Bf
   ·exact XJ id Bf
  ·intro id Bf;rcases List.mem_append.1 Bf with Bf|Bf
   ·exact hz id Bf
   ·exact XC id Bf
  ·exact hv fz A zz (fun i hi=>h1 i (by simp[hi])) h2 hA (fun id c b o hi=>E8 id c b o (by simp[hi])) own j0 fun j hj=>by rw[Fa j (by simp;omega),Re hj]
  ·refine Ob fz A zz (fun i hi=>h1 i (by simp[hi])) h2 hA (fun id c b o hi=>E8 id c b o (by simp[hi])) own (j0+UB v) fun j hj=>?_
   rw[←hl,Nat.add_assoc,Fa (l.length+j) (by simp;omega),Sb]
theorem Na (h:Ci N w0 X0 Y β s a w){bt:Ud}(hpt:∀i,X0.pt i=bt i 0):∀{ts:List TypeId}{i:Nat}{ps:List PV}{K:List (List PV)->List Nat->List Nat->List Nat->Option R},Ui P N s.hp i ts ps K=some r ->
  (∀k p,ps[k]?=some p->Ub p=true->X0.pn (i+k)) ->
  ∃os l z q,K os (l.filterMap id) z q=some r∧(∀id,some id∈l->∃c,s.hp id=some (.ar false c))∧Jf s z∧(∀id∈q,Cu (s.hp id))∧(∀k p,ps[k]?=some p->Ub p=true->C3 N (i+k)∈q) ∧
   ∀(fz:List Nat) A,(∀i∈z,i∈fz)->Jf s fz->(∀i∈q,i ∉ fz)->(∀b,A b->Cs (Af s.hp fz) β Y b) ->
    ∀own j0,(∀j,j<l.length->own (j0+j)=Ir β l j)->Q4 w A own bt j0 i ps os
 |[],i,ps,K,hk,_=>by
  obtain⟨Wt,hk⟩:=C6 hk;subst Wt;exact⟨[],[],[],[],hk,by simp,(by intro id Bf;cases Bf),by simp,by simp,fun _ _ _ _ _ _ _ _ _=>rfl⟩
 |t::ts,i,ps,K,hk,hpn=>by
  unfold Ui at hk;obtain⟨p,ps',Wt,Dn⟩:=A6 hk;subst Wt
  have Air:∀k p,ps'[k]?=some p->Ub p=true->X0.pn (i+1+k):=fun k p' h1 h2=>by
   have:=hpn (k+1) p' (by simpa using h1) h2
   rw[show i+1+k=i+(k+1) by omega]
   exact this
  have hpq:∀{q:List Nat},(Ub p=true->C3 N i∈q)->(∀k p,ps'[k]?=some p->Ub p=true->C3 N (i+1+k)∈q)->∀k p',(p::ps')[k]?=some p'->Ub p'=true->C3 N (i+k)∈q:=by
   intro q h1 h2 k p' h3 h4;cases k with
   |zero=>
    simp only[List.getElem?_cons_zero,Option.some.injEq] at h3;subst h3;exact h1 h4
   |succ k=>
    have:=h2 k p' (by simpa using h3) h4
    rw[show i+1+k=i+(k+1) by omega] at this
    exact this
  split at Dn
  ·rename_i ws;obtain⟨e,he,D6⟩:=B3 Dn;split at D6
   ·rename_i c h0;obtain⟨cs,l,z,I2,J4,H⟩:=Vu h D6;obtain⟨os,l',z',q,Qw,XJ,XC,Ex,hpi,hv⟩:=Na h hpt I2 Air;refine⟨cs::os,l++l',z++z',C3 N i::q,by rw[List.filterMap_append];exact Qw,?_,?_,?_,hpq (fun _=>List.mem_cons_self) (fun k p h1 h2=>List.mem_cons_of_mem _ (hpi k p h1 h2)),fun fz A h1 h2 h3 hA own j0 Fa=>?_⟩
    ·intro id Bf;rcases List.mem_append.1 Bf with Bf|Bf
     ·exact H.own id Bf
     ·exact XJ id Bf
    ·intro id Bf;rcases List.mem_append.1 Bf with Bf|Bf
     ·exact H.row id Bf
     ·exact XC id Bf
    ·intro id Bf;rcases List.mem_cons.1 Bf with rfl|Bf
     ·rw[h0];trivial
     ·exact Ex id Bf
    ·have AE:=(h.pin i (by have:=hpn 0 _ rfl rfl;rwa [Nat.add_zero] at this)).2
     obtain⟨b,o,Ec,_,_⟩:=h.box _ _ h0;rw[Ec,hpt] at AE;refine⟨⟨b,o,AE.symm,J4,SB h h0 Ec H (fun i hi=>h1 i (by simp[hi])) h2 hA fun j hj=>by rw[Fa j (by simp;omega),Re hj]⟩,?_⟩
     refine hv fz A (fun i hi=>h1 i (by simp[hi])) h2 (fun i hi=>h3 i (by simp[hi])) hA own (j0+cs.length) fun j hj=>?_
     rw[←H.len,Nat.add_assoc,Fa (l.length+j) (by simp;omega),Sb]
   ·cases D6
  ·split at Dn
   ·rename_i c h0;obtain⟨os,l',z',q,Qw,XJ,XC,Ex,hpi,hv⟩:=Na h hpt Dn Air;refine⟨c::os,l',z',C3 N i::q,Qw,XJ,XC,?_,hpq (fun _=>List.mem_cons_self) (fun k p h1 h2=>List.mem_cons_of_mem _ (hpi k p h1 h2)),fun fz A h1 h2 h3 hA own j0 Fa=>⟨?_,hv fz A h1 h2 (fun i hi=>h3 i (by simp[hi])) hA own j0 Fa⟩⟩
    ·intro id Bf;rcases List.mem_cons.1 Bf with rfl|Bf
     ·rw[h0];trivial
     ·exact Ex id Bf
    ·have AE:=(h.pin i (by have:=hpn 0 _ rfl rfl;rwa [Nat.add_zero] at this)).2
     rw[hpt] at AE;rcases h.box _ _ h0 with⟨h4,h5⟩|⟨b,o,h4,h5,h6,_⟩
     ·exact .inl ⟨by rw[←AE];exact h4,h5⟩
     ·exact .inr ⟨b,o,by rw[←AE];exact h4,h5.weak (fun b _ hb=>J9 (hA b hb)),h6 rfl⟩
   ·cases Dn
  ·rename_i NE hn2;have YS:Ub p=false:=by cases p<;>first|rfl|exact absurd rfl (NE _)|exact absurd rfl (hn2 _)
   obtain⟨os,l',z',q,Qw,XJ,XC,Ex,hpi,hv⟩:=Na h hpt Dn Air;refine⟨os,l',z',q,Qw,XJ,XC,Ex,hpq (fun e=>by rw[YS] at e;cases e) hpi,fun fz A h1 h2 h3 hA own j0 Fa=>?_⟩
   have:=hv fz A h1 h2 h3 hA own j0 Fa;cases p<;>first|exact this|cases YS
theorem KU {f:ResultVar->Sem Value}:∀{rs:List ResultVar}{us:List Value},Bb (fun rv u=>(f rv).run P w=.ok u w) rs us->(rs.mapM f).run P w=.ok us w
 |[],[],_=>by simp
 |[],_::_,h=>h.elim
 |_::_,[],h=>h.elim
 |rv::rs,u::us,h=>by
  rw[List.mapM_cons];simp[h.1,KU h.2]
theorem MM {fn:Func}{us:List Value}(h:Bb (II P a.tmps w) fn.results.toList us):(results fn a.tmps).run P w=.ok (Gq us) w:=by
 unfold results;rw[Array.mapM_eq_mapM_toList];simp only[map_eq_pure_bind,bind_assoc,pure_bind,Sem.run_bind];refine Eq.trans (congrArg (fun x=>Result.andThen x _) (KU h)) ?_
 simp only[Result.andThen_ok,Sem.run_pure]
 congr 1
 clear h
 match us with
 |[]=>rfl
 |[u]=>rfl
 |u::v::us=>exact dif_neg (by simp)
theorem KV:∀{l:List (Option Nat)},Dp (l.filterMap id)=true->∀{j j' i:Nat},l[j]?=some (some i)->l[j']?=some (some i)->j=j'
 |[],_,j,j',i,h,_=>by simp at h
 |q::l,hn,j,j',i,h,h'=>by
  have hn':Dp (l.filterMap id)=true:=by
   cases q with
   |none=>exact hn
   |some x=>
    simp only[List.filterMap_cons,id_eq,Dp,Bool.and_eq_true] at hn;exact hn.2
  have hq:∀(x k:Nat),q=some x->l[k]?≠some (some x):=by
   intro x k e hk;subst e;simp only[List.filterMap_cons,id_eq,Dp,Bool.and_eq_true,Bool.not_eq_true'] at hn;exact Nr hn.1 (List.mem_filterMap.2 ⟨some x,List.mem_of_getElem? hk,rfl⟩)
  cases j with
  |zero=>
   cases j' with
   |zero=>rfl
   |succ k'=>
    simp at h h';exact absurd h' (hq i k' h)
  |succ k=>
   cases j' with
   |zero=>
    simp at h h';exact absurd h (hq i k h')
   |succ k'=>
    simp at h h';rw[KV hn' h h']
theorem DG {C:Ft}{f:FuncId}{fn:Func}{args:List PV}{res:Ay}{w:World}{Y:Nat->Prop}{bt:Ud}{us:List Value}(Z2:Ins w Y bt args us){h8:∀k p,args[k]?=some p->Ub p=true->k<8}
  {s':St} {a':Act} {w':World} {β':Bt} (hr:UO C P f fn args s'=some res) (h:Ci fn.ntmps w (QJ bt args h8) Y β' s' a' w'):
  a'.defers=[]∧∃v,(results fn a'.tmps).run P w'=.ok v w'∧∃vs own,Ending.returned v=.returned (Gq vs)∧Out w w' Y bt args own res vs:=by
 unfold UO at hr;obtain⟨vs,l,z,us',BB,XQ,hll,hL,hz,hv⟩:=AM h hr;obtain⟨os,l',z',q,EZ,XJ,XC,hq,hpi,Lj⟩:=Na h (bt:=bt) (fun _=>rfl) BB (fun k p h1 h2=>by rw[Nat.zero_add];exact⟨p,h1,h2⟩)
 obtain⟨hnd,SY⟩:=Aj EZ;cases SY;simp only[Bool.and_eq_true] at hnd;obtain⟨hnd,Aio⟩:=hnd;obtain⟨NE,hn2,hn3⟩:=G2 hnd
 have Um:∀i∈z++z',i ∉ (l.filterMap id++l'.filterMap id)++q:=by
  intro i hi Hv;have:=List.all_eq_true.1 Aio i hi;have h2:((l.filterMap id++l'.filterMap id)++q).any (Nat.beq i)=true:=List.any_eq_true.2 ⟨i,Hv,Nat.beq_refl i⟩;rw[h2] at this;cases this
 have VI:Jf s' (z++z'):=by
  intro i hi;rcases List.mem_append.1 hi with hi|hi
  ·exact hz i hi
  ·exact XC i hi
 refine⟨h.dfr,Gq us',MM XQ,us',Ir β' (l++l'),rfl,?_⟩;have A0a:Dp ((l++l').filterMap id)=true:=by rw[List.filterMap_append];exact NE
 have Fa:∀j b o,Ir β' (l++l') j=some (b,o)->∃id,(l++l')[j]?=some (some id)∧β' id=some (b,o):=by
  intro j b o hj;unfold Ir at hj;cases hlj:(l++l')[j]? with
  |none=>rw[hlj] at hj;cases hj
  |some q=>
   cases q with
   |none=>rw[hlj] at hj;cases hj
   |some id=>
    rw[hlj] at hj;exact⟨id,rfl,hj⟩
 have H7:∀(j i:Nat),(l++l')[j]?=some (some i)->i∈l.filterMap id++l'.filterMap id:=by
  intro j i hj;rw[←List.filterMap_append];exact List.mem_filterMap.2 ⟨some i,List.mem_of_getElem? hj,rfl⟩
 have Fk:∀(j i:Nat),(l++l')[j]?=some (some i)->Cu (s'.hp i):=by
  intro j i hj;rcases List.mem_append.1 (List.mem_of_getElem? hj) with Hv|Hv
  ·exact hL i Hv
  ·obtain⟨c,hc⟩:=XJ i Hv;rw[hc];trivial
 have Ahn:∀i,i∈(l.filterMap id++l'.filterMap id)++q->Af s'.hp (z++z') i=s'.hp i:=by
  intro i hi;rw[Bq,if_neg (fun Hv=>Um i Hv hi)]
 have Ahr:∀i b o,bt i 0=some (b,o)->C3 fn.ntmps i∈q∧Cu (s'.hp (C3 fn.ntmps i))∧β' (C3 fn.ntmps i)=some (b,o):=by
  intro i b o CY;obtain⟨p,h1,h2⟩:=Z2.l0 i _ CY;have h3:=hpi i p h1 h2;rw[Nat.zero_add] at h3;exact⟨h3,hq _ h3,(h.pin i ⟨p,h1,h2⟩).2.trans CY⟩
 have hAO:∀b,AA bt (Ir β' (l++l')) Y b->Cs (Af s'.hp (z++z')) β' Y b:=by
  rintro b (⟨j,o,hj⟩|⟨i,o,CY⟩|hY)
  ·obtain⟨id,h1,h2⟩:=Fa j b o hj;refine .inl ⟨id,o,?_,h2⟩;rw[Ahn id (List.mem_append.2 (.inl (H7 j id h1)))];exact Fk j id h1
  ·obtain⟨h1,h2,h3⟩:=Ahr i b o CY;refine .inl ⟨_,o,?_,h3⟩;rw[Ahn _ (List.mem_append.2 (.inr h1))];exact h2
  ·exact .inr hY
 have Rw:∀(j id b o:Nat),(l++l')[j]?=some (some id)->β' id=some (b,o)->b<w.heap.size->∃i k o',bt i (k+1)=some (b,o'):=by
  intro j id b o hj hβ B4;rcases h.ownd b ⟨id,o,Fk j id hj,hβ⟩ with⟨i,k,o',CY⟩|XX
  ·cases k with
   |zero=>
    obtain⟨h1,h2,h3⟩:=Ahr i b o' CY;have:=h.inj id _ b o o' (Fk j id hj) h2 hβ h3;subst this;exact absurd h1 (hn3 _ (H7 j _ hj))
   |succ k=>exact⟨i,k,o',CY⟩
  ·omega
 refine⟨h.fr.os,h.fr.tape,h.fr.output,h.fr.step,h.fr.rng,?_,?_,?_,?_⟩
 ·refine hv (z++z') _ _ (fun i hi=>List.mem_append.2 (.inl hi)) VI hAO (fun id c b o hi hc hβ=>?_) _ 0 (fun j hj=>by rw[Nat.zero_add,Re hj])
  rcases Nat.lt_or_ge b w.heap.size with B4|XX
  ·obtain⟨k,I1,p,h1,h2⟩:=h.stp id c b o hc hβ B4;have h3:=hpi k p h1 h2;rw[Nat.zero_add,←I1] at h3;obtain⟨j,hj⟩:=List.mem_iff_getElem?.1 hi;refine absurd h3 (hn3 id ?_);exact List.mem_append.2 (.inl (List.mem_filterMap.2 ⟨some id,hi,rfl⟩))
  ·exact XX
 ·refine Lj (z++z') _ (fun i hi=>List.mem_append.2 (.inr hi)) VI (fun i hi Hv=>Um i Hv (List.mem_append.2 (.inr hi))) hAO _ _ (fun j hj=>?_)
  rw[←hll,Sb]
 ·intro j b o hj;obtain⟨id,h1,h2⟩:=Fa j b o hj;refine⟨h.blt id b o (Cl (Fk j id h1)) h2,fun B4=>⟨Rw j id b o h1 h2 B4,fun x hx=>?_⟩⟩
  cases I3:s'.hp id with
  |none=>have:=Fk j id h1;rw[I3] at this;exact this.elim
  |some bx=>
   have AC:=Fk j id h1;rw[I3] at AC;cases bx with
   |st c=>
    obtain⟨k,I1,p,h3,h4⟩:=h.stp id c b o I3 h2 B4;have h5:=hpi k p h3 h4;rw[Nat.zero_add,←I1] at h5;exact absurd h5 (hn3 _ (H7 j _ h1))
   |ar fz c=>exact h.rngB id _ b o I3 AC h2 B4 x hx
   |mv=>exact AC.elim
 ·intro j j' b o o' hj Ok;obtain⟨id,h1,h2⟩:=Fa j b o hj;obtain⟨id',HR,h2'⟩:=Fa j' b o' Ok;have:=h.inj id id' b o o' (Fk j id h1) (Fk j' id' HR) h2 h2';subst this;exact KV A0a h1 HR
theorem QX {G:R0}(Ie:NoNG P)(hm:P.follows .mixedOrders=true){C:Ft}{fu:Nat}{call:Ax}(Df:∀f args res,call f args=some res->Cy G P f args res){f:FuncId}{fn:Func}{c:Code}(hf:P.funcs[f]?=some fn) (hb:fn.body=some c)
  {args:List PV} {res:Ay} (hk:Aik C P fu call f fn c args=some res):Cy G P f args res:=by
 refine⟨⟨fn,hf,by rw[hb];rfl⟩,fun w Y bt us Z2 hG hGY=>?_⟩
 unfold Aik at hk;obtain⟨tms,bs,Dn,E8⟩:=VL Z2 hk;obtain⟨Ec,D6⟩:=Aj Dn;simp only[Bool.and_eq_true] at Ec
 have Dd:us.length<=fn.ntmps:=by
  rw[←Z2.args.len];exact Nat.le_of_ble_eq_true Ec.1
 obtain⟨h8,β0,hs⟩:=E8 Ec.2 Dd;refine calls_of_wp hf hb ?_;have hE:KH P G w (QJ bt args h8):=⟨Ie,fun w' YE=>G.stable w w' (fun b hb B4=>YE.step.keep b B4 (hGY b hb).2) hG,hGY⟩
 refine OS hE Df hm c hs D6 (fun s' a' w' β' hr h=>DG Z2 hr h) (fun id s' a' w' β' hr h=>by cases hr) (fun s' a' w' β' hr h=>DG Z2 hr h)
def DY (G:R0)(P:Program)(C:Ft):Prop:=∀f g args res,C.ext f=some g->g args=some res->Cy G P f args res
theorem G6 {G:R0}(Ie:NoNG P)(hm:P.follows .mixedOrders=true){C:Ft}(hx:DY G P C){fu:Nat}:∀(d:Nat)(f:FuncId)(args:List PV)(res:Ay),Ae C P fu d f args=some res->Cy G P f args res
 |0,_,_,_,h=>by cases h
 |d+1,f,args,res,h=>by
  unfold Ae at h;split at h
  ·rename_i g hg;exact hx f g args res hg h
  ·split at h
   ·cases h
   ·rename_i fn hf;split at h
    ·cases h
    ·rename_i c hb;exact QX Ie hm (G6 Ie hm hx d) hf hb h
end
open Go.ChangeShapes Go.WideShapes Go.ChangeAt Go.RowKit Go.Deep
def IE (P:Program):List Field->Nat->Nat->Bool
 |[],i,n=>Nat.beq i n
 |f::r,i,n=>Nat.beq f.offset i&&IE P r (i+P.cellsOf f.type) n
def Jw (P:Program):Nat->TypeId->Bool
 |0,_=>false
 |d+1,t=>
  match P.underlying t with
  |some .bool=>true
  |some (.int _)=>true
  |some .string=>true
  |some (.slice e)=>Jw P d e&&Nat.blt 0 (P.cellsOf e)
  |some (.struct fs)=>IE P fs.toList 0 (P.cellsOf t)&&fs.toList.all fun f=>Jw P d f.type
  |some (.array n e)=>Nat.beq (P.cellsOf t) (n*P.cellsOf e)&&Jw P d e
  |_=>false
def WT (P:Program):Nat->TypeId->List PV->Prop
 |0,_,_=>False
 |d+1,t,ps=>
  match P.underlying t with
  |some .bool=>∃b,ps=[.sc (.bool b)]
  |some (.int k)=>∃n,ps=[.sc (.int k n)]∧(Lit.int k n).wf=true
  |some .string=>∃s:ByteArray,ps=[.sc (.string s)]∧s.size<=maxLen
  |some (.slice e)=>∃rows:List (List PV),ps=[.lst false (P.cellsOf e) rows.length rows.flatten]∧rows.length<=maxLen∧∀r∈rows,r.length=P.cellsOf e∧WT P d e r
  |some (.struct fs)=>∃rows:List (List PV),ps=rows.flatten∧Bb (fun f r=>WT P d f.type r) fs.toList rows
  |some (.array n e)=>∃rows:List (List PV),ps=rows.flatten∧rows.length=n∧∀r∈rows,r.length=P.cellsOf e∧WT P d e r
  |_=>False
def WTv (P:Program)(t:TypeId)(p:PV):Prop:=
 match B1 P t with
 |true=>∃ps,p=.agg ps∧WT P 12 t ps
 |false=>WT P 12 t [p]
section
variable {P:Program} {d:Nat} {t e:TypeId} {ps:List PV}
theorem Aeu (hu:P.underlying t=some .bool):WT P (d+1) t ps↔∃b,ps=[.sc (.bool b)]:=by
 show (match P.underlying t with|some .bool=>_|some (.int k)=>_|some .string=>_|some (.slice e)=>_|some (.struct fs)=>_|some (.array n e)=>_|_=>_)↔_
 rw[hu]
theorem Alq {k:IntKind}(hu:P.underlying t=some (.int k)):WT P (d+1) t ps↔∃n,ps=[.sc (.int k n)]∧(Lit.int k n).wf=true:=by
 show (match P.underlying t with|some .bool=>_|some (.int k)=>_|some .string=>_|some (.slice e)=>_|some (.struct fs)=>_|some (.array n e)=>_|_=>_)↔_
 rw[hu]
theorem ED (hu:P.underlying t=some .string):WT P (d+1) t ps↔∃s:ByteArray,ps=[.sc (.string s)]∧s.size<=maxLen:=by
 show (match P.underlying t with|some .bool=>_|some (.int k)=>_|some .string=>_|some (.slice e)=>_|some (.struct fs)=>_|some (.array n e)=>_|_=>_)↔_
 rw[hu]
theorem Abm (hu:P.underlying t=some (.slice e)):WT P (d+1) t ps↔∃rows:List (List PV),ps=[.lst false (P.cellsOf e) rows.length rows.flatten]∧rows.length<=maxLen∧∀r∈rows,r.length=P.cellsOf e∧WT P d e r:=by
 show (match P.underlying t with|some .bool=>_|some (.int k)=>_|some .string=>_|some (.slice e)=>_|some (.struct fs)=>_|some (.array n e)=>_|_=>_)↔_
 rw[hu]
theorem TX {fs:Array Field}(hu:P.underlying t=some (.struct fs)):WT P (d+1) t ps↔∃rows:List (List PV),ps=rows.flatten∧Bb (fun f r=>WT P d f.type r) fs.toList rows:=by
 show (match P.underlying t with|some .bool=>_|some (.int k)=>_|some .string=>_|some (.slice e)=>_|some (.struct fs)=>_|some (.array n e)=>_|_=>_)↔_
 rw[hu]
theorem ZY {n:Nat}(hu:P.underlying t=some (.array n e)):WT P (d+1) t ps↔∃rows:List (List PV),ps=rows.flatten∧rows.length=n∧∀r∈rows,r.length=P.cellsOf e∧WT P d e r:=by
 show (match P.underlying t with|some .bool=>_|some (.int k)=>_|some .string=>_|some (.slice e)=>_|some (.struct fs)=>_|some (.array n e)=>_|_=>_)↔_
 rw[hu]
end
inductive Ki where
 |bool
 |int (k:IntKind)
 |str
 |sl (e:TypeId)
 |st (ts:List TypeId)
 |ar (n:Nat) (e:TypeId)
 |no
def PK (P:Program)(t:TypeId):Ki:=
 match P.underlying t with
 |some .bool=>.bool
 |some (.int k)=>.int k
 |some .string=>.str
 |some (.slice e)=>.sl e
 |some (.struct fs)=>.st (fs.toList.map (·.type))
 |some (.array n e)=>.ar n e
 |_=>.no
section
variable {P:Program} {d:Nat} {t e:TypeId} {ps:List PV} {p:PV}
theorem Bb.cons_inv {α β:Type}{R:α->β->Prop}{a:α}{zs:List α}:∀{rs:List β},Bb R (a::zs) rs->∃r rs',rs=r::rs'∧R a r∧Bb R zs rs'
 |[],h=>h.elim
 |r::rs,h=>⟨r,rs,rfl,h.1,h.2⟩
theorem Bb.nil_inv {α β:Type}{R:α->β->Prop}:∀{rs:List β},Bb R ([]:List α) rs->rs=[]
 |[],_=>rfl
 |_::_,h=>h.elim
theorem Ajp (hk:PK P t=.str)(h:WT P d t ps):∃s:ByteArray,ps=[.sc (.string s)]∧s.size<=maxLen:=by
 cases d with
 |zero=>exact h.elim
 |succ d=>
 unfold PK at hk;split at hk<;>first|cases hk|skip
 rename_i hu;exact (ED hu).1 h
theorem Adm (hk:B1 P t=false)(h:WTv P t p):WT P 12 t [p]:=by
 unfold WTv at h;rw[hk] at h;exact h
theorem Agm (ha:B1 P t=false)(hk:PK P t=.str)(h:WTv P t p):∃s:ByteArray,p=.sc (.string s)∧s.size<=maxLen:=by
 obtain⟨b,e,h⟩:=Ajp hk (Adm ha h);exact⟨b,by injection e,h⟩
end
abbrev No:Nat->Prop:=fun _=>False
section
variable {H:Type} {enc:TypeId × Value->H} {P:Program} {w:World} {base:Nat} {held:Bool}
theorem Bb.flat {α β:Type}{R:α->β->Prop}:∀{l:List Nat}{f:Nat->List α}{g:Nat->List β},(∀i∈l,Bb R (f i) (g i))->Bb R (l.map f).flatten (l.map g).flatten
 |[],_,_,_=>trivial
 |i::l,f,g,h=>by
  simp only[List.map_cons,List.flatten_cons];exact (h i (by simp)).app (Bb.flat fun j hj=>h j (by simp[hj]))
theorem UG {a:Addr}{v:Value}(h:w.cell? a=some v):a.spot=none∧a.block<w.heap.size:=by
 unfold World.cell? at h;split at h
 ·rename_i c t f e;refine⟨?_,?_⟩
  ·cases hs:a.spot with
   |none=>rfl
   |some x=>rw[hs] at h;simp at h
  ·rcases Nat.lt_or_ge a.block w.heap.size with h1|h1
   ·exact h1
   ·rw[Array.getElem?_eq_none h1] at e;cases e
 ·cases h
theorem Zd {α:Type}{g:Nat->List α}{es:Nat}:∀{n:Nat},(∀i,i<n->(g i).length=es)->((List.range n).map g).flatten.length=n*es
 |0,_=>by simp
 |n+1,h=>by
  rw[List.range_succ,List.map_append,List.flatten_append,List.length_append,Zd (fun i hi=>h i (by omega))]
  simp[h n (by omega),Nat.succ_mul]
theorem Ys {a:Addr}{g:Nat->List Value}{es:Nat}:∀{n:Nat},(∀i,i<n->(g i).length=es)->(∀i,i<n->∀k,k<es->w.cell? (a.add (i*es+k))=(g i)[k]?) ->
  ∀j,j<n*es->w.cell? (a.add j)=(((List.range n).map g).flatten)[j]?
 |0,_,_,j,hj=>by omega
 |n+1,hl,hc,j,hj=>by
  have CQ:=Zd (fun i (hi:i<n)=>hl i (by omega))
  rw[List.range_succ,List.map_append,List.flatten_append,List.getElem?_append,CQ];rw[Nat.succ_mul] at hj;split
  ·rename_i h1;exact Ys (fun i hi=>hl i (by omega)) (fun i hi=>hc i (by omega)) j h1
  ·rename_i h1;have:=hc n (by omega) (j-n*es) (by omega)
   rw[show n*es+(j-n*es)=j by omega] at this
   simpa using this
abbrev TR (w:World)(c:PV)(v:Value):Prop:=(Rb c∧Ar w No c v)∧v.oneCell'=true
theorem V6 {d:Nat}{cs:List Value}{n:Nat}(hn:cs.length=n):∀(l:List Field)(i:Nat),IE P l i n=true ->
  (∀f∈l,∃ps,WT P d f.type ps∧Bb (TR w) ps ((cs.drop f.offset).take (P.cellsOf f.type)))->∃rows:List (List PV),Bb (fun f r=>WT P d f.type r) l rows∧Bb (TR w) rows.flatten (cs.drop i)
 |[],i,ho,_=>by
  have:=Nat.eq_of_beq_eq_true ho;refine⟨[],trivial,?_⟩;rw[List.drop_of_length_le (by omega)]
  trivial
 |f::l,i,ho,h=>by
  simp only[IE,Bool.and_eq_true] at ho;have ho1:=Nat.eq_of_beq_eq_true ho.1;obtain⟨ps,h1,h2⟩:=h f (by simp)
  obtain⟨rows,h3,h4⟩:=V6 hn l _ ho.2 fun g hg=>h g (by simp[hg])
  refine⟨ps::rows,⟨h1,h3⟩,?_⟩;rw[ho1] at h2;have:cs.drop i=(cs.drop i).take (P.cellsOf f.type)++cs.drop (i+P.cellsOf f.type):=by rw[←List.drop_drop];exact (List.take_append_drop _ _).symm
  rw[this,List.flatten_cons];exact h2.app h4
theorem Xy {d:Nat}{e:TypeId}{cs:List Value}{k:Nat}:∀(n:Nat),n*k<=cs.length ->
  (∀i,i<n->∃ps,(ps.length=k∧WT P d e ps)∧Bb (TR w) ps ((cs.drop (i*k)).take k))->∃rows:List (List PV),rows.length=n∧(∀r∈rows,r.length=k∧WT P d e r)∧Bb (TR w) rows.flatten (cs.take (n*k))
 |0,_,_=>⟨[],rfl,by simp,by simp[Bb]⟩
 |n+1,hl,h=>by
  rw[Nat.succ_mul] at hl;obtain⟨rows,h1,h2,h3⟩:=Xy n (by omega) fun i hi=>h i (by omega)
  obtain⟨ps,h4,h5⟩:=h n (by omega)
  refine⟨rows++[ps],by simp[h1],?_,?_⟩
  ·intro r hr;rcases List.mem_append.1 hr with hr|hr
   ·exact h2 r hr
   ·rw[List.mem_singleton.1 hr];exact h4
  ·rw[List.flatten_append,Nat.succ_mul,List.take_add];refine h3.app ?_
   simpa using h5
theorem Qi:∀(d:Nat)(t:TypeId),Jw P d t=true->∀(fuel:Nat)(cs:List Value)(x:DataW H × List MemPlace),DataW.trod enc P w base (fun _=>true) held fuel t cs=some x ->
  ∃ps,WT P d t ps∧Bb (TR w) ps cs
 |0,_,h,_,_,_,_=>by cases h
 |d+1,t,hp,fuel,cs,x,h=>by
  unfold Jw at hp;split at hp
  ·rename_i hu;obtain⟨b,rfl,_⟩:=DataW.trod_bool hu h;simp only[Aeu hu];exact⟨[.sc (.bool b)],⟨b,rfl⟩,⟨⟨trivial,Ar.sc _⟩,rfl⟩,trivial⟩
  ·rename_i k hu;obtain⟨n,rfl,_,hw⟩:=DataW.trod_int hu h;simp only[Alq hu];exact⟨[.sc (.int k n)],⟨n,rfl,hw⟩,⟨⟨trivial,Ar.sc _⟩,rfl⟩,trivial⟩
  ·rename_i hu;obtain⟨s,rfl,_,hw⟩:=DataW.trod_string hu h;simp only[ED hu];exact⟨[.sc (.string s)],⟨s,rfl,hw⟩,⟨⟨trivial,Ar.sc _⟩,rfl⟩,trivial⟩
  ·rename_i e hu;simp only[Bool.and_eq_true] at hp;have Qp:0<P.cellsOf e:=Nat.lt_of_succ_le (Nat.le_of_ble_eq_true hp.2);simp only[Abm hu];rcases open_slice hu h with⟨rfl,_⟩|⟨a,len,cap,m,n,D,Pl,rfl,_,hl,hm,OJ,_,hi⟩
   ·exact⟨[.lst false (P.cellsOf e) 0 []],⟨[],by simp,by simp,by simp⟩,⟨⟨trivial,Ar.lnil _ _⟩,rfl⟩,trivial⟩
   ·simp only[if_true] at OJ;subst OJ
    have OA:∀i,i<len->∃q:List PV × List Value,(q.2.length=P.cellsOf e∧(∀k,k<P.cellsOf e->w.cell? (a.add (i*P.cellsOf e+k))=q.2[k]?))∧WT P d e q.1∧Bb (TR w) q.1 q.2:=by
     intro i B4;obtain⟨cs',hc,ht⟩:=hi i (by omega)
     obtain⟨_,J4,hat⟩:=World.cells?_some hc;obtain⟨ps,h1,h2⟩:=Qi d e hp.1 _ _ _ ht;exact⟨(ps,cs'),⟨J4,fun k hk=>by rw[←Pv.add_add];exact hat k hk⟩,h1,h2⟩
    obtain⟨F,hF⟩:=choose_lt OA;refine⟨[.lst false (P.cellsOf e) len ((List.range len).map fun i=>(F i).1).flatten],⟨(List.range len).map fun i=>(F i).1,by simp,by simp;omega,?_⟩,⟨⟨trivial,?_⟩,rfl⟩,trivial⟩
    ·intro r hr;obtain⟨i,hi1,rfl⟩:=List.mem_map.1 hr;have hi2:=List.mem_range.1 hi1;exact⟨by rw[(hF i hi2).2.2.len];exact (hF i hi2).1.1,(hF i hi2).2.1⟩
    ·rcases Nat.eq_zero_or_pos len with h0|h0
     ·subst h0;exact Ar.lemp _ _ _
     ·have K7:Bb (TR w) ((List.range len).map fun i=>(F i).1).flatten ((List.range len).map fun i=>(F i).2).flatten:=Bb.flat fun i hi=>(hF i (List.mem_range.1 hi)).2.2
      have Cm:=Ys (w:=w) (a:=a) (g:=fun i=>(F i).2) (fun i hi=>(hF i hi).1.1) (fun i hi=>(hF i hi).1.2)
      have Dd:=Zd (g:=fun i=>(F i).2) (fun i (hi:i<len)=>(hF i hi).1.1)
      have h00:w.cell? a≠none:=by
       have:=Cm 0 (Nat.mul_pos h0 Qp);rw[show a.add 0=a by unfold Addr.add;simp] at this
       rw[this,List.getElem?_eq_getElem (by rw[Dd];exact Nat.mul_pos h0 Qp)]
       simp
      obtain⟨v0,hv0⟩:=Option.ne_none_iff_exists'.1 h00;obtain⟨hs,hb⟩:=UG hv0
      have key:∀j c,(((List.range len).map fun i=>(F i).1).flatten)[j]?=some c->∃v,w.cell? (a.add j)=some v∧TR w c v:=by
       intro j c hj
       have hlj:j<len*P.cellsOf e:=by
        rw[←Dd,←K7.len];rcases Nat.lt_or_ge j (((List.range len).map fun i=>(F i).1).flatten).length with h1|h1
        ·exact h1
        ·rw[List.getElem?_eq_none h1] at hj;cases hj
       have h1:=Cm j hlj;rw[List.getElem?_eq_getElem (by rw[Dd];exact hlj)] at h1
       exact⟨_,h1,K7.at_ hj (List.getElem?_eq_getElem (by rw[Dd];exact hlj))⟩
      refine Ar.lst _ _ _ a _ (fun j=>(w.cell? (a.add j)).getD undef) hs hb (fun h=>h) hl (fun j c hj=>?_) (fun j c hj=>?_) (fun j c hj=>?_)
      ·obtain⟨v,hv,_⟩:=key j c hj;rw[hv];rfl
      ·obtain⟨v,hv,ht⟩:=key j c hj;rw[hv];exact ht.2
      ·obtain⟨v,hv,ht⟩:=key j c hj;rw[hv];exact ht.1.2
  ·rename_i fs hu;simp only[Bool.and_eq_true] at hp;simp only[TX hu];obtain⟨xs,n,_,_,Dd,hxl,hf⟩:=DataW.trod_struct hu h
   obtain⟨rows,h1,h2⟩:=V6 (P:=P) (w:=w) (d:=d) Dd fs.toList 0 hp.1 fun f UW=>by
    obtain⟨i,hi⟩:=List.mem_iff_getElem?.1 UW;have OA:fs[i]?=some f:=by simpa using hi
    have B4:i<fs.size:=(Array.getElem?_eq_some_iff.1 OA).1;have h3:=hf i f OA;rw[List.getElem?_eq_getElem (by omega)] at h3
    exact Qi d f.type (List.all_eq_true.1 hp.2 f UW) _ _ _ h3
   exact⟨_,⟨rows,rfl,h1⟩,by simpa using h2⟩
  ·rename_i n e hu;simp only[Bool.and_eq_true] at hp;simp only[ZY hu];obtain⟨xs,m,_,_,Dd,hxl,hf⟩:=DataW.trod_array hu h;have K1:=Nat.eq_of_beq_eq_true hp.1
   obtain⟨rows,h1,h2,h3⟩:=Xy (P:=P) (w:=w) (d:=d) (e:=e) (cs:=cs) (k:=P.cellsOf e) n (by omega) fun i hi=>by
    have h3:=hf i hi;rw[List.getElem?_eq_getElem (by omega)] at h3
    obtain⟨ps,h4,h5⟩:=Qi d e hp.2 _ _ _ h3;refine⟨ps,⟨?_,h4⟩,h5⟩;rw[h5.len,List.length_take,List.length_drop,Dd,K1];have:(i+1)*P.cellsOf e<=n*P.cellsOf e:=Nat.mul_le_mul_right _ hi;rw[Nat.succ_mul] at this;omega
   refine⟨_,⟨rows,rfl,h1,h2⟩,?_⟩;rw[List.take_of_length_le (by omega)] at h3
   exact h3
  ·cases hp
theorem ZF {r:Reach}{b0:Nat}{t:TypeId}{v:Value}{dd:DataW H}{p:List MemPlace}(hp:Jw P 12 t=true)(hv:Value.okWide P w r b0 t v)(h:DataW.Trod enc P w base (fun _=>true) held t v dd p):
  ∃q,WTv P t q∧Nj w No q v:=by
 obtain⟨fuel,hf⟩:=h;obtain⟨ps,h1,h2⟩:=Qi 12 t hp fuel _ _ hf;unfold WTv B1
 have two:∀{cs:Array Value},v=.agg cs->∃q,(∃ps,q=.agg ps∧WT P 12 t ps)∧Nj w No q v:=by
  intro cs e;subst e;exact⟨.agg ps,⟨ps,rfl,h1⟩,cs.toList,by simp,h2.mono fun c v h=>h.1⟩
 have one:v.cells.toList=[v]->∃q,WT P 12 t [q]∧Nj w No q v:=by
  intro e;rw[e] at h2
  match ps,h2 with
  |[q],h2=>
   refine⟨q,h1,?_⟩;have h3:=h2.1.1;cases q<;>first|exact h3|exact h3.1.elim
  |[],h2=>exact h2.elim
  |_::_::_,h2=>exact h2.2.elim
 unfold Jw at hp;split at hp
 ·rename_i hu;simp only[hu];obtain⟨b,rfl,_⟩:=open_bool hu hv ⟨fuel,hf⟩;exact one rfl
 ·rename_i k hu;simp only[hu];obtain⟨b,rfl,_⟩:=open_int hu hv ⟨fuel,hf⟩;exact one rfl
 ·rename_i hu;simp only[hu];obtain⟨b,rfl,_⟩:=ChangeMaps.open_string hu hv ⟨fuel,hf⟩;exact one rfl
 ·rename_i e hu;simp only[hu];obtain⟨a,len,cap,rfl⟩:=okWide_slice hu hv;exact one rfl
 ·rename_i fs hu;simp only[hu];obtain⟨cs,rfl,_⟩:=okWide_struct hu hv;exact two rfl
 ·rename_i n e hu;simp only[hu];unfold Value.okWide at hv;simp only[hu] at hv;obtain⟨cs,rfl,_⟩:=hv;exact two rfl
 ·cases hp
theorem FS:∀{ts:List TypeId}{vs:List Value}{ds:List (DataW H)} {p:List MemPlace}{r:Reach}{b0:Nat},(ts.all fun t=>Jw P 12 t)=true->(∀(j:Nat) t v,ts[j]?=some t->vs[j]?=some v->Value.okWide P w r b0 t v) ->
  DataW.TrodAll enc P w base (fun _=>true) held ts vs ds p->∃qs,Bb (WTv P) ts qs∧Bb (Nj w No) qs vs
 |[],[],[],_,_,_,_,_,_=>⟨[],trivial,trivial⟩
 |t::ts,v::vs,d::ds,_,r,b0,hp,hv,⟨p,q,h1,h2,_⟩=>by
  simp only[List.all_cons,Bool.and_eq_true] at hp;obtain⟨x,h3,h4⟩:=ZF hp.1 (hv 0 t v rfl rfl) h1;obtain⟨xs,h5,h6⟩:=FS hp.2 (fun j t v ht Lj=>hv (j+1) t v ht Lj) h2
  exact⟨x::xs,⟨h3,h5⟩,h4,h6⟩
 |[],_::_,_,_,_,_,_,_,h=>by cases h
 |[],[],_::_,_,_,_,_,_,h=>by cases h
 |_::_,[],_,_,_,_,_,_,h=>by cases h
 |_::_,_::_,[],_,_,_,_,_,h=>by cases h
theorem Rd (hl:laidOutB P=true){W W':World}{sp:Nat->Bool}:∀{ts:List TypeId}{vs:List Value}{ds:List (DataW H)} {p:List MemPlace},(ts.all fun t=>P.readableRec t&&Nat.blt t P.types.size)=true ->
  DataW.TrodAll enc P W 0 (fun _=>true) true ts vs ds p->(∀x∈p,W.sameAt W' x)->(∀x∈p,sp x.block=true)->DataW.TrodAll enc P W' 0 sp true ts vs ds p
 |[],[],[],_,_,h,_,_=>h
 |t::ts,v::vs,d::ds,_,hr,⟨p,q,h1,h2,e⟩,hs,hsp=>by
  simp only[List.all_cons,Bool.and_eq_true] at hr;refine⟨p,q,WideElems.Trod_stays hl hr.1.1 (Nat.lt_of_succ_le (Nat.le_of_ble_eq_true hr.1.2)) h1 (fun x hx=>hs x ?_) (fun x hx=>hsp x ?_),Rd hl hr.2 h2 (fun x hx=>hs x ?_) (fun x hx=>hsp x ?_),e⟩
  all_goals rw[e,List.mem_append]
  ·exact .inl hx
  ·exact .inl hx
  ·exact .inr hx
  ·exact .inr hx
 |[],_::_,_,_,_,h,_,_=>by cases h
 |[],[],_::_,_,_,h,_,_=>by cases h
 |_::_,[],_,_,_,h,_,_=>by cases h
 |_::_,_::_,[],_,_,h,_,_=>by cases h
theorem BL {f:Func}{s:ChangeSpec}{apart fresh IQ again:Bool}{W W':World}{args:Array Value}{v:Value}{ds gs:List (DataW H)} {before pa pv:List MemPlace}
  (hW:DataW.Whole enc P f.params.toList s.vars apart W args.toList ds gs before)
  (Aq1:∀(b:Nat)(sp:Nat->Bool)(hd:Bool),DataW.TrodAll enc P W' b sp hd f.resultTypes.toList (v.resultList f.resultTypes.size) (s.fn H (ds++gs)).results [])
  (Ei:∀sp:Nat->Bool,(∀p∈before,sp p.block=true)->DataW.TrodAll enc P W' 0 sp true f.params.toList args.toList (s.fn H (ds++gs)).args pa)
  (MU:∀sp:Nat->Bool,(∀p∈before,sp p.block=true)->DataW.TrodVars enc P W' sp s.vars (s.fn H (ds++gs)).vars pv)
  (Wt:before=pa++pv)(hb:Below W.heap.size W W')
  (hok:∀(j:Nat)(t:TypeId)(r:Value),f.resultTypes[j]?=some t->(v.resultList f.resultTypes.size)[j]?=some r->Value.okWide P W' .any 0 t r):
  s.post enc P f apart fresh IQ again W args v W':=by
 have B4:∀p∈before,p.block<W.heap.size:=fun p hp=>hW.lt p hp
 have hold:∀p∈before,(fun b=>decide (b<W.heap.size)) p.block=true:=fun p hp=>by simpa using B4 p hp
 refine⟨ds,gs,before,[],pa,pv,hW,Aq1 _ _ _,Ei _ hold,MU _ hold,World.keptBut_mono (fun p hp=>⟨hp,?_⟩) (hb.frame (· ∈ before)),fun _=>?_⟩
 ·rw[Wt,List.mem_append] at hp;exact Or.inr hp
 ·obtain⟨_,_,_,_,_,hz,hn⟩:=hW;refine⟨hok,_,_,([]++pa)++pv,⟨[]++pa,pv,trodAll_append (Ei _ (fun _ _=>rfl)) (Aq1 _ _ _),MU _ (fun _ _=>rfl),rfl,?_,?_⟩,?_⟩
  ·intro b off hp;have Z2:MemPlace.cell b off∈before:=by rw[Wt];simpa using hp
   rw[hb.frozen (B4 _ Z2)];exact hz b off Z2
  ·intro ha;have:=hn ha;rw[Wt] at this
   simpa using this
  ·intro p hp _;rw[Wt]
   simpa using hp
theorem law_contract {G:R0}{C:Ft}(hx:DY G P C)(Ie:NoNG P)(hm:P.follows .mixedOrders=true)(hl:laidOutB P=true){f:FuncId}{fn:Func}{s:ChangeSpec}{tb:TypeId}(hfn:P.funcs[f]?=some fn)
  (MU:s.vars=[]) (Aqi:∀ds:List (DataW H),ds.length=fn.params.size->s.fn H ds={ results:=[.lit (.bool true)],args:=ds }) (Akm:(fn.params.toList.all fun t=>Jw P 12 t)=true)
  (Apf:(fn.params.toList.all fun t=>P.readableRec t&&Nat.blt t P.types.size)=true) (hrt:fn.resultTypes = #[tb]) (hub:P.underlying tb=some .bool)
  {apart fresh IQ again:Bool} (W:World) (base:Nat) (args:Array Value) (ds gs:List (DataW H)) (before:List MemPlace)
  (hval:∀(j:Nat) t v,fn.params[j]?=some t->args[j]?=some v->Value.okWide P W .any base t v)
  (hW:DataW.Whole enc P fn.params.toList s.vars apart W args.toList ds gs before)
  (A3d:∀qs:List PV,Bb (WTv P) fn.params.toList qs->∃fu d,Ae C P fu d f qs=some ⟨[.sc (.bool true)],[]⟩) (hG:G.ok W)(hGY:∀b,G.bl b->b<W.heap.size):
  Calls P f args W fun e W'=>∃v,e=.returned v∧s.post enc P fn apart fresh IQ again W args v W':=by
 have hW':=hW;obtain⟨p,q,hA,hV,rfl,Um,hnd⟩:=hW;rw[MU] at hV;obtain⟨rfl,rfl⟩:=trodVars_none hV;obtain⟨qs,h1,h2⟩:=FS Akm (fun j t v ht hv=>hval j t v (by simpa using ht) (by simpa using hv)) hA
 obtain⟨fu,d,hc⟩:=A3d qs h1;have hS:=(G6 Ie hm hx d f qs _ hc).2 W No LP args.toList (MA (fun b h=>h.elim) h2) hG (fun b hb=>⟨hGY b hb,Ms b⟩)
 rw[Array.toArray_toList] at hS;refine hS.mono fun e W' ⟨vs,own,he,ho⟩=>?_
 have hv:=ho.vals
 have Ob:vs=[.bool true]:=by
  match vs,hv with
  |[u],hv=>
   have:Ar W' _ (.sc (.bool true)) u:=hv.1;rw[this.val]
  |[],hv=>exact hv.elim
  |_::_::_,hv=>exact hv.2.elim
 subst Ob;subst he;have hb:Below W.heap.size W W':=⟨ho.os,ho.tape,ho.output,ho.ext.size,fun k hk=>ho.ext.keep k hk (Ms k)⟩
 have B4:∀x∈p,x.block<W.heap.size:=fun x hx=>hW'.lt x (by simpa using hx)
 have Dd:ds.length=fn.params.size:=by
  have:∀{ts:List TypeId} {vs:List Value} {ds:List (DataW H)} {p:List MemPlace},DataW.TrodAll enc P W 0 (fun _=>true) true ts vs ds p->ds.length=ts.length:=by
   intro ts
   induction ts with
   |nil=>intro vs ds p h;cases vs<;>cases ds<;>first|rfl|cases h
   |cons t ts ih=>
    intro vs ds p h;cases vs with
    |nil=>cases h
    |cons v vs=>
     cases ds with
     |nil=>cases h
     |cons d ds=>obtain⟨_,_,_,h2,_⟩:=h;simp[ih h2]
  simpa using this hA
 have hsp:=Aqi (ds++[]) (by simpa using Dd)
 refine⟨_,rfl,BL (pa:=p) (pv:=[]) hW' ?_ ?_ ?_ rfl hb ?_⟩
 ·intro b sp hd;rw[hsp,hrt];exact trodAll_mk1 (shut_bool hub _)
 ·intro sp Ayt;rw[hsp];simp only[List.append_nil];exact Rd hl Apf hA (fun x hx=>hb.same (B4 x hx)) (fun x hx=>Ayt x (by simpa using hx))
 ·intro sp _;rw[hsp,MU];rfl
 ·exact ok_one hrt rfl (okWide_bool_mk hub _)
end
end
section
open Go.IntKind (wrap)
theorem Db:type_of% @Bool.not_true:=@Bool.not_true
theorem D2:type_of% @Bool.not_false:=@Bool.not_false
theorem Zzd:type_of% @Nat.zero_add:=@Nat.zero_add
theorem Zzf:type_of% @List.take_of_length_le.{0}:=@List.take_of_length_le
theorem PG:type_of% @List.length_cons.{0}:=@List.length_cons
theorem Oj:type_of% @Int.toNat_natCast:=@Int.toNat_natCast
theorem Dz:type_of% @if_neg.{1}:=@if_neg
theorem E7:type_of% @if_pos.{1}:=@if_pos
theorem Zzs:type_of% @Bool.false_and:=@Bool.false_and
end
section
open Go.Proofs.Tryd (prog)
open Go.IntKind (wrap)
set_option maxRecDepth 100000
abbrev Jp:FuncId:=93
theorem Qv {xs:FuncId->Option (List PV->Option Ay)} (fu d:Nat)(a0 a1:Int):Ae (CX xs) prog fu (d+1) Jp [.sc (.int .u64 a0),.sc (.int .i64 a1)]=(fun (call:Ax)=>Ab (wrap .u64 a1) fun x1=>Ab (Aqw .u64 x1 63) fun x2=>Bi (decide (0<=x2))<|Ab (Gz .u64 a0 x2) fun x3=>Ab (wrap .u64 (64-x2)) fun x4=>Bi (decide (0<=x4))<|Ab (ME .u64 a0 x4) fun x5=>Ab (JL .u64 x3 x5) fun x6=>some (Ay.mk [.sc (.int .u64 x6)] [])) (Ae (CX xs) prog fu d):=by kernel_rfl
abbrev N3:FuncId:=71
noncomputable def Gh (fu:Nat)(call:Ax)(a0n:Nat)(a0:List PV)(nn:Nat)(y0:Int)(y1:Nat)(y2:List PV)(y3 y4:Int):Option Ay:=Is CB prog fu call 71 Tryd.f71 (F4 Tryd.f71) [.lst false 1 a0n a0] [.r,.r,.l,.r,.l] nn ⟨lk [(3,(.sc (.int .u64 y0))),(6,(.lst false 1 y1 y2)),(7,(.sc (.int .i64 y3))),(8,(.sc (.int .i64 y4)))],Jh []⟩
theorem Kq (fu:Nat)(call:Ax)(a0n:Nat)(a0:List PV)(nn:Nat)(y0:Int)(y1:Nat)(y2:List PV)(y3 y4:Int):Gh fu call a0n a0 (nn+1) y0 y1 y2 y3 y4=(Bh (decide (y4<y3)) (Bi (decide (0<=y4)&&decide (y4<(↑y1:Int)))<|Ak .u8 (List.getD y2 (Int.toNat y4*1) .top) fun x1=>Ab (wrap .u64 x1) fun x2=>Ab (wrap .i64 (8*y4)) fun x3=>Bi (decide (0<=x3))<|Ab (Gz .u64 x2 x3) fun x4=>Ab (JL .u64 y0 x4) fun x5=>Ab (wrap .i64 (y4+1)) fun x6=>Gh fu call a0n a0 (nn) x5 (y1) (y2) (y3) x6) (some (Ay.mk [.sc (.int .u64 y0)] []))):=by kernel_rfl
theorem Wl {xs:FuncId->Option (List PV->Option Ay)} (fu d a0n:Nat)(a0:List PV):Ae (CX xs) prog fu (d+1) N3 [.lst false 1 a0n a0]=(fun (call:Ax)=>Gh fu call a0n a0 (fu) 0 (a0n) (a0) ((↑a0n:Int)) 0) (Ae (CX xs) prog fu d):=by kernel_rfl
abbrev Hu:FuncId:=72
noncomputable def D7 (fu:Nat)(call:Ax)(Br Bl:Int)(Hh I0 a1:Int)(nn:Nat)(y0 y1:Int)(y2 y3:Int)(y4 y5:Int):Option Ay:=Is CB prog fu call 72 Tryd.f72 (F4 Tryd.f72) [.pbox [.sc (.int .u64 Br),.sc (.int .u64 Bl),.sc (.int .u64 Hh),.sc (.int .u64 I0)],.sc (.int .i64 a1)] [.r,.l] nn ⟨lk [(0,(.ptr 288000 0)),(4,(.sc (.int .i64 y0))),(5,(.sc (.int .i64 y1)))],Jh [(288000,(.st [(.sc (.int .u64 y2)),(.sc (.int .u64 y3)),(.sc (.int .u64 y4)),(.sc (.int .u64 y5))]))]⟩
theorem Gs (fu:Nat)(call:Ax)(Br Bl:Int)(Hh I0 a1:Int)(nn:Nat)(y0 y1:Int)(y2 y3:Int)(y4 y5:Int):D7 fu call Br Bl Hh I0 a1 (nn+1) y0 y1 y2 y3 y4 y5=(Bh (decide (y1<y0)) (Ab (wrap .u64 (y2+y3)) fun x1=>Ah (call 93 [.sc (.int .u64 y3),.sc (.int .i64 13)]) fun x2 x3=>Ad x3<|Aa x2 fun x4 x5=>Ak .u64 x4 fun x6=>Ad x5<|Ab (Do .u64 x6 x1) fun x7=>Ah (call 93 [.sc (.int .u64 x1),.sc (.int .i64 32)]) fun x8 x9=>Ad x9<|Aa x8 fun Fv Lr=>Ak .u64 Fv fun L3=>Ad Lr<|Ab (wrap .u64 (y4+y5)) fun Ff=>Ah (call 93 [.sc (.int .u64 y5),.sc (.int .i64 16)]) fun Je Mb=>Ad Mb<|Aa Je fun K2 I4=>Ak .u64 K2 fun Lw=>Ad I4<|Ab (Do .u64 Lw Ff) fun L4=>Ab (wrap .u64 (L3+L4)) fun Ml=>Ah (call 93 [.sc (.int .u64 L4),.sc (.int .i64 21)]) fun Mi N6=>Ad N6<|Aa Mi fun K4 Nq=>Ak .u64 K4 fun L1=>Ad Nq<|Ab (Do .u64 L1 Ml) fun L5=>Ab (wrap .u64 (Ff+x7)) fun Mk=>Ah (call 93 [.sc (.int .u64 x7),.sc (.int .i64 17)]) fun Oi Me=>Ad Me<|Aa Oi fun Oa Om=>Ak .u64 Oa fun Oc=>Ad Om<|Ab (Do .u64 Oc Mk) fun M9=>Ah (call 93 [.sc (.int .u64 Mk),.sc (.int .i64 32)]) fun Ol Pj=>Ad Pj<|Aa Ol fun Q7 Se=>Ak .u64 Q7 fun S1=>Ad Se<|Ab (wrap .i64 (y1+1)) fun Pu=>D7 fu call Br Bl Hh I0 a1 (nn) (y0) Pu Ml M9 S1 L5) (some (Ay.mk [] [[.sc (.int .u64 y2),.sc (.int .u64 y3),.sc (.int .u64 y4),.sc (.int .u64 y5)]]))):=by kernel_rfl
theorem Og {xs:FuncId->Option (List PV->Option Ay)} (fu d:Nat)(Br Bl:Int)(Hh I0 a1:Int):Ae (CX xs) prog fu (d+1) Hu [.pbox [.sc (.int .u64 Br),.sc (.int .u64 Bl),.sc (.int .u64 Hh),.sc (.int .u64 I0)],.sc (.int .i64 a1)]=(fun (call:Ax)=>D7 fu call Br Bl Hh I0 a1 (fu) (a1) 0 (Br) (Bl) (Hh) (I0)) (Ae (CX xs) prog fu d):=by kernel_rfl
abbrev Hs:FuncId:=70
theorem Oh {xs:FuncId->Option (List PV->Option Ay)} (fu d:Nat)(Br Bl:Int)(Hh I0 a1:Int):Ae (CX xs) prog fu (d+1) Hs [.pbox [.sc (.int .u64 Br),.sc (.int .u64 Bl),.sc (.int .u64 Hh),.sc (.int .u64 I0)],.sc (.int .u64 a1)]=(fun (call:Ax)=>Ab (Do .u64 I0 a1) fun x1=>Ah (call 72 [.pbox [.sc (.int .u64 Br),.sc (.int .u64 Bl),.sc (.int .u64 Hh),.sc (.int .u64 x1)],.sc (.int .i64 2)]) fun x2 x3=>Ad x2<|Aa x3 fun x4 x5=>Aa x4 fun x6 x7=>Ak .u64 x6 fun x8=>Aa x7 fun x9 Fv=>Ak .u64 x9 fun Lr=>Aa Fv fun L3 Ff=>Ak .u64 L3 fun Je=>Aa Ff fun Mb K2=>Ak .u64 Mb fun I4=>Ad K2<|Ad x5<|Ab (Do .u64 x8 a1) fun Lw=>some (Ay.mk [] [[.sc (.int .u64 Lw),.sc (.int .u64 Lr),.sc (.int .u64 Je),.sc (.int .u64 I4)]])) (Ae (CX xs) prog fu d):=by kernel_rfl
abbrev Te:FuncId:=52
noncomputable def Gv (fu:Nat)(call:Ax)(a0 a1:Int)(V2:Nat)(a2:List PV)(nn y0:Nat)(y1:List PV)(y2 y3:Int)(y4 y5:Int)(y6 y7 y8:Int):Option Ay:=Is CB prog fu call 52 Tryd.f52 (F4 Tryd.f52) [.sc (.int .u64 a0),.sc (.int .u64 a1),.lst false 1 V2 a2] [.r,.r,.r,.l,.r,.l] nn ⟨lk [(2,(.lst false 1 y0 y1)),(7,(.ptr 7 0)),(8,(.sc (.int .i64 y2))),(22,(.sc (.int .i64 y3))),(23,(.sc (.int .i64 y4)))],Jh [(7,(.st [(.sc (.int .u64 y5)),(.sc (.int .u64 y6)),(.sc (.int .u64 y7)),(.sc (.int .u64 y8))]))]⟩
theorem N7 (fu:Nat)(call:Ax)(a0 a1:Int)(V2:Nat)(a2:List PV)(nn y0:Nat)(y1:List PV)(y2 y3:Int)(y4 y5:Int)(y6 y7 y8:Int):Gv fu call a0 a1 V2 a2 (nn+1) y0 y1 y2 y3 y4 y5 y6 y7 y8=(Bh (decide (y4<y3)) (Ab (wrap .i64 (8*y4)) fun x6=>Ab (wrap .i64 (8*y4)) fun x7=>Ab (wrap .i64 (x7+8)) fun x8=>Bi (decide (0<=x6))<|Bi (decide (0<=x8))<|Bi (decide (Int.toNat x6<=Int.toNat x8)&&decide (Int.toNat x8<=y0))<|Ab (Int.toNat x8-Int.toNat x6) fun x9=>Ab (List.take (x9*1) (List.drop (Int.toNat x6*1) y1)) fun Fv=>Ah (call 71 [.lst false 1 x9 Fv]) fun Lr L3=>Ad L3<|Aa Lr fun Ff Je=>Ak .u64 Ff fun Mb=>Ad Je<|Ah (call 70 [.pbox [.sc (.int .u64 y5),.sc (.int .u64 y6),.sc (.int .u64 y7),.sc (.int .u64 y8)],.sc (.int .u64 Mb)]) fun K2 I4=>Ad K2<|Aa I4 fun Lw L4=>Aa Lw fun Ml Mi=>Ak .u64 Ml fun N6=>Aa Mi fun K4 Nq=>Ak .u64 K4 fun L1=>Aa Nq fun L5 Mk=>Ak .u64 L5 fun Oi=>Aa Mk fun Me Oa=>Ak .u64 Me fun Om=>Ad Oa<|Ad L4<|Ab (wrap .i64 (y4+1)) fun Oc=>Gv fu call a0 a1 V2 a2 (nn) (y0) (y1) (y2) (y3) Oc N6 L1 Oi Om) (Ab (wrap .i64 (8*y2)) fun M9=>Bi (decide (0<=M9))<|Bi (decide (Int.toNat M9<=y0)&&decide (y0<=y0))<|Ab (y0-Int.toNat M9) fun Ol=>Ab (List.take (Ol*1) (List.drop (Int.toNat M9*1) y1)) fun Pj=>Ah (call 71 [.lst false 1 Ol Pj]) fun Q7 Se=>Ad Se<|Aa Q7 fun S1 Pu=>Ak .u64 S1 fun AZ=>Ad Pu<|Ab (wrap .u64 (↑y0:Int)) fun BA=>Ab (Gz .u64 BA 56) fun Qm=>Ab (JL .u64 AZ Qm) fun Qj=>Ah (call 70 [.pbox [.sc (.int .u64 y5),.sc (.int .u64 y6),.sc (.int .u64 y7),.sc (.int .u64 y8)],.sc (.int .u64 Qj)]) fun Zo Xh=>Ad Zo<|Aa Xh fun BP AY=>Aa BP fun BH X6=>Ak .u64 BH fun Xl=>Aa X6 fun AX BC=>Ak .u64 AX fun CU=>Aa BC fun Z7 GI=>Ak .u64 Z7 fun JJ=>Aa GI fun EN EU=>Ak .u64 EN fun GW=>Ad EU<|Ad AY<|Ab (Do .u64 JJ 255) fun IL=>Ah (call 72 [.pbox [.sc (.int .u64 Xl),.sc (.int .u64 CU),.sc (.int .u64 IL),.sc (.int .u64 GW)],.sc (.int .i64 4)]) fun HT NZ=>Ad HT<|Aa NZ fun TG PQ=>Aa TG fun OB PN=>Ak .u64 OB fun OD=>Aa PN fun PU SU=>Ak .u64 PU fun OH=>Aa SU fun NU LX=>Ak .u64 NU fun NW=>Aa LX fun NV RK=>Ak .u64 NV fun TZ=>Ad RK<|Ad PQ<|Ab (Do .u64 OD OH) fun WS=>Ab (Do .u64 WS NW) fun RP=>Ab (Do .u64 RP TZ) fun WH=>some (Ay.mk [.sc (.int .u64 WH)] []))):=by kernel_rfl
theorem FX {xs:FuncId->Option (List PV->Option Ay)} (fu d:Nat)(a0 a1:Int)(V2:Nat)(a2:List PV):Ae (CX xs) prog fu (d+1) Te [.sc (.int .u64 a0),.sc (.int .u64 a1),.lst false 1 V2 a2]=(fun (call:Ax)=>Ab (Do .u64 a0 8317987319222330741) fun x1=>Ab (Do .u64 a1 7237128888997146477) fun x2=>Ab (Do .u64 a0 7816392313619706465) fun x3=>Ab (Do .u64 a1 8387220255154660723) fun x4=>Ab (wrap .i64 (Int.tdiv (↑V2:Int) 8)) fun x5=>Gv fu call a0 a1 V2 a2 (fu) (V2) (a2) x5 x5 0 x1 x2 x3 x4) (Ae (CX xs) prog fu d):=by kernel_rfl
abbrev Q6:FuncId:=36
theorem BJ {xs:FuncId->Option (List PV->Option Ay)} (fu d:Nat)(a0:Int)(a1n:Nat)(a1:List PV):Ae (CX xs) prog fu (d+1) Q6 [.sc (.int .i64 a0),.lst false 1 a1n a1]=(fun (call:Ax)=>Ab (wrap .u64 a0) fun x1=>Ah (call 52 [.sc (.int .u64 x1),.sc (.int .u64 0),.lst false 1 a1n a1]) fun x2 x3=>Ad x3<|Aa x2 fun x4 x5=>Ak .u64 x4 fun x6=>Ad x5<|some (Ay.mk [.sc (.int .u64 x6)] [])) (Ae (CX xs) prog fu d):=by kernel_rfl
abbrev Ks:FuncId:=94
theorem R3 {xs:FuncId->Option (List PV->Option Ay)} (fu d:Nat)(a0 a1:Int):Ae (CX xs) prog fu (d+1) Ks [.sc (.int .u64 a0),.sc (.int .u64 a1)]=(fun (call:Ax)=>Bi (decide (0<=a1))<|Ab (Gz .u64 a0 a1) fun x1=>Ab (wrap .u64 (64-a1)) fun x2=>Bi (decide (0<=x2))<|Ab (ME .u64 a0 x2) fun x3=>Ab (JL .u64 x1 x3) fun x4=>some (Ay.mk [.sc (.int .u64 x4)] [])) (Ae (CX xs) prog fu d):=by kernel_rfl
abbrev Jq:FuncId:=73
theorem Qz {xs:FuncId->Option (List PV->Option Ay)} (fu d:Nat)(Br Bl:Int)(Hh I0:Int):Ae (CX xs) prog fu (d+1) Jq [.agg [.sc (.int .u64 Br),.sc (.int .u64 Bl),.sc (.int .u64 Hh),.sc (.int .u64 I0)]]=(fun (call:Ax)=>Ab (wrap .u64 (Br+Bl)) fun x1=>Ah (call 94 [.sc (.int .u64 Bl),.sc (.int .u64 13)]) fun x2 x3=>Ad x3<|Aa x2 fun x4 x5=>Ak .u64 x4 fun x6=>Ad x5<|Ab (Do .u64 x6 x1) fun x7=>Ah (call 94 [.sc (.int .u64 x1),.sc (.int .u64 32)]) fun x8 x9=>Ad x9<|Aa x8 fun Fv Lr=>Ak .u64 Fv fun L3=>Ad Lr<|Ab (wrap .u64 (Hh+I0)) fun Ff=>Ah (call 94 [.sc (.int .u64 I0),.sc (.int .u64 16)]) fun Je Mb=>Ad Mb<|Aa Je fun K2 I4=>Ak .u64 K2 fun Lw=>Ad I4<|Ab (Do .u64 Lw Ff) fun L4=>Ab (wrap .u64 (L3+L4)) fun Ml=>Ah (call 94 [.sc (.int .u64 L4),.sc (.int .u64 21)]) fun Mi N6=>Ad N6<|Aa Mi fun K4 Nq=>Ak .u64 K4 fun L1=>Ad Nq<|Ab (Do .u64 L1 Ml) fun L5=>Ab (wrap .u64 (Ff+x7)) fun Mk=>Ah (call 94 [.sc (.int .u64 x7),.sc (.int .u64 17)]) fun Oi Me=>Ad Me<|Aa Oi fun Oa Om=>Ak .u64 Oa fun Oc=>Ad Om<|Ab (Do .u64 Oc Mk) fun M9=>Ah (call 94 [.sc (.int .u64 Mk),.sc (.int .u64 32)]) fun Ol Pj=>Ad Pj<|Aa Ol fun Q7 Se=>Ak .u64 Q7 fun S1=>Ad Se<|some (Ay.mk [.agg [.sc (.int .u64 Ml),.sc (.int .u64 M9),.sc (.int .u64 S1),.sc (.int .u64 L5)]] [])) (Ae (CX xs) prog fu d):=by kernel_rfl
abbrev La:FuncId:=53
noncomputable def Ed (fu:Nat)(call:Ax)(a0 a1:Int)(V2:Nat)(a2:List PV)(nn y0:Nat)(y1:List PV)(y2:Int)(y3:List PV):Option Ay:=Is CB prog fu call 53 Tryd.f53 (F4 Tryd.f53) [.sc (.int .u64 a0),.sc (.int .u64 a1),.lst false 1 V2 a2] [.r,.r,.l,.r,.l] nn ⟨lk [(2,(.lst false 1 y0 y1)),(7,(.ptr 7 0)),(8,(.sc (.int .i64 y2)))],Jh [(7,(.ar false y3))]⟩
noncomputable def Ds (fu:Nat)(call:Ax)(a0 a1:Int)(V2:Nat)(a2:List PV)(m0 nn y0:Nat)(y1:List PV)(y2 y3 y4:Int)(y5:List PV):Option Ay:=Is CB prog fu call 53 Tryd.f53 (F4 Tryd.f53) [.sc (.int .u64 a0),.sc (.int .u64 a1),.lst false 1 V2 a2] [.r,.r,.l,.r,.l,.i m0,.r,.l,.l,.r,.l,.r,.l] nn ⟨lk [(2,(.lst false 1 y0 y1)),(7,(.ptr 7 0)),(8,(.sc (.int .i64 y2))),(9,(.sc (.int .u64 y3))),(10,(.sc (.int .i64 y4)))],Jh [(7,(.ar false y5))]⟩
theorem Iw (fu:Nat)(call:Ax)(a0 a1:Int)(V2:Nat)(a2:List PV)(nn y0:Nat)(y1:List PV)(y2:Int)(y3:List PV):Ed fu call a0 a1 V2 a2 (nn+1) y0 y1 y2 y3=(Bh (decide (y2<=(↑y0:Int))) (Ds fu call a0 a1 V2 a2 nn (fu) (y0) (y1) (y2) 0 7 (y3)) (Ak .u64 (List.getD y3 2 .top) fun x5=>Ab (Do .u64 x5 255) fun x6=>Bi (decide (3<=y3.length))<|Ab (B8 y3 [.sc (.int .u64 x6)] 2) fun x7=>Ak .u64 (List.getD x7 0 .top) fun x8=>Ak .u64 (List.getD x7 1 .top) fun x9=>Ak .u64 (List.getD x7 2 .top) fun Fv=>Ak .u64 (List.getD x7 3 .top) fun Lr=>Ah (call 73 [.agg [.sc (.int .u64 x8),.sc (.int .u64 x9),.sc (.int .u64 Fv),.sc (.int .u64 Lr)]]) fun L3 Ff=>Ad Ff<|Aa L3 fun Je Mb=>Fq Je fun K2=>Aa K2 fun I4 Lw=>Ak .u64 I4 fun L4=>Aa Lw fun Ml Mi=>Ak .u64 Ml fun N6=>Aa Mi fun K4 Nq=>Ak .u64 K4 fun L1=>Aa Nq fun L5 Mk=>Ak .u64 L5 fun Oi=>Ad Mk<|Ad Mb<|Ah (call 73 [.agg [.sc (.int .u64 L4),.sc (.int .u64 N6),.sc (.int .u64 L1),.sc (.int .u64 Oi)]]) fun Me Oa=>Ad Oa<|Aa Me fun Om Oc=>Fq Om fun M9=>Aa M9 fun Ol Pj=>Ak .u64 Ol fun Q7=>Aa Pj fun Se S1=>Ak .u64 Se fun Pu=>Aa S1 fun AZ BA=>Ak .u64 AZ fun Qm=>Aa BA fun Qj Zo=>Ak .u64 Qj fun Xh=>Ad Zo<|Ad Oc<|Ah (call 73 [.agg [.sc (.int .u64 Q7),.sc (.int .u64 Pu),.sc (.int .u64 Qm),.sc (.int .u64 Xh)]]) fun BP AY=>Ad AY<|Aa BP fun BH X6=>Fq BH fun Xl=>Aa Xl fun AX BC=>Ak .u64 AX fun CU=>Aa BC fun Z7 GI=>Ak .u64 Z7 fun JJ=>Aa GI fun EN EU=>Ak .u64 EN fun GW=>Aa EU fun IL HT=>Ak .u64 IL fun NZ=>Ad HT<|Ad X6<|Ah (call 73 [.agg [.sc (.int .u64 CU),.sc (.int .u64 JJ),.sc (.int .u64 GW),.sc (.int .u64 NZ)]]) fun TG PQ=>Ad PQ<|Aa TG fun OB PN=>Fq OB fun OD=>Aa OD fun PU SU=>Ak .u64 PU fun OH=>Aa SU fun NU LX=>Ak .u64 NU fun NW=>Aa LX fun NV RK=>Ak .u64 NV fun TZ=>Aa RK fun WS RP=>Ak .u64 WS fun WH=>Ad RP<|Ad PN<|Bi (decide (4<=x7.length))<|Ab (B8 x7 [.sc (.int .u64 OH),.sc (.int .u64 NW),.sc (.int .u64 TZ),.sc (.int .u64 WH)] 0) fun PH=>Ak .u64 (List.getD PH 0 .top) fun YF=>Ak .u64 (List.getD PH 1 .top) fun ZX=>Ab (Do .u64 YF ZX) fun ZA=>Ak .u64 (List.getD PH 2 .top) fun XT=>Ab (Do .u64 ZA XT) fun x85=>Ak .u64 (List.getD PH 3 .top) fun x86=>Ab (Do .u64 x85 x86) fun YR=>some (Ay.mk [.sc (.int .u64 YR)] []))):=by kernel_rfl
theorem It (fu:Nat)(call:Ax)(a0 a1:Int)(V2:Nat)(a2:List PV)(m0 nn y0:Nat)(y1:List PV)(y2 y3 y4:Int)(y5:List PV):Ds fu call a0 a1 V2 a2 m0 (nn+1) y0 y1 y2 y3 y4 y5=(Bh (decide (y4>=0)) (Ab (wrap .i64 (y2+y4)) fun XW=>Bh (decide (XW<(↑y0:Int))) (Ab (wrap .i64 (y2+y4)) fun XO=>Bi (decide (0<=XO)&&decide (XO<(↑y0:Int)))<|Ak .u8 (List.getD y1 (Int.toNat XO*1) .top) fun x90=>Ab (Gz .u64 y3 8) fun XS=>Ab (wrap .u64 x90) fun XY=>Ab (JL .u64 XS XY) fun x93=>Ab (wrap .i64 (y4-1)) fun XZ=>Ds fu call a0 a1 V2 a2 m0 (nn) (y0) (y1) (y2) x93 XZ (y5)) (Bh (y4==7) (Ab (wrap .u8 (↑y0:Int)) fun x95=>Ab (Gz .u64 y3 8) fun x96=>Ab (wrap .u64 x95) fun VK=>Ab (JL .u64 x96 VK) fun YB=>Ab (wrap .i64 (y4-1)) fun x99=>Ds fu call a0 a1 V2 a2 m0 (nn) (y0) (y1) (y2) YB x99 (y5)) (Ab (Gz .u64 y3 8) fun Tb=>Ab (JL .u64 Tb 0) fun Z3=>Ab (wrap .i64 (y4-1)) fun Wm=>Ds fu call a0 a1 V2 a2 m0 (nn) (y0) (y1) (y2) Z3 Wm (y5)))) (Ak .u64 (List.getD y5 3 .top) fun Yk=>Ab (Do .u64 Yk y3) fun AL=>Bi (decide (4<=y5.length))<|Ab (B8 y5 [.sc (.int .u64 AL)] 3) fun Qn=>Ak .u64 (List.getD Qn 0 .top) fun Xe=>Ak .u64 (List.getD Qn 1 .top) fun Xc=>Ak .u64 (List.getD Qn 2 .top) fun IG=>Ak .u64 (List.getD Qn 3 .top) fun GB=>Ah (call 73 [.agg [.sc (.int .u64 Xe),.sc (.int .u64 Xc),.sc (.int .u64 IG),.sc (.int .u64 GB)]]) fun BZ HD=>Ad HD<|Aa BZ fun KD IA=>Fq KD fun IW=>Aa IW fun LQ GS=>Ak .u64 LQ fun HY=>Aa GS fun CM CR=>Ak .u64 CM fun CF=>Aa CR fun IP HN=>Ak .u64 IP fun ID=>Aa HN fun JI HB=>Ak .u64 JI fun BO=>Ad HB<|Ad IA<|Ah (call 73 [.agg [.sc (.int .u64 HY),.sc (.int .u64 CF),.sc (.int .u64 ID),.sc (.int .u64 BO)]]) fun CL CI=>Ad CI<|Aa CL fun Wy CS=>Fq Wy fun IM=>Aa IM fun IR CG=>Ak .u64 IR fun JG=>Aa CG fun HM JF=>Ak .u64 HM fun HC=>Aa JF fun KC GL=>Ak .u64 KC fun CJ=>Aa GL fun KG HF=>Ak .u64 KG fun AK=>Ad HF<|Ad CS<|Bi (decide (4<=Qn.length))<|Ab (B8 Qn [.sc (.int .u64 JG),.sc (.int .u64 HC),.sc (.int .u64 CJ),.sc (.int .u64 AK)] 0) fun BG=>Ak .u64 (List.getD BG 0 .top) fun HW=>Ab (Do .u64 HW y3) fun BQ=>Bi (decide (1<=BG.length))<|Ab (B8 BG [.sc (.int .u64 BQ)] 0) fun CE=>Ab (wrap .i64 (y2+8)) fun BX=>Ed fu call a0 a1 V2 a2 (m0) (y0) (y1) BX CE)):=by kernel_rfl
theorem Tt {xs:FuncId->Option (List PV->Option Ay)} (fu d:Nat)(a0 a1:Int)(V2:Nat)(a2:List PV):Ae (CX xs) prog fu (d+1) La [.sc (.int .u64 a0),.sc (.int .u64 a1),.lst false 1 V2 a2]=(fun (call:Ax)=>Ab (Do .u64 a0 8317987319222330741) fun x1=>Ab (Do .u64 a1 7237128888997146477) fun x2=>Ab (Do .u64 a0 7816392313619706465) fun x3=>Ab (Do .u64 a1 8387220255154660723) fun x4=>Ed fu call a0 a1 V2 a2 (fu) (V2) (a2) 0 ([.sc (.int .u64 x1),.sc (.int .u64 x2),.sc (.int .u64 x3),.sc (.int .u64 x4)])) (Ae (CX xs) prog fu d):=by kernel_rfl
abbrev Kn:FuncId:=37
theorem Ro {xs:FuncId->Option (List PV->Option Ay)} (fu d:Nat)(a0:Int)(a1n:Nat)(a1:List PV):Ae (CX xs) prog fu (d+1) Kn [.sc (.int .i64 a0),.lst false 1 a1n a1]=(fun (call:Ax)=>Ab (wrap .u64 a0) fun x1=>Ah (call 53 [.sc (.int .u64 x1),.sc (.int .u64 0),.lst false 1 a1n a1]) fun x2 x3=>Ad x3<|Aa x2 fun x4 x5=>Ak .u64 x4 fun x6=>Ad x5<|some (Ay.mk [.sc (.int .u64 x6)] [])) (Ae (CX xs) prog fu d):=by kernel_rfl
end
section
open Go.IntKind (wrap)
def rot (x k:Int):Int:=JL .u64 (Gz .u64 x k) (ME .u64 x (64-k))
structure W4 where
 a:Int
 b:Int
 c:Int
 d:Int
def W4.cells (v:W4):List PV:=[.sc (.int .u64 v.a),.sc (.int .u64 v.b),.sc (.int .u64 v.c),.sc (.int .u64 v.d)]
def A3j (v:W4):W4:=⟨rot (wrap .u64 (v.a+v.b)) 32,Do .u64 (rot v.b 13) (wrap .u64 (v.a+v.b)),wrap .u64 (v.c+v.d),Do .u64 (rot v.d 16) (wrap .u64 (v.c+v.d))⟩
def A2g (v:W4):W4:=⟨wrap .u64 (v.a+v.d),Do .u64 (rot v.b 17) (wrap .u64 (v.c+v.b)),rot (wrap .u64 (v.c+v.b)) 32,Do .u64 (rot v.d 21) (wrap .u64 (v.a+v.d))⟩
def AU (v:W4):W4:=A2g (A3j v)
def QE:Nat->W4->W4
 |0,v=>v
 |n+1,v=>QE n (AU v)
def Apz (r:W4)(m:Int):W4:=⟨Do .u64 r.a m,r.b,r.c,r.d⟩
def M5 (v:W4)(m:Int):W4:=Apz (QE 2 ⟨v.a,v.b,v.c,Do .u64 v.d m⟩) m
def Mn:List Int->Int
 |[]=>0
 |b::r=>b+256*Mn r
def BM:Nat->W4->List Int->W4
 |0,v,_=>v
 |n+1,v,l=>BM n (M5 v (Mn (l.take 8))) (l.drop 8)
def Am1 (k0 k1:Int):W4:=⟨Do .u64 k0 8317987319222330741,Do .u64 k1 7237128888997146477,Do .u64 k0 7816392313619706465,Do .u64 k1 8387220255154660723⟩
def UT (v:W4):W4:=QE 4 ⟨v.a,v.b,Do .u64 v.c 255,v.d⟩
def WO (v:W4):Int:=Do .u64 (Do .u64 (Do .u64 v.a v.b) v.c) v.d
def Jg (l:List Int):Int:=Mn (l.drop (8*(l.length / 8)))+72057594037927936*((l.length:Int) % 256)
def Ais (k0 k1:Int)(l:List Int):Int:=WO (UT (M5 (BM (l.length / 8) (Am1 k0 k1) l) (Jg l)))
def Wc (dom:Int)(l:List Int):Int:=Ais (wrap .u64 dom) 0 l
def Dq (l:List Int):Prop:=∀b∈l,0<=b∧b<=255
theorem Nz:∀{l:List Int},Dq l->0<=Mn l∧Mn l<256 ^ l.length
 |[],_=>by simp[Mn]
 |b::r,h=>by
  have h1:=h b (by simp)
  have h2:=Nz (l:=r) fun x hx=>h x (by simp[hx])
  have h3:(256:Int) ^ (b::r).length=256 ^ r.length*256:=by rw[PG,Int.pow_succ]
  simp only[Mn];omega
theorem Rh:∀(l r:List Int),Mn (l++r)=Mn l+256 ^ l.length*Mn r
 |[],r=>by simp[Mn]
 |b::l,r=>by
  have ih:=Rh l r;simp only[List.cons_append,Mn,PG,Int.pow_succ];rw[ih,Int.mul_add];have:(256:Int)*(256 ^ l.length*Mn r)=256 ^ l.length*256*Mn r:=by rw[←Int.mul_assoc,Int.mul_comm 256]
  omega
theorem JA {a c:Int}(k b:Nat)(h0:0<=a)(h1:a<((2 ^ k:Nat):Int)) (hc:c=((b*2 ^ k:Nat):Int)) (h:a+c<=18446744073709551615):JL .u64 a c=a+c∧JL .u64 c a=a+c:=by
 obtain⟨n,rfl⟩:=Int.eq_ofNat_of_zero_le h0;subst hc;have hn:n<2 ^ k:=by omega
 generalize hB:b*2 ^ k=m at h
 have e4:(BitVec.ofInt 64 (n:Int)).toNat=n:=by
  rw[BitVec.toNat_ofInt];omega
 have e5:(BitVec.ofInt 64 (m:Int)).toNat=m:=by
  rw[BitVec.toNat_ofInt];omega
 have e6:m ||| n=m+n:=by
  have:=Nat.shiftLeft_add_eq_or_of_lt hn b;rw[Nat.shiftLeft_eq,hB] at this;exact this.symm
 constructor
 ·show wrap .u64 ((BitVec.ofInt 64 (n:Int) ||| BitVec.ofInt 64 (m:Int)).toNat:Int)=_;rw[BitVec.toNat_or,e4,e5,Nat.or_comm,e6,M4 (by omega) (by omega)]
  omega
 ·show wrap .u64 ((BitVec.ofInt 64 (m:Int) ||| BitVec.ofInt 64 (n:Int)).toNat:Int)=_;rw[BitVec.toNat_or,e4,e5,e6,M4 (by omega) (by omega)]
  omega
theorem SE {a k:Int}(h0:0<=a)(hk:0<=k)(I1:k<=64)(h:a*((2 ^ k.toNat:Nat):Int)<=18446744073709551615):Gz .u64 a k=a*((2 ^ k.toNat:Nat):Int):=by
 show wrap .u64 (a*2 ^ (min k.toNat IntKind.u64.bits))=_;have e:min k.toNat IntKind.u64.bits=k.toNat:=Nat.min_eq_left (by show k.toNat<=64;omega)
 have e2:(2:Int) ^ k.toNat=((2 ^ k.toNat:Nat):Int):=by simp
 rw[e,e2,M4 (Int.mul_nonneg h0 (Int.natCast_nonneg _)) h]
end
end Go.Proofs.YtodnjibebeghjaaDoor.Pv
