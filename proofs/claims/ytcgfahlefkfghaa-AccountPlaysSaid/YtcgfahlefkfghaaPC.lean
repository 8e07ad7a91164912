/-
  The proof of AccountPlays, part 3.
-/
import Derived.Test.YtcgfahlefkfghaaPB
import Derived.StillTail
import Derived.WalkKit
import Derived.ProofKit
import Derived.OpenShut
import Derived.ShutString
import Derived.ChangeOld
import Derived.Below
import Derived.Deep.Slices
import Derived.ChangeSame
import Derived.WideKeyArgs
import Derived.Carry
import Derived.Test.YtcgfahlefkfghaaRows
set_option linter.unusedSimpArgs false
set_option linter.unusedVariables false
namespace Go.Proofs.Ytcgfahlefkfghaa.Pv
section
section
variable {R R':Type} {Rel:Option R->Option R'->Prop}
theorem Ht (hn:Rel none none){k:IntKind}{p:PV}{K:Int->Option R}{K':Int->Option R'}(hK:∀n,Rel (K n) (K' n)):Rel (Ae k p K) (Ae k p K'):=by
 unfold Ae;split
 ·split<;>first|exact hK _|exact hn
 ·exact hn
theorem Dt (hn:Rel none none){p:PV}{K:IntKind->Int->Option R}{K':IntKind->Int->Option R'}(hK:∀k n,Rel (K k n) (K' k n)):Rel (C8 p K) (C8 p K'):=by
 unfold C8;split<;>first|exact hK _ _|exact hn
theorem Gb (hn:Rel none none){p:PV}{K:Bool->Option R}{K':Bool->Option R'}(hK:∀n,Rel (K n) (K' n)):Rel (Av p K) (Av p K'):=by
 unfold Av;split<;>first|exact hK _|exact hn
theorem E8 (hn:Rel none none){p:PV}{K:ByteArray->Option R}{K':ByteArray->Option R'}(hK:∀n,Rel (K n) (K' n)):Rel (E2 p K) (E2 p K'):=by
 unfold E2;split<;>first|exact hK _|exact hn
theorem Fc (hn:Rel none none){es:Nat}{p:PV}{K:Bool->Nat->List PV->Option R}{K':Bool->Nat->List PV->Option R'}(hK:∀z n c,Rel (K z n c) (K' z n c)):Rel (Ca es p K) (Ca es p K'):=by
 unfold Ca;split
 ·rename_i es' _ _;cases Nat.beq es' es
  ·exact hn
  ·exact hK _ _ _
 ·exact hK _ _ _
 ·exact hn
theorem Aip (hn:Rel none none){es:Nat}{p:PV}{K:PV->Option R}{K':PV->Option R'}(hK:∀p,Rel (K p) (K' p)):Rel (fsK es p K) (fsK es p K'):=by
 unfold fsK;split
 ·rename_i es' _ _;cases Nat.beq es' es
  ·exact hn
  ·exact hK _
 ·exact Fc hn fun _ _ _=>hK _
theorem WB (hn:Rel none none){es:Nat}{p:PV}{K:Nat->List PV->Option R}{K':Nat->List PV->Option R'}(hK:∀n c,Rel (K n c) (K' n c)):Rel (Kc es p K) (Kc es p K'):=by
 unfold Kc;split
 ·rename_i es' _ _;cases Nat.beq es' es
  ·exact hn
  ·exact hK _ _
 ·exact hn
theorem Au (hn:Rel none none){b:Bool}{K:Option R}{K':Option R'}(hK:b=true->Rel K K'):Rel (An b K) (An b K'):=by
 cases b
 ·exact hn
 ·exact hK rfl
theorem BM {b:Bool}{x y:Option R}{x' y':Option R'}(hx:Rel x x')(hy:Rel y y'):Rel (Bd b x y) (Bd b x' y'):=by
 cases b
 ·exact hy
 ·exact hx
theorem Cv (hn:Rel none none){α:Type}{o:Option α}{K:α->Option R}{K':α->Option R'}(hK:∀a,o=some a->Rel (K a) (K' a)):Rel (Dm o K) (Dm o K'):=by
 cases o
 ·exact hn
 ·exact hK _ rfl
theorem Be (hn:Rel none none){α:Type}{l:List α}{K:α->List α->Option R}{K':α->List α->Option R'}(hK:∀a r,l=a::r->Rel (K a r) (K' a r)):Rel (Aa l K) (Aa l K'):=by
 cases l
 ·exact hn
 ·exact hK _ _ rfl
theorem Eu (hn:Rel none none){α:Type}{l:List α}{K:Option R}{K':Option R'}(hK:Rel K K'):Rel (Ac l K) (Ac l K'):=by
 cases l
 ·exact hK
 ·exact hn
theorem Jb (hn:Rel none none){p:PV}{K:List PV->Option R}{K':List PV->Option R'}(hK:∀c,p=.agg c->Rel (K c) (K' c)):Rel (Gd p K) (Gd p K'):=by
 unfold Gd;split
 ·exact hK _ rfl
 ·exact hn
theorem XY (hn:Rel none none){p:PV}{K:List PV->Option R}{K':List PV->Option R'}(hK:∀c,Rel (K c) (K' c)):Rel (Uo p K) (Uo p K'):=by
 unfold Uo;split
 ·exact hK _
 ·exact hn
theorem JH (hn:Rel none none){r:Option A2}{K:List PV->List (List PV)->Option R} {K':List PV->List (List PV)->Option R'} (hK:∀v o,Rel (K v o) (K' v o)):Rel (Af r K) (Af r K'):=by
 unfold Af;split
 ·exact hK _ _
 ·exact hn
theorem XC (hn:Rel none none){p:PV}{K:Value->Option R}{K':Value->Option R'}(hK:∀v,Rel (K v) (K' v)):Rel (YX p K) (YX p K'):=by
 unfold YX;split
 ·exact hK _
 ·exact hK _
 ·exact hn
theorem Ah1 (hn:Rel none none){p:PV}{K:FuncId->Option R}{K':FuncId->Option R'}(hK:∀v,Rel (K v) (K' v)):Rel (fvK p K) (fvK p K'):=by
 unfold fvK;split
 ·rename_i f a b;cases (a.isEmpty&&b.isEmpty)
  ·exact hn
  ·exact hK _
 ·exact hn
theorem N8 (hn:Rel none none){t:CT}{p:PV}{K:PV->Option R}{K':PV->Option R'}(hK:∀p,Rel (K p) (K' p)):Rel (Zb t p K) (Zb t p K'):=by
 unfold Zb;split
 ·exact Ht hn fun _=>hK _
 ·exact Gb hn fun _=>hK _
 ·exact E8 hn fun _=>hK _
 ·exact Fc hn fun _ _ _=>hK _
 ·exact XC hn fun _=>hK _
theorem Aic (hn:Rel none none){t:CT}{p:PV}{K:PV->Option R}{K':PV->Option R'}(hK:∀p,Rel (K p) (K' p)):Rel (fcK t p K) (fcK t p K'):=by
 unfold fcK;split
 ·exact Aip hn hK
 ·exact N8 hn hK
theorem Pa (hn:Rel none none):∀{ts:List CT}{cells:List PV}{off:Nat}{K:List PV->Option R}{K':List PV->Option R'},(∀c,Rel (K c) (K' c))->Rel (R2 ts cells off K) (R2 ts cells off K')
 |[],_,_,_,_,hK=>hK _
 |_::_,_,_,_,_,hK=>N8 hn fun _=>Pa hn fun _=>hK _
theorem M6 (hn:Rel none none):∀{ts:List CT}{cells:List PV}{off:Nat}{K:List PV->Option R}{K':List PV->Option R'},(∀c,Rel (K c) (K' c))->Rel (Nq ts cells off K) (Nq ts cells off K')
 |[],_,_,_,_,hK=>hK _
 |_::_,_,_,_,_,hK=>Aic hn fun _=>M6 hn fun _=>hK _
theorem W9 (hn:Rel none none){g:Bool}{cells:List PV}{K:PV->Option R}{K':PV->Option R'}(hK:∀p,Rel (K p) (K' p)):Rel (WD g cells K) (WD g cells K'):=by
 cases g
 ·exact Be hn fun _ _ _=>Eu hn (hK _)
 ·exact hK _
theorem WE (hn:Rel none none){P:Program}{t:TypeId}{v:Value}{K:PV->Option R}{K':PV->Option R'}(hK:∀p,Bo p=[]->Rel (K p) (K' p)) (hK':∀c,Rel (K (.agg c)) (K' (.agg c))):Rel (cvK P t v K) (cvK P t v K'):=by
 unfold cvK;split
 ·exact Au hn fun _=>Pa hn fun _=>hK' _
 ·split
  ·exact hK _ rfl
  ·exact hn
 ·exact hK _ rfl
theorem Aca (hn:Rel none none){op:BinOp}{x y:Int}{K:Bool->Option R}{K':Bool->Option R'}(hK:∀n,Rel (K n) (K' n)):Rel (Ain op x y K) (Ain op x y K'):=by
 unfold Ain;split<;>first|exact hK _|exact hn
theorem UW (hn:Rel none none){op:BinOp}{k:IntKind}{x y:Int}{K:PV->Option R}{K':PV->Option R'}(hK:∀n,Rel (K n) (K' n)):Rel (DX op k x y K) (DX op k x y K'):=by
 unfold DX;split<;>first|exact hK _|exact Au hn fun _=>hK _|exact Aca hn fun _=>hK _
theorem UV (hn:Rel none none){op:BinOp}{x y:ByteArray}{K:PV->Option R}{K':PV->Option R'}(hK:∀n,Rel (K n) (K' n)):Rel (CG op x y K) (CG op x y K'):=by
 unfold CG;split<;>first|exact hK _|exact Au hn fun _=>hK _|exact hn
theorem JF (hn:Rel none none){e:Bool}{p:PV}{K:PV->Option R}{K':PV->Option R'}(hK:∀n,Rel (K n) (K' n)):Rel (CL e p K) (CL e p K'):=by
 unfold CL;split<;>first|exact hK _|exact BM (hK _) (BM (hK _) (hK _))|exact BM (hK _) (hK _)|exact hn
theorem QU (hn:Rel none none):∀{ts:List CT}{ps qs:List PV}{K:Bool->Option R}{K':Bool->Option R'},(∀b,Rel (K b) (K' b))->Rel (Lc ts ps qs K) (Lc ts ps qs K'):=by
 intro ts
 induction ts with
 |nil=>
  intro ps qs K K' hK;cases ps<;>cases qs<;>first|exact hK _|exact hn
 |cons t ts ih=>
  intro ps qs K K' hK;cases ps with
  |nil=>cases t<;>cases qs<;>exact hn
  |cons p ps=>
   cases qs with
   |nil=>cases t<;>exact hn
   |cons q qs=>
    cases t
    ·exact Ht hn fun _=>Ht hn fun _=>ih fun _=>hK _
    ·exact Gb hn fun _=>Gb hn fun _=>ih fun _=>hK _
    ·exact E8 hn fun _=>E8 hn fun _=>ih fun _=>hK _
    ·exact hn
    ·exact hn
theorem Adu (hn:Rel none none){P:Program}{op:BinOp}{t:TypeId}{x y:PV}{K:PV->Option R}{K':PV->Option R'}(hK:∀p,Rel (K p) (K' p)):Rel (Acw P op t x y K) (Acw P op t x y K'):=by
 unfold Acw;split
 ·split
  ·exact Ht hn fun _=>Dt hn fun _ _=>Au hn fun _=>hK _
  ·exact Ht hn fun _=>Dt hn fun _ _=>Au hn fun _=>hK _
  ·exact Ht hn fun _=>Ht hn fun _=>UW hn hK
 ·exact E8 hn fun _=>E8 hn fun _=>UV hn hK
 ·split
  ·exact Gb hn fun _=>Gb hn fun _=>hK _
  ·exact Gb hn fun _=>Gb hn fun _=>hK _
  ·exact hn
 ·split
  ·exact JF hn fun _=>hK _
  ·exact JF hn fun _=>hK _
  ·exact hn
 ·split
  ·exact hK _
  ·exact hK _
  ·exact hn
 ·exact hn
theorem QW (hn:Rel none none){P:Program}{op:BinOp}{t:TypeId}{x y:PV}{K:PV->Option R}{K':PV->Option R'}(hK:∀p,Rel (K p) (K' p)):Rel (Tg P op t x y K) (Tg P op t x y K'):=by
 unfold Tg;split
 ·split
  ·exact Au hn fun _=>Jb hn fun _ _=>Jb hn fun _ _=>QU hn fun _=>hK _
  ·exact Au hn fun _=>Jb hn fun _ _=>Jb hn fun _ _=>QU hn fun _=>hK _
  ·exact hn
 ·exact Adu hn hK
theorem Akc (hn:Rel none none){op:UnOp}{x:PV}{K:PV->Option R}{K':PV->Option R'}(hK:∀p,Rel (K p) (K' p)):Rel (unK op x K) (unK op x K'):=by
 unfold unK;split<;>first|exact Gb hn fun _=>hK _|exact Dt hn fun _ _=>hK _|exact hn
theorem Dk (hn:Rel none none){p:Option PV}{d:Nat}{K:Nat->Option R}{K':Nat->Option R'}(hK:∀n,Rel (K n) (K' n)):Rel (Gf p d K) (Gf p d K'):=by
 unfold Gf;split
 ·exact hK _
 ·exact Dt hn fun _ _=>Au hn fun _=>hK _
theorem Y9 (hn:Rel none none){x:PV}{d:Nat}{K:PV->Option R}{K':PV->Option R'}(hK:∀n,Rel (K n) (K' n)):Rel (Sl x d K) (Sl x d K'):=by
 unfold Sl;split<;>first|exact hK _|exact hn
theorem DU (hn:Rel none none){P:Program}{t:TypeId}{x:PV}{i:Int}{K:PV->Option R}{K':PV->Option R'}(hK:∀p,Rel (K p) (K' p)):Rel (Kl P t x i K) (Kl P t x i K'):=by
 unfold Kl;split
 ·exact Au hn fun _=>Au hn fun _=>Y9 hn hK
 ·refine Au hn fun _=>?_
  split
  ·exact Au hn fun _=>Au hn fun _=>hK _
  ·exact Fc hn fun _ _ _=>Au hn fun _=>hK _
 ·exact hn
theorem Yz (hn:Rel none none){F5:Nat->Option (Nat × Nat)}:∀{ps:List (Nat × PV)} {cells:List PV}{K:List PV->Option R}{K':List PV->Option R'},(∀c,Rel (K c) (K' c))->Rel (Sy F5 ps cells K) (Sy F5 ps cells K')
 |[],_,_,_,hK=>hK _
 |(_,_)::_,_,_,_,hK=>Cv hn fun _ _=>Au hn fun _=>Yz hn hK
theorem Sz (hn:Rel none none){P:Program}{t:TypeId}{K:List PV->Option R}{K':List PV->Option R'}(hK:∀p,Rel (K p) (K' p)):Rel (Gr P t K) (Gr P t K'):=
 Cv hn fun _ _=>Au hn fun _=>Pa hn hK
theorem Ago (hn:Rel none none){x y:PV}{K:PV->Option R}{K':PV->Option R'}(hK:∀p,Rel (K p) (K' p)):Rel (Ahu x y K) (Ahu x y K'):=
 Dt hn fun _ _=>Ht hn fun _=>hK _
theorem Af1 (hn:Rel none none){x y:PV}{K:PV->Option R}{K':PV->Option R'}(hK:∀p,Rel (K p) (K' p)):Rel (Aj0 x y K) (Aj0 x y K'):=
 Dt hn fun _ _=>Ht hn fun _=>hK _
theorem Agq (hn:Rel none none){P:Program}{t:TypeId}{x:PV}{K:Nat->Option R}{K':Nat->Option R'}(hK:∀p,Rel (K p) (K' p)):Rel (ZR P t x K) (ZR P t x K'):=by
 unfold ZR;split
 ·exact E8 hn fun _=>hK _
 ·exact hK _
 ·split
  ·exact Au hn fun _=>hK _
  ·exact Fc hn fun _ _ _=>hK _
 ·exact hn
def NJ (Rel:Option R->Option R'->Prop)(f f':Nat->Option (List PV)) (l:List Nat):Prop:=∀i∈l,f i=f' i∨(f i=none∧∀b,Rel none b)
variable {f f':Nat->Option (List PV)}
theorem NJ.sub {l l':List Nat}(h:NJ Rel f f' l)(hs:∀i∈l',i∈l):NJ Rel f f' l':=fun i hi=>h i (hs i hi)
theorem Xt (hn:Rel none none){l:List Nat}{id:Nat}(hf:NJ Rel f f' l)(hi:id∈l){K:List PV->Option R}{K':List PV->Option R'}(hK:∀c,f id=some c->Rel (K c) (K' c)):Rel (Dm (f id) K) (Dm (f' id) K'):=by
 rcases hf id hi with h|⟨h,hb⟩
 ·rw[←h];exact Cv hn hK
 ·rw[h];exact hb _
theorem Pu (hn:Rel none none){es:Nat}{p:PV}{K:Nat->List PV->Option R}{K':Nat->List PV->Option R'}(hf:NJ Rel f f' (Ao p)) (hK:∀n c,Rel (K n c) (K' n c)):Rel (QI f es p K) (QI f' es p K'):=by
 unfold QI;split
 ·rename_i id es' off n;cases Nat.beq es' es
  ·exact hn
  ·exact Xt hn hf (by simp[Ao]) fun _ _=>Au hn fun _=>hK _ _
 ·exact Fc hn fun _ _ _=>hK _ _
theorem Agg (hn:Rel none none){t:CT}{p:PV}{K:PV->List Nat->Option R}{K':PV->List Nat->Option R'}(hf:NJ Rel f f' (Ao p)) (hK:∀c m,(∀i∈m,f i≠none)->Rel (K c m) (K' c m)):Rel (Ns f t p K) (Ns f' t p K'):=by
 unfold Ns;split
 ·split
  ·rename_i id es' off n;cases Nat.beq es' _
   ·exact hn
   ·exact Xt hn hf (by simp[Ao]) fun c hc=>Au hn fun _=>hK _ _ (by simp[hc])
  ·exact Fc hn fun _ _ _=>hK _ _ (by simp)
 ·exact N8 hn fun _=>hK _ _ (by simp)
theorem Ts (hn:Rel none none):∀{ts:List CT}{ps:List PV}{K:List PV->List Nat->Option R}{K':List PV->List Nat->Option R'},NJ Rel f f' (ps.flatMap Ao)->(∀c m,(∀i∈m,f i≠none)->Rel (K c m) (K' c m))->Rel (Nh f ts ps K) (Nh f' ts ps K')
 |[],[],_,_,_,hK=>hK _ _ (by simp)
 |[],_::_,_,_,_,_=>hn
 |_::_,[],_,_,_,_=>hn
 |_::_,p::ps,_,_,hf,hK=>Agg hn (fun i hi=>hf i (by simp only[List.flatMap_cons,List.mem_append];exact .inl hi)) fun _ m hm=>Ts hn (fun i hi=>hf i (by simp only[List.flatMap_cons,List.mem_append];exact .inr hi)) fun _ ms FF=>hK _ _ fun i hi=>by
   rcases List.mem_append.1 hi with h|h
   ·exact hm i h
   ·exact FF i h
theorem Ae7 (hn:Rel none none){P:Program}{t:TypeId}{p:PV}{K:PV->List Nat->Option R}{K':PV->List Nat->Option R'}(hf:NJ Rel f f' (B4 p)) (hK:∀c m,(∀i∈m,f i≠none)->Rel (K c m) (K' c m)):Rel (SH P f t p K) (SH P f' t p K'):=by
 unfold SH
 have h1:∀i,i∈[p].flatMap Ao->i∈B4 p:=by
  intro i hi;simp only[List.flatMap_cons,List.flatMap_nil,List.append_nil] at hi;cases p<;>first|exact hi|simp[Ao] at hi
 cases Bv P t
 ·exact Ts hn (fun i hi=>hf i (h1 i hi)) fun _ _ hm=>Be hn fun _ _ _=>Eu hn (hK _ _ hm)
 ·refine Jb hn fun c hc=>?_
  subst hc;exact Ts hn (fun i hi=>hf i hi) fun _ _ hm=>hK _ _ hm
theorem HW (hn:Rel none none){P:Program}:∀{ts:List TypeId}{ps:List PV}{K:List PV->List Nat->Option R}{K':List PV->List Nat->Option R'},NJ Rel f f' (ps.flatMap B4)->(∀c m,(∀i∈m,f i≠none)->Rel (K c m) (K' c m))->Rel (DO P f ts ps K) (DO P f' ts ps K')
 |[],[],_,_,_,hK=>hK _ _ (by simp)
 |[],_::_,_,_,_,_=>hn
 |_::_,[],_,_,_,_=>hn
 |_::_,p::ps,_,_,hf,hK=>Ae7 hn (fun i hi=>hf i (by simp only[List.flatMap_cons,List.mem_append];exact .inl hi)) fun _ m hm=>HW hn (fun i hi=>hf i (by simp only[List.flatMap_cons,List.mem_append];exact .inr hi)) fun _ ms FF=>hK _ _ fun i hi=>by
   rcases List.mem_append.1 hi with h|h
   ·exact hm i h
   ·exact FF i h
theorem SE (hn:Rel none none){P:Program}{t:TypeId}{x:PV}{lo hi:Option PV}{K:PV->Option R}{K':PV->Option R'}(hf:(∃n e,P.underlying t=some (.array n e))->NJ Rel f f' (Ao x)) (hK:∀c,Rel (K c) (K' c)):Rel (Yf P f t x lo hi K) (Yf P f' t x lo hi K'):=by
 unfold Yf;split
 ·exact E8 hn fun _=>Dk hn fun _=>Dk hn fun _=>Au hn fun _=>hK _
 ·refine Au hn fun _=>?_
  split
  ·exact Au hn fun _=>Dk hn fun _=>Dk hn fun _=>Au hn fun _=>hK _
  ·exact Fc hn fun _ _ _=>Dk hn fun _=>Dk hn fun _=>Au hn fun _=>hK _
 ·rename_i n e hu;refine Au hn fun _=>?_
  split
  ·rename_i id off;exact Xt hn (hf ⟨_,_,hu⟩) (by simp[Ao]) fun _ _=>Au hn fun _=>Dk hn fun _=>Dk hn fun _=>Au hn fun _=>hK _
  ·exact hn
 ·exact hn
theorem NN (hn:Rel none none){P:Program}{d:Nat}{t:TypeId}{x:PV}{lo hi mx:Option PV}{K:PV->List (Nat × Bk)->Option R} {K':PV->List (Nat × Bk)->Option R'} (hK:∀c,Rel (K c [(d,.ar false [])]) (K' c [(d,.ar false [])])):Rel (Tx P d t x lo hi mx K) (Tx P d t x lo hi mx K'):=by
 unfold Tx;split
 ·refine Au hn fun _=>?_
  split
  ·exact Au hn fun _=>Dk hn fun _=>Dk hn fun _=>Dk hn fun _=>Au hn fun _=>hK _
  ·exact Fc hn fun _ _ _=>Dk hn fun _=>Dk hn fun _=>Dk hn fun _=>Au hn fun _=>hK _
 ·exact hn
theorem IC {nz:Bool}{g g':Nat->Option (List PV)} (hn:Rel none none){P:Program}{t:TypeId}{x:PV}{K:PV->Option R}{K':PV->Option R'}(hf:∀i∈Ao x,(f i=f' i∧g i=g' i)∨(f i=none∧g i=none∧∀b,Rel none b)) (hK:∀c,Rel (K c) (K' c)):Rel (Ww nz P f g t x K) (Ww nz P f' g' t x K'):=by
 unfold Ww;split
 ·rename_i id off;refine Au hn fun _=>?_
  rcases hf id (by simp[Ao]) with⟨h1,h2⟩|⟨h1,h2,h3⟩
  ·rw[←h1,←h2];split
   ·exact Pa hn fun _=>W9 hn fun _=>hK _
   ·exact Cv hn fun _ _=>M6 hn fun _=>W9 hn hK
  ·rw[h1,h2];exact h3 _
 ·exact Au hn fun _=>Pa hn fun _=>W9 hn fun _=>hK _
 ·exact hn
theorem Abj (hn:Rel none none){P:Program}{d:Nat}{src dst:TypeId}{x:PV}{K:PV->List (Nat × Bk)->Option R} {K':PV->List (Nat × Bk)->Option R'} (hf:P.underlying dst=some .string->NJ Rel f f' (Ao x)) (hK:∀v b,(∀q∈b,q.1=d)->Rel (K v b) (K' v b)):Rel (DZ P f d src dst x K) (DZ P f' d src dst x K'):=by
 unfold DZ;split
 ·exact Au hn fun _=>Dt hn fun _ _=>hK _ _ (by simp)
 ·rename_i hds;split
  ·exact E8 hn fun _=>hK _ _ (by simp)
  ·split
   ·exact Pu hn (hf hds) fun _ _=>Au hn fun _=>Cv hn fun _ _=>hK _ _ (by simp)
   ·exact Pu hn (hf hds) fun _ _=>Au hn fun _=>Cv hn fun _ _=>hK _ _ (by simp)
   ·exact hn
  ·exact hn
 ·split
  ·exact E8 hn fun _=>Au hn fun _=>hK _ _ (by simp)
  ·exact hn
 ·exact hn
theorem Ac5 (hn:Rel none none){shr:Bool}{id:Nat}{t:CT}{p:PV}{K:PV->List (Nat × Bk)->Option R} {K':PV->List (Nat × Bk)->Option R'} (hK:∀c b,(∀q∈b,q.1=id)->Rel (K c b) (K' c b)):Rel (Aes shr id t p K) (Aes shr id t p K'):=by
 unfold Aes;split
 ·cases shr
  ·exact WB hn fun _ _=>hK _ _ (by simp)
  ·exact Fc hn fun _ _ _=>hK _ _ (by simp)
 ·exact N8 hn fun _=>hK _ _ (by simp)
theorem Tw (hn:Rel none none){shr:Bool}{N:Nat}:∀{ts:List CT}{id:Nat}{ps:List PV}{K:List PV->List (Nat × Bk)->Option R} {K':List PV->List (Nat × Bk)->Option R'},(∀c b,(∀q∈b,∃j,q.1=id+N*j)->Rel (K c b) (K' c b))->Rel (P2 shr N id ts ps K) (P2 shr N id ts ps K')
 |[],_,_,_,_,hK=>Eu hn (hK _ _ (by simp))
 |_::_,id,_,_,_,hK=>Be hn fun _ _ _=>Ac5 hn fun _ b hb=>Tw hn fun _ bs Z8=>hK _ _ fun q hq=>by
   rcases List.mem_append.1 hq with h|h
   ·exact⟨0,by rw[hb q h];simp⟩
   ·obtain⟨j,hj⟩:=Z8 q h;exact⟨j+1,by rw[hj,Nat.mul_add];omega⟩
theorem Afo (hn:Rel none none){P:Program}{shr:Bool}{N id:Nat}{t:TypeId}{p:PV}{K:PV->List (Nat × Bk)->Option R} {K':PV->List (Nat × Bk)->Option R'} (hK:∀c b,(∀q∈b,∃j,q.1=id+N*j)->Rel (K c b) (K' c b)):Rel (ZW P shr N id t p K) (ZW P shr N id t p K'):=by
 unfold ZW;split
 ·refine XY hn fun ps=>Tw hn fun _ _ hb=>hK _ _ fun q hq=>?_
  rcases List.mem_cons.1 hq with rfl|hq
  ·exact⟨0,by simp⟩
  ·obtain⟨j,hj⟩:=hb q hq;exact⟨j+1,by rw[hj,Nat.mul_add];omega⟩
 cases Bv P t
 ·exact Tw hn fun _ _ hb=>Be hn fun _ _ _=>Eu hn (hK _ _ hb)
 ·exact Jb hn fun _ _=>Tw hn fun _ _ hb=>hK _ _ hb
theorem Yk (hn:Rel none none){P:Program}{shr:Bool}{N:Nat}:∀{ts:List TypeId}{id:Nat}{ps:List PV}{K:List PV->List (Nat × Bk)->Option R} {K':List PV->List (Nat × Bk)->Option R'},(∀c b,(∀q∈b,∃j,q.1=id+N*j)->Rel (K c b) (K' c b))->Rel (Zu P shr N id ts ps K) (Zu P shr N id ts ps K')
 |[],_,_,_,_,hK=>Eu hn (hK _ _ (by simp))
 |t::_,id,_,_,_,hK=>Be hn fun _ _ _=>Afo hn fun _ b hb=>Yk hn fun _ bs Z8=>hK _ _ fun q hq=>by
   rcases List.mem_append.1 hq with h|h
   ·exact hb q h
   ·obtain⟨j,hj⟩:=Z8 q h;exact⟨RK P t+j,by rw[hj,Nat.mul_add];omega⟩
end
theorem S2 {p:PV}{i:Nat}(h:i∈Ao p):i∈B4 p:=by cases p<;>first|exact h|simp[Ao] at h
theorem Fe {p:PV}{i:Nat}(h:i∈B4 p):i∈Bo p:=by cases p<;>first|exact h|simp[B4,Ao] at h
theorem Kn {p:PV}{i:Nat}(h:i∈Ao p):i∈Bo p:=Fe (S2 h)
section
variable {R R':Type} {Rel:Option R->Option R'->Prop} {P:Program} {N:Nat} {tm tm':Nat->PV} {f f' g g':Nat->Option (List PV)} {o:Oper}
theorem DT (hn:Rel none none){t:TypeId}{x:Operand}{K:PV->Option R}{K':PV->Option R'}(hx:Bu tm x=Bu tm' x)(hK:∀p,Rel (K p) (K' p)):Rel (Y7 P t tm x K) (Y7 P t tm' x K'):=by
 unfold Y7;split
 ·exact WE hn (fun _ _=>hK _) (fun _=>hK _)
 ·rw[hx];exact hK _
theorem Acr (hn:Rel none none){t:CT}{p:PV}{K:PV->Option R}{K':PV->Option R'}(hK:∀p,Ao p=[]->Rel (K p) (K' p)):Rel (Zb t p K) (Zb t p K'):=by
 unfold Zb;split
 ·exact Ht hn fun _=>hK _ rfl
 ·exact Gb hn fun _=>hK _ rfl
 ·exact E8 hn fun _=>hK _ rfl
 ·exact Fc hn fun _ _ _=>hK _ rfl
 ·exact XC hn fun _=>hK _ rfl
theorem JE (hn:Rel none none):∀{ts:List CT}{cells:List PV}{off:Nat}{K:List PV->Option R}{K':List PV->Option R'},(∀c,(∀p∈c,Ao p=[])->Rel (K c) (K' c))->Rel (R2 ts cells off K) (R2 ts cells off K')
 |[],_,_,_,_,hK=>hK _ (by simp)
 |_::_,_,_,_,_,hK=>Acr hn fun c hc=>JE hn fun cs Te=>hK _ (by
   intro p hp;rcases List.mem_cons.1 hp with h|h
   ·rw[h];exact hc
   ·exact Te p h)
theorem V3 (hn:Rel none none){t:TypeId}{K:List PV->Option R}{K':List PV->Option R'}(hK:∀c,(∀p∈c,Ao p=[])->Rel (K c) (K' c)):Rel (Gr P t K) (Gr P t K'):=
 Cv hn fun _ _=>Au hn fun _=>JE hn hK
theorem Sm {p c:PV}(h:c∈cellsOf p){i:Nat}(hi:i∈Ao c):i∈B4 p:=by
 unfold cellsOf at h;split at h
 ·exact List.mem_flatMap.2 ⟨c,h,hi⟩
 ·simp at h;subst h;exact S2 hi
theorem SR {cells new:List PV}{off:Nat}{c:PV}(h:c∈Bl cells new off):c∈cells∨c∈new:=by
 unfold Bl at h;rcases List.mem_append.1 h with h|h
 ·rcases List.mem_append.1 h with h|h
  ·exact .inl (List.mem_of_mem_take h)
  ·exact .inr h
 ·exact .inl (List.mem_of_mem_drop h)
theorem FB (hn:Rel none none){F5:Nat->Option (Nat × Nat)} {S:Nat->Prop}:∀{ps:List (Nat × PV)} {cells:List PV}{K:List PV->Option R}{K':List PV->Option R'},(∀c∈cells,∀i∈Ao c,S i)->(∀q∈ps,∀i∈B4 q.2,S i) ->
  (∀cs,(∀c∈cs,∀i∈Ao c,S i)->Rel (K cs) (K' cs))->Rel (Sy F5 ps cells K) (Sy F5 ps cells K')
 |[],_,_,_,h1,_,hK=>hK _ h1
 |(_,p)::_,_,_,_,h1,h2,hK=>Cv hn fun _ _=>Au hn fun _=>FB hn (fun c hc i hi=>by
   rcases SR hc with h|h
   ·exact h1 c h i hi
   ·exact h2 (_,p) List.mem_cons_self i (Sm h hi)) (fun q hq=>h2 q (List.mem_cons_of_mem _ hq)) hK
theorem Z4 (hn:Rel none none):∀{ts:List CT}{ps:List PV}{K:List PV->List Nat->Option R}{K':List PV->List Nat->Option R'},(∀t∈ts,∀es,t ≠ .sl es)->(∀c,Rel (K c []) (K' c []))->Rel (Nh g ts ps K) (Nh g' ts ps K')
 |[],[],_,_,_,hK=>hK _
 |[],_::_,_,_,_,_=>hn
 |_::_,[],_,_,_,_=>hn
 |t::ts,p::ps,K,K',ht,hK=>by
  show Rel (Ns g t p _) (Ns g' t p _)
  have:∀{g:Nat->Option (List PV)} {S:Type} {L:PV->List Nat->Option S},Ns g t p L=Zb t p fun c=>L c []:=by
   intro g S L;cases t with
   |sl es=>exact absurd rfl (ht _ (by simp) es)
   |_=>rfl
  rw[this,this];exact N8 hn fun c=>Z4 hn (fun t h=>ht t (by simp[h])) fun cs=>hK _
theorem Ad3 (hn:Rel none none){es:Nat}{t:TypeId}{x:PV}{K:Nat->List PV->Option R}{K':Nat->List PV->Option R'}(hx:NJ Rel g g' (Ao x)) (hK:∀m c,Rel (K m c) (K' m c)):Rel (SK P g es t x K) (SK P g' es t x K'):=by
 unfold SK;split
 ·exact Au hn fun _=>E8 hn fun _=>hK _ _
 ·exact Pu hn hx hK
 ·exact hn
theorem Aef (hn:Rel none none){t:TypeId}{x:PV}{K:Nat->Option R}{K':Nat->Option R'}(hK:∀n,Rel (K n) (K' n)):Rel (ZL P t x K) (ZL P t x K'):=by
 unfold ZL;split
 ·exact Fc hn fun _ _ _=>Au hn fun _=>hK _
 ·exact hn
theorem NK (hn:Rel none none){d:Nat}{t tx:TypeId}{x:PV}{K:PV->List (Nat × Bk)->Option R} {K':PV->List (Nat × Bk)->Option R'} (hx:NJ Rel g g' (Ao x)) (hK:∀v nw,Rel (K v nw) (K' v nw)):Rel (Tp P g d t tx x K) (Tp P g' d t tx x K'):=by
 unfold Tp;split
 ·exact Au hn fun _=>Ad3 hn hx fun _ _=>Au hn fun _=>hK _ _
 ·exact hn
theorem DP (hn:Rel none none){C:Gt}{call:Ai}{K:PV->List Nat->List (Nat × Bk)->Option R} {K':PV->List Nat->List (Nat × Bk)->Option R'}
  (Jp:∀x∈o.op.operands.toList,Bu tm x=Bu tm' x)
  (hfg:G6 P o.op=true->∀x∈o.op.operands.toList,∀i∈Bo (Bu tm' x),(f i=f' i∧g i=g' i)∨(f i=none∧g i=none∧∀b,Rel none b))
  (hK:∀v fz nw,(G6 P o.op=false->fz=[]∧∀q∈nw,o.dst=some q.1)->(∀i∈fz,g i≠none)->Rel (K v fz nw) (K' v fz nw)):
  Rel (ED C P N call tm f g o K) (ED C P N call tm' f' g' o K'):=by
 have h0:∀v,Rel (K v [] []) (K' v [] []):=fun v=>hK v [] [] (fun _=>⟨rfl,by simp⟩) (by simp)
 have hf:G6 P o.op=true->∀x∈o.op.operands.toList,NJ Rel f f' (Bo (Bu tm' x)):=fun h x hx i hi=>(hfg h x hx i hi).imp (·.1) fun h=>⟨h.1,h.2.2⟩
 have hg:G6 P o.op=true->∀x∈o.op.operands.toList,NJ Rel g g' (Bo (Bu tm' x)):=fun h x hx i hi=>(hfg h x hx i hi).imp (·.2) fun h=>⟨h.2.1,h.2.2⟩
 unfold ED;generalize XE:o.op=op at *
 split
 ·exact DT hn (Jp _ (by simp[Op.operands])) h0
 ·exact DT hn (Jp _ (by simp[Op.operands])) h0
 ·rename_i c x y;rw[Jp c (by simp[Op.operands]),Jp x (by simp[Op.operands]),Jp y (by simp[Op.operands])]
  exact Gb hn fun _=>BM (h0 _) (h0 _)
 ·exact Cv hn fun d hd=>Sz hn fun _=>hK _ _ _ (fun _=>⟨rfl,by simp[hd]⟩) (by simp)
 ·rename_i t x;rw[Jp x (by simp[Op.operands])]
  refine Cv hn fun d hd=>Au hn fun _=>?_
  cases Q7 P t
  ·exact M6 hn fun _=>hK _ _ _ (fun _=>⟨rfl,by simp[hd]⟩) (by simp)
  ·exact Pa hn fun _=>hK _ _ _ (fun _=>⟨rfl,by simp[hd]⟩) (by simp)
 ·rename_i t ps
  have:(ps.toList.map fun q=>(q.1,Bu tm q.2))=ps.toList.map fun q=>(q.1,Bu tm' q.2):=by
   apply List.map_congr_left;intro q hq;rw[Jp q.2 (by simp only[Op.operands];exact List.mem_map_of_mem hq)]
  rw[this];exact Au hn fun _=>Sz hn fun _=>Yz hn fun _=>M6 hn fun _=>h0 _
 ·rename_i t n ps
  have:(ps.toList.map fun q=>(q.1,Bu tm q.2))=ps.toList.map fun q=>(q.1,Bu tm' q.2):=by
   apply List.map_congr_left;intro q hq;rw[Jp q.2 (by simp only[Op.operands];exact List.mem_map_of_mem hq)]
  rw[this];refine Cv hn fun d hd=>?_
  split
  ·rename_i e hu;cases RF:Jc P [e]
   ·refine Au hn fun _=>V3 hn fun z hz=>Yz hn fun cs=>Z4 hn ?_ fun cs'=>hK _ _ _ (fun _=>⟨rfl,by simp[hd]⟩) (by simp)
    intro c hc es he;obtain⟨l,hl,hc⟩:=List.mem_flatten.1 hc;rw[List.eq_of_mem_replicate hl] at hc;subst he
    have:Jc P [e]=true:=by
     unfold Jc;simp only[List.any_cons,List.any_nil,Bool.or_false,Bool.or_eq_true];exact .inr (List.any_eq_true.2 ⟨_,hc,rfl⟩)
    rw[this] at RF;cases RF
   refine Au hn fun _=>V3 hn fun z hz=>FB (S:=fun i=>∃x∈(Op.buildSlice t n ps).operands.toList,i∈Bo (Bu tm' x)) hn ?_ ?_ fun cs Te=>?_
   ·intro c hc i hi;obtain⟨l,hl,hc⟩:=List.mem_flatten.1 hc;rw[List.eq_of_mem_replicate hl] at hc;rw[hz c hc] at hi;simp at hi
   ·intro q hq i hi;obtain⟨q',Fg,rfl⟩:=List.mem_map.1 hq;exact⟨q'.2,by simp only[Op.operands];exact List.mem_map_of_mem Fg,Fe hi⟩
   ·refine Ts hn (fun i hi=>?_) fun cs' m hm=>hK _ _ _ (fun h=>by simp[G6,hu,RF] at h) hm
    obtain⟨c,hc,hi⟩:=List.mem_flatMap.1 hi;obtain⟨x,hx,hxi⟩:=Te c hc i hi;exact hg (by simp[G6,hu,RF]) x hx i hxi
  ·exact hn
 ·rename_i t x;rw[Jp x (by simp[Op.operands])]
  exact IC hn (fun i hi=>hfg (by simp[G6]) x (by simp[Op.operands]) i (Kn hi)) h0
 ·rename_i x;rw[Jp x (by simp[Op.operands])]
  exact Y9 hn h0
 ·rename_i op' t x y _;rw[Jp x (by simp[Op.operands]),Jp y (by simp[Op.operands])]
  exact QW hn h0
 ·rename_i op' t x;rw[Jp x (by simp[Op.operands])]
  exact Akc hn h0
 ·rename_i src dst x;rw[Jp x (by simp[Op.operands])]
  exact Abj hn (fun hds i hi=>hg (by simp[G6,hds]) x (by simp[Op.operands]) i (Kn hi)) fun v b hb=>Cv hn fun d hd=>hK _ _ _ (fun _=>⟨rfl,fun q hq=>by rw[hd,hb q hq,hd];rfl⟩) (by simp)
 ·rename_i t x y;rw[Jp x (by simp[Op.operands]),Jp y (by simp[Op.operands])]
  refine Cv hn fun d hd=>?_
  split
  ·exact Dt hn fun _ _=>Dt hn fun _ _=>Au hn fun _=>Sz hn fun _=>hK _ _ _ (fun _=>⟨rfl,by simp[hd]⟩) (by simp)
  ·exact hn
 ·rename_i t x lo hi mx;split
  ·rw[Jp x (by simp[Op.operands])]
   have h1:lo.map (Bu tm)=lo.map (Bu tm'):=by
    cases lo with
    |none=>rfl
    |some y=>simp only[Option.map_some];rw[Jp y (by simp[Op.operands])]
   have h2:hi.map (Bu tm)=hi.map (Bu tm'):=by
    cases hi with
    |none=>rfl
    |some y=>simp only[Option.map_some];rw[Jp y (by simp[Op.operands])]
   rw[h1,h2];exact SE hn (fun ⟨n,e,he⟩ i hi=>hf (by simp[G6,he]) x (by simp[Op.operands]) i (Kn hi)) h0
  ·rename_i m;rw[Jp x (by simp[Op.operands])]
   have h1:lo.map (Bu tm)=lo.map (Bu tm'):=by
    cases lo with
    |none=>rfl
    |some y=>simp only[Option.map_some];rw[Jp y (by simp[Op.operands])]
   have h2:hi.map (Bu tm)=hi.map (Bu tm'):=by
    cases hi with
    |none=>rfl
    |some y=>simp only[Option.map_some];rw[Jp y (by simp[Op.operands])]
   rw[h1,h2,Jp m (by simp[Op.operands])]
   exact Cv hn fun d hd=>NN hn fun c=>hK _ _ _ (fun _=>⟨rfl,by simp[hd]⟩) (by simp)
 ·rename_i t x fl;rw[Jp x (by simp[Op.operands])]
  exact Cv hn fun _ _=>Au hn fun _=>Y9 hn h0
 ·rename_i t x fl;rw[Jp x (by simp[Op.operands])]
  exact Cv hn fun _ _=>Au hn fun _=>Jb hn fun _ _=>M6 hn fun _=>W9 hn h0
 ·rename_i t x i;rw[Jp x (by simp[Op.operands]),Jp i (by simp[Op.operands])]
  exact Dt hn fun _ _=>DU hn h0
 ·rename_i t x i;rw[Jp x (by simp[Op.operands]),Jp i (by simp[Op.operands])]
  refine Dt hn fun _ _=>?_
  split
  ·exact E8 hn fun _=>Au hn fun _=>Cv hn fun _ _=>h0 _
  ·exact Jb hn fun _ _=>Au hn fun _=>M6 hn fun _=>W9 hn h0
  ·exact hn
 ·rename_i t x k ok;rw[Jp x (by simp[Op.operands]),Jp k (by simp[Op.operands])]
  split
  ·refine Au hn fun _=>?_
   split
   ·exact E8 hn fun _=>Cv hn fun _ _=>WE hn (fun _ _=>Au hn fun _=>h0 _) (fun _=>Au hn fun _=>h0 _)
   ·exact hn
  ·exact hn
 ·rename_i x i;rw[Jp x (by simp[Op.operands])]
  split
  ·exact Cv hn fun _ _=>h0 _
  ·exact hn
 ·rename_i c
  have Km:∀x∈c.args.toList,x∈(Op.call c).operands.toList:=by
   intro x hx;simp only[Op.operands,Call.operands,Array.toList_append,List.mem_append];exact .inr hx
  have rc:∀fn,G6 P (.call c)=true->Rel (FG C P N call tm g o c fn K) (FG C P N call tm' g' o c fn K'):=by
   intro fn hmm;unfold FG;have:c.args.toList.map (Bu tm)=c.args.toList.map (Bu tm'):=List.map_congr_left fun x hx=>Jp x (Km x hx)
   rw[this];refine HW hn (fun i hi=>?_) fun vs m hm=>JH hn fun rv ro=>Eu hn (Au hn fun _=>Yk hn fun ws bs Z8=>Au hn fun _=>hK _ _ _ (fun h=>by rw[hmm] at h;cases h) (fun i hi=>?_))
   ·obtain⟨p,hp,hi⟩:=List.mem_flatMap.1 hi;obtain⟨x,hx,rfl⟩:=List.mem_map.1 hp;exact hg hmm x (Km x hx) i (Fe hi)
   ·have FI:i∈m:=by
     cases hq:Jc P (M4 P o.type)<;>rw[hq] at hi
     ·simp at hi
     ·exact hi
    exact hm i FI
  split
  ·refine Be hn fun x _ hx=>Be hn fun _ _ _=>?_
   rw[Jp x (Km x (by rw[hx];simp))]
   exact Agq hn fun _=>h0 _
  ·refine Be hn fun x _ hx=>Be hn fun _ _ _=>?_
   rw[Jp x (Km x (by rw[hx];simp))]
   exact Aef hn fun _=>h0 _
  ·refine Be hn fun x _ hx=>Be hn fun y _ hy=>Eu hn ?_
   subst hy;rw[Jp x (Km x (by rw[hx];simp)),Jp y (Km y (by rw[hx];simp))]
   exact Ago hn h0
  ·refine Be hn fun x _ hx=>Be hn fun y _ hy=>Eu hn ?_
   subst hy;rw[Jp x (Km x (by rw[hx];simp)),Jp y (Km y (by rw[hx];simp))]
   exact Af1 hn h0
  ·rename_i hc;have hmm:G6 P (.call c)=true:=by simp[G6,hc]
   refine Au hn fun _=>Cv hn fun d hd=>Be hn fun _ _ hb=>Be hn fun x _ hx=>Eu hn (Be hn fun _ _ _=>Be hn fun _ _ _=>?_)
   have ZP:x∈c.args.toList:=by rw[hb,hx];simp
   rw[Jp x (Km x ZP)];exact NK hn (fun i hi=>hg hmm x (Km x ZP) i (Kn hi)) fun v nw=>hK _ _ _ (fun h=>by rw[hmm] at h;cases h) (by simp)
  ·rename_i fn hc;have hmm:G6 P (.call c)=true:=by simp[G6,hc]
   exact rc fn hmm
  ·rename_i t hc;have hmm:G6 P (.call c)=true:=by simp[G6,hc]
   have ht:=Jp (.tmp t) (by simp[Op.operands,Call.operands,hc])
   change tm t=tm' t at ht;rw[ht];exact Ah1 hn fun fn=>rc fn hmm
  ·exact hn
 ·exact hn
variable {hp:Nat->Option Bk}
end
open Go.RowKit
abbrev R8:=PV × List Nat × List (Nat × Bk)
def Gj (ops:Array Oper)(o:Oper)(tm:Nat->PV):Option Bool:=
 match o.guard with
 |none=>some true
 |some (j,want)=>
  match (ops[j]?).bind (·.dst) with
  |none=>none
  |some d=>
   match tm d with
   |.sc (.bool b)=>some (b==want)
   |.sc (.tuple _)=>some false
   |_=>none
section
variable {R:Type} {r:R} {C:Gt} {P:Program} {N:Nat} {call:Ai} {ops:Array Oper} {o x:Oper} {s:St} {K:St->Option R}
theorem MN:C9 C P N call ops o s K=match Gj ops o s.tm with
  |none=>none
  |some true=>PP C P N call o s K
  |some false=>An (F0 N o.dst) (K ⟨Bj s.tm o.dst (.sc undef),s.hp⟩):=by
 unfold C9 Gj;cases o.guard with
 |none=>rfl
 |some q=>
  obtain⟨j,want⟩:=q;cases hd:(ops[j]?).bind (·.dst) with
  |none=>simp[hd]
  |some d=>
   simp only[hd];cases ht:s.tm d with
   |sc v=>
    cases v with
    |bool b=>
     cases b<;>cases want<;>simp only[Bd,cond_true,cond_false,Xr s.tm ht]<;>rfl
    |_=>rfl
   |_=>rfl
def ZO (C:Gt)(P:Program)(N:Nat)(call:Ai)(o:Oper)(s:St):Option R8:=
 ED C P N call s.tm (rd s.hp) (I9 s.hp) o fun v fz nw=>some (v,fz,nw)
theorem Ah0 {K:PV->List Nat->List (Nat × Bk)->Option R}:ED C P N call s.tm (rd s.hp) (I9 s.hp) o K=(ZO C P N call o s).bind fun q=>K q.1 q.2.1 q.2.2:=by
 refine DP (Rel:=fun (a:Option R) (b:Option R8)=>a=b.bind fun q=>K q.1 q.2.1 q.2.2) (K:=K) (K':=fun v fz nw=>some (v,fz,nw)) rfl (fun _ _=>rfl) (fun _ _ _ _ _=>.inl ⟨rfl,rfl⟩) fun v fz nw _ _=>rfl
theorem SI {q:R8}(h:ZO C P N call o s=some q):(G6 P o.op=false->q.2.1=[]∧∀p∈q.2.2,o.dst=some p.1)∧∀i∈q.2.1,I9 s.hp i≠none:=by
 have:=DP (C:=C) (P:=P) (N:=N) (call:=call) (o:=o) (tm:=s.tm) (tm':=s.tm) (f:=rd s.hp) (f':=rd s.hp) (g:=I9 s.hp) (g':=I9 s.hp)
  (Rel:=fun (a:Option R8)(_:Option R8)=>∀q,a=some q->(G6 P o.op=false->q.2.1=[]∧∀p∈q.2.2,o.dst=some p.1)∧∀i∈q.2.1,I9 s.hp i≠none)
  (K:=fun v fz nw=>some (v,fz,nw)) (K':=fun v fz nw=>some (v,fz,nw)) (fun _ h=>by cases h) (fun _ _=>rfl) (fun _ _ _ _ _=>.inl ⟨rfl,rfl⟩) (fun v fz nw h1 h2 q hq=>by cases hq;exact⟨h1,h2⟩)
 exact this q h
def gE (C:Gt)(P:Program)(N:Nat)(call:Ai)(ops:Array Oper)(o:Oper)(s:St):Option R8:=
 match Gj ops o s.tm with
 |none=>none
 |some true=>bif Qi C P o.op then none else ZO C P N call o s
 |some false=>some (.sc undef,[],[])
def Ge (C:Gt)(P:Program)(ops:Array Oper)(o:Oper)(tm:Nat->PV):Bool:=Qi C P o.op&&(Gj ops o tm==some true)
theorem Ku (h:Ge C P ops o s.tm=false):C9 C P N call ops o s K=(gE C P N call ops o s).bind fun q=>Y1 N s o.dst q.1 q.2.1 q.2.2 K:=by
 rw[MN];unfold gE;unfold Ge at h;cases hv:Gj ops o s.tm with
 |none=>rfl
 |some b=>
  rw[hv] at h;cases b with
  |false=>
   show An _ _=Y1 N s o.dst (.sc undef) [] [] K;unfold Y1;have h1:Bn s.hp []=true:=rfl;have h2:Aq (Ad s.hp []) []=s.hp:=rfl;rw[h1,h2,Bool.and_true]
  |true=>
   have hm:Qi C P o.op=false:=by simpa using h
   simp only[PP,hm,cond_false];exact Ah0
theorem Ia (h:Ge C P ops o s.tm=true):C9 C P N call ops o s K=Ui C P N call s o K:=by
 rw[MN];unfold Ge at h;simp only[Bool.and_eq_true,beq_iff_eq] at h;rw[h.2];simp only[PP,h.1,cond_true]
theorem Su {q:R8}(h:gE C P N call ops o s=some q):(G6 P o.op=false->q.2.1=[]∧∀p∈q.2.2,o.dst=some p.1)∧∀i∈q.2.1,I9 s.hp i≠none:=by
 unfold gE at h;split at h
 ·cases h
 ·cases hm:Qi C P o.op<;>rw[hm] at h
  ·exact SI h
  ·cases h
 ·cases h;exact⟨fun _=>⟨rfl,by simp⟩,by simp⟩
theorem E3 {tm tm':Nat->PV}(h:∀t∈Ds ops o,tm t=tm' t):∀y∈o.op.operands.toList,Bu tm y=Bu tm' y:=by
 intro y hy;cases y with
 |tmp t=>
  refine h t ?_;unfold Ds Af6;refine List.mem_append.2 (.inl (List.mem_filterMap.2 ⟨.tmp t,hy,rfl⟩))
 |const v=>cases v<;>rfl
 |func f=>rfl
 |«global» g=>rfl
theorem Kx {tm tm':Nat->PV}(h:∀t∈Ds ops o,tm t=tm' t):Gj ops o tm=Gj ops o tm':=by
 unfold Gj;cases hg:o.guard with
 |none=>rfl
 |some q=>
  obtain⟨j,want⟩:=q;cases hd:(ops[j]?).bind (·.dst) with
  |none=>simp[hd]
  |some d=>
   have:tm d=tm' d:=h d (by
    unfold Ds;rw[hg];refine List.mem_append.2 (.inr ?_);simp only[hd];simp)
   simp only[hd,this]
theorem Xn {s':St}{q:R8}(ht:∀t∈Ds ops o,s.tm t=s'.tm t)
  (hm:G6 P o.op=true->∀y∈o.op.operands.toList,∀i∈Bo (Bu s'.tm y),(rd s.hp i=rd s'.hp i∧I9 s.hp i=I9 s'.hp i)∨(rd s.hp i=none∧I9 s.hp i=none))
  (h:gE C P N call ops o s=some q):gE C P N call ops o s'=some q:=by
 unfold gE at h ⊢;rw[←Kx ht];split at h
 ·cases h
 ·cases hM:Qi C P o.op<;>rw[hM] at h
  ·have:=DP (C:=C) (P:=P) (N:=N) (call:=call) (o:=o) (tm:=s.tm) (tm':=s'.tm) (f:=rd s.hp) (f':=rd s'.hp) (g:=I9 s.hp) (g':=I9 s'.hp)
    (Rel:=fun (a b:Option R8)=>a=some q->b=some q)
    (K:=fun v fz nw=>some (v,fz,nw)) (K':=fun v fz nw=>some (v,fz,nw)) (fun h=>h) (E3 ht)
    (fun Mj y hy i hi=>(hm Mj y hy i hi).imp id fun h=>⟨h.1,h.2,fun _ h=>by cases h⟩) (fun v fz nw _ _ h=>h)
   exact this h
  ·cases h
 ·exact h
end
open Go.RowKit
theorem Qa:∀{nw:List (Nat × Bk)} {hp Ck:Nat->Option Bk},Bn hp nw=true->(∀i b,(i,b)∈nw->Ck i=none)->Bn Ck nw=true
 |[],_,_,_,_=>rfl
 |(i,b)::nw,hp,Ck,h,h'=>by
  simp only[Bn,Bool.and_eq_true,Option.isNone_iff_eq_none] at h ⊢;exact⟨⟨h' i b (by simp),h.1.2⟩,Qa h.2 fun j c hj=>h' j c (by simp[hj])⟩
section
variable {hp:Nat->Option Bk} {fz:List Nat} {nw:List (Nat × Bk)}
theorem Fo (ha:Bn hp nw=true){i:Nat}(hi:hp i≠none):Aq (Ad hp fz) nw i=if i∈fz then (hp i).map S9 else hp i:=by
 obtain⟨h1,h2⟩:=Bg ha;rw[(D3 h2).2 i (fun bx hb=>hi (h1 i bx hb)),Bq]
theorem Ij (ha:Bn hp nw=true){i:Nat}{b:Bk}(hi:(i,b)∈nw):Aq (Ad hp fz) nw i=some b:=
 (D3 (Bg ha).2).1 i b hi
theorem M1 (ha:Bn hp nw=true){i:Nat}(hi:hp i=none)(hn:∀b,(i,b) ∉ nw):Aq (Ad hp fz) nw i=none:=by
 rw[(D3 (Bg ha).2).2 i hn,Bq,hi];simp
theorem Mx (ha:Bn hp nw=true){i:Nat}(hi:hp i≠none):Aq (Ad hp fz) nw i≠none:=by
 rw[Fo ha hi];cases h:hp i with
 |none=>exact absurd h hi
 |some b=>split<;>simp
theorem Akk (b:Option Bk):(match b.map S9 with|some (.st c)=>some c|some (.ar _ c)=>some c|_=>none)=(match b with|some (.st c)=>some c|some (.ar _ c)=>some c|_=>none):=by
 cases b with
 |none=>rfl
 |some b=>cases b<;>rfl
theorem Adl (b:Option Bk):(match b.map S9 with|some (.ar _ c)=>some c|_=>none)=(match b with|some (.ar _ c)=>some c|_=>none):=by
 cases b with
 |none=>rfl
 |some b=>cases b<;>rfl
theorem OB (ha:Bn hp nw=true){i:Nat}(hi:hp i≠none):rd (Aq (Ad hp fz) nw) i=rd hp i:=by
 unfold rd;rw[Fo ha hi];by_cases h:i∈fz
 ·rw[if_pos h];exact Akk _
 ·rw[if_neg h]
theorem HZ (ha:Bn hp nw=true){i:Nat}(hi:hp i≠none):I9 (Aq (Ad hp fz) nw) i=I9 hp i:=by
 unfold I9;rw[Fo ha hi];by_cases h:i∈fz
 ·rw[if_pos h];exact Adl _
 ·rw[if_neg h]
theorem WU {i:Nat}(hi:hp i=none):rd hp i=none:=by unfold rd;rw[hi]
theorem K2 {i:Nat}(hi:hp i=none):I9 hp i=none:=by unfold I9;rw[hi]
theorem A4h (b:Option Bk):(b.map S9).map S9=b.map S9:=by
 cases b with
 |none=>rfl
 |some b=>cases b<;>rfl
theorem UK {fx fo:List Nat}{nx no:List (Nat × Bk)} (hx:Bn hp nx=true)(ho:Bn (Aq (Ad hp fx) nx) no=true) (QT:Bn hp no=true)
  (Um:Bn (Aq (Ad hp fo) no) nx=true) (h1:∀i∈fx,hp i≠none)(h2:∀i∈fo,hp i≠none):
  Aq (Ad (Aq (Ad hp fx) nx) fo) no=Aq (Ad (Aq (Ad hp fo) no) fx) nx:=by
 funext i
 by_cases hi:hp i=none
 ·by_cases QD:∃b,(i,b)∈no
  ·obtain⟨b,hb⟩:=QD
   have hnx:∀b',(i,b') ∉ nx:=fun b' Hh=>by
    have:=(Bg ho).1 i b hb;rw[Ij hx Hh] at this;cases this
   rw[Ij ho hb,Fo Um (by rw[Ij QT hb];simp),Ij QT hb,if_neg (fun h=>h1 i h hi)]
  ·have QD:∀b,(i,b) ∉ no:=fun b hb=>QD ⟨b,hb⟩
   by_cases hnx:∃b,(i,b)∈nx
   ·obtain⟨b,hb⟩:=hnx;rw[Ij Um hb,Fo ho (by rw[Ij hx hb];simp),Ij hx hb,if_neg (fun h=>h2 i h hi)]
   ·have hnx:∀b,(i,b) ∉ nx:=fun b hb=>hnx ⟨b,hb⟩
    rw[M1 ho (M1 hx hi hnx) QD,M1 Um (M1 QT hi QD) hnx]
 ·rw[Fo ho (Mx hx hi),Fo hx hi,Fo Um (Mx QT hi),Fo QT hi];split<;>split<;>first|rfl|rw[A4h]
end
section
variable {R:Type} {r:R} {C:Gt} {P:Program} {N:Nat} {call:Ai} {ops:Array Oper} {o x:Oper} {s:St} {K:St->Option R}
structure Xs (C:Gt) (P:Program) (ops:Array Oper) (x o:Oper):Prop where
 xo:∀d,x.dst=some d->d ∉ Ds ops o
 ne:∀d,x.dst=some d->o.dst≠some d
 ox:∀d,o.dst=some d->d ∉ Ds ops x
 mx:Qi C P x.op=true->G6 P o.op=false
 mo:Qi C P o.op=true->G6 P x.op=false
theorem Rd {l:List Nat}{d:Nat}(h:l.any (Nat.beq d)=false):d ∉ l:=by
 intro hm;have:l.any (Nat.beq d)=true:=List.any_eq_true.2 ⟨d,hm,Nat.beq_refl d⟩;rw[this] at h;cases h
theorem Ahc (h:CK C P ops x o=false):Xs C P ops x o:=by
 unfold CK at h;simp only[Bool.or_eq_false_iff,Bool.and_eq_false_iff] at h;obtain⟨⟨⟨h1,h2⟩,h3⟩,h4⟩:=h;refine⟨fun d hd=>?_,fun d hd he=>?_,fun d hd=>?_,fun hm=>?_,fun hm=>?_⟩
 ·simp only[hd,Bool.or_eq_false_iff] at h1;exact Rd h1.1
 ·simp only[hd,he,Bool.or_eq_false_iff] at h1;rw[Nat.beq_refl] at h1;cases h1.2
 ·simp only[hd] at h2;exact Rd h2
 ·rw[hm] at h3;rcases h3 with h|h
  ·cases h
  ·exact h
 ·rw[hm] at h4;rcases h4 with h|h
  ·cases h
  ·exact h
theorem Ef {tm:Nat->PV}{d:Option Tmp}{v:PV}{l:List Nat}(h:∀i,d=some i->i ∉ l):∀t∈l,Bj tm d v t=tm t:=by
 intro t ht;cases d with
 |none=>rfl
 |some d=>exact Ah _ _ (by rintro rfl;exact h _ rfl ht)
theorem Ko {tm:Nat->PV}{d e:Option Tmp}{u v:PV}(h:∀i,d=some i->e≠some i):Bj (Bj tm d u) e v=Bj (Bj tm e v) d u:=by
 cases d with
 |none=>rfl
 |some d=>
  cases e with
  |none=>rfl
  |some e=>exact OJ _ _ _ (by rintro rfl;exact h _ rfl rfl)
def RT (C:Gt)(P:Program)(o:Oper)(s:St):Prop:=(∀y∈o.op.operands.toList,∀i∈Bo (Bu s.tm y),s.hp i≠none) ∧
 (Qi C P o.op=true->Mz o.op=false->∀y∈o.op.operands.toList,∀i∈Bo (Bu s.tm y),∀c,s.hp i=some (.st c)->∀p∈c,∀k∈Ao p,s.hp k≠none)
theorem G3 {tm tm':Nat->PV}(h:∀t∈Ds ops o,tm t=tm' t):Ge C P ops o tm=Ge C P ops o tm':=by
 unfold Ge;rw[Kx h]
theorem WM (hw:RT C P o s)(xo:∀d,x.dst=some d->d ∉ Ds ops o)(ne:∀d,x.dst=some d->o.dst≠some d)(ox:∀d,o.dst=some d->d ∉ Ds ops x)(hx:Ge C P ops x s.tm=false)(ho:Ge C P ops o s.tm=false)
  (h:C9 C P N call ops x s (fun s1=>C9 C P N call ops o s1 K)=some r):C9 C P N call ops o s (fun s1=>C9 C P N call ops x s1 K)=some r:=by
 rw[Ku hx] at h;cases ex:gE C P N call ops x s with
 |none=>rw[ex] at h;cases h
 |some q=>
 obtain⟨vx,fx,nx⟩:=q;rw[ex] at h;obtain⟨hb,h1⟩:=Aj h;simp only[Bool.and_eq_true] at hb;have t1:∀t∈Ds ops o,Bj s.tm x.dst vx t=s.tm t:=Ef xo;change C9 C P N call ops o ⟨Bj s.tm x.dst vx,Aq (Ad s.hp fx) nx⟩ K=some r at h1;rw[Ku (by rw[G3 t1];exact ho)] at h1
 cases eo:gE C P N call ops o ⟨Bj s.tm x.dst vx,Aq (Ad s.hp fx) nx⟩ with
 |none=>rw[eo] at h1;cases h1
 |some q=>
 obtain⟨vo,fo,no⟩:=q;rw[eo] at h1;obtain⟨hc,h2⟩:=Aj h1;change K ⟨Bj (Bj s.tm x.dst vx) o.dst vo,Aq (Ad (Aq (Ad s.hp fx) nx) fo) no⟩=some r at h2;simp only[Bool.and_eq_true] at hc
 have eo':gE C P N call ops o s=some (vo,fo,no):=by
  refine Xn t1 (fun _ y hy i hi=>?_) eo
  have:=hw.1 y hy i hi;exact .inl ⟨OB hb.2 this,HZ hb.2 this⟩
 have QT:Bn s.hp no=true:=Qa hc.2 fun i b hi=>by
  cases hs:s.hp i with
  |none=>rfl
  |some c=>exact absurd ((Bg hc.2).1 i b hi) (Mx hb.2 (by rw[hs];simp))
 rw[Ku ho,eo']
 have Um:Bn (Aq (Ad s.hp fo) no) nx=true:=Qa hb.2 fun i b hi=>by
  refine M1 QT ((Bg hb.2).1 i b hi) fun c Rj=>?_
  have:=(Bg hc.2).1 i c Rj;rw[Ij hb.2 hi] at this;cases this
 have t2:∀t∈Ds ops x,s.tm t=Bj s.tm o.dst vo t:=fun t ht=>(Ef ox t ht).symm
 have ex':gE C P N call ops x ⟨Bj s.tm o.dst vo,Aq (Ad s.hp fo) no⟩=some (vx,fx,nx):=by
  refine Xn t2 (fun _ y hy i hi=>?_) ex
  by_cases hs:s.hp i=none
  ·exact .inr ⟨WU hs,K2 hs⟩
  ·exact .inl ⟨(OB QT hs).symm,(HZ QT hs).symm⟩
 show An _ _=_;rw[hc.1,QT];show C9 C P N call ops x ⟨Bj s.tm o.dst vo,Aq (Ad s.hp fo) no⟩ K=some r;rw[Ku (by rw[←G3 t2];exact hx),ex']
 show An _ _=_;rw[hb.1,Um];rw[←h2];have hfx:∀i∈fx,s.hp i≠none:=fun i hi hs=>(Su ex).2 i hi (K2 hs)
 have hfo:∀i∈fo,s.hp i≠none:=fun i hi hs=>(Su eo').2 i hi (K2 hs)
 show K ⟨Bj (Bj s.tm o.dst vo) x.dst vx,Aq (Ad (Aq (Ad s.hp fo) no) fx) nx⟩=K _;rw[Ko ne,UK hb.2 hc.2 QT Um hfx hfo]
end
open Go.RowKit
theorem Xm {C:Gt}{P:Program}{o:Op}(h:Qi C P o=true):G6 P o=true:=by
 unfold Qi at h;split at h
 ·rfl
 ·rename_i c;unfold G6;simp only;split at h<;>rename_i hc
  ·rw[hc]
  ·rw[hc]
  ·cases h
  ·rw[hc]
  ·cases h
 ·cases h
structure GS (N:Nat) (S:Nat->Prop) (dst:Option Nat) (hp Dd Ck E0:Nat->Option Bk):Prop where
 keep:∀i,hp i≠none->Ck i≠none
 off:∀i,i<N->dst≠some i->(¬S i∨hp i=none)->Ck i=hp i∧E0 i=Dd i
 same:∀i,hp i=Dd i->Ck i=E0 i
 far:∀i,¬S i->hp i≠none->Ck i=hp i
section
variable {R R':Type} {Rel:Option R->Option R'->Prop} {P:Program} {N:Nat} {tm tm':Nat->PV} {hp Dd:Nat->Option Bk} {f f':Nat->Option (List PV)} {o:Oper}
theorem IG (hn:Rel none none){t:CT}{p:PV}{K:PV->List Nat->Option R}{K':PV->List Nat->Option R'}(hf:NJ Rel f f' (Ao p)) (hK:∀c m,(∀i∈m,f i≠none∧i∈Ao p)->Rel (K c m) (K' c m)):Rel (Ns f t p K) (Ns f' t p K'):=by
 unfold Ns;split
 ·split
  ·rename_i id es' off n;cases Nat.beq es' _
   ·exact hn
   ·exact Xt hn hf (by simp[Ao]) fun c hc=>Au hn fun _=>hK _ _ (by simp[hc,Ao])
  ·exact Fc hn fun _ _ _=>hK _ _ (by simp)
 ·exact N8 hn fun _=>hK _ _ (by simp)
theorem DC (hn:Rel none none):∀{ts:List CT}{ps:List PV}{K:List PV->List Nat->Option R}{K':List PV->List Nat->Option R'},NJ Rel f f' (ps.flatMap Ao)->(∀c m,(∀i∈m,f i≠none∧i∈ps.flatMap Ao)->Rel (K c m) (K' c m))->Rel (Nh f ts ps K) (Nh f' ts ps K')
 |[],[],_,_,_,hK=>hK _ _ (by simp)
 |[],_::_,_,_,_,_=>hn
 |_::_,[],_,_,_,_=>hn
 |_::_,p::ps,_,_,hf,hK=>IG hn (fun i hi=>hf i (by simp only[List.flatMap_cons,List.mem_append];exact .inl hi)) fun _ m hm=>DC hn (fun i hi=>hf i (by simp only[List.flatMap_cons,List.mem_append];exact .inr hi)) fun _ ms FF=>hK _ _ fun i hi=>by
   simp only[List.flatMap_cons,List.mem_append];rcases List.mem_append.1 hi with h|h
   ·exact⟨(hm i h).1,.inl (hm i h).2⟩
   ·exact⟨(FF i h).1,.inr (FF i h).2⟩
theorem Tn {S:Nat->Prop}{dst:Option Nat}{id:Nat}{b:Bk}{h0 h1:Nat->Option Bk}(hS:S id)(Bb:hp id≠none)(h:GS N S dst hp Dd h0 h1):GS N S dst hp Dd (Cb h0 id (some b)) (Cb h1 id (some b)):=by
 refine⟨fun i hi=>?_,fun i hN hd hi=>?_,fun i hi=>?_,fun i hn hi=>?_⟩
 ·by_cases e:i=id
  ·subst e;rw[Al];simp
  ·rw[Ah _ _ e];exact h.keep i hi
 ·have e:i≠id:=by
   rintro rfl
   rcases hi with hi|hi
   ·exact hi hS
   ·exact Bb hi
  rw[Ah _ _ e,Ah _ _ e];exact h.off i hN hd hi
 ·by_cases e:i=id
  ·subst e;rw[Al,Al]
  ·rw[Ah _ _ e,Ah _ _ e];exact h.same i hi
 ·rw[Ah _ _ (by rintro rfl;exact hn hS)];exact h.far i hn hi
theorem KW {S:Nat->Prop}{d:Nat}{b:Bk}{h0 h1:Nat->Option Bk}(hz:hp d=none)(h:GS N S (some d) hp Dd h0 h1):GS N S (some d) hp Dd (Cb h0 d (some b)) (Cb h1 d (some b)):=by
 refine⟨fun i hi=>?_,fun i hN hd hi=>?_,fun i hi=>?_,fun i hn hi=>?_⟩
 ·by_cases e:i=d
  ·subst e;rw[Al];simp
  ·rw[Ah _ _ e];exact h.keep i hi
 ·have e:i≠d:=by rintro rfl;exact hd rfl
  rw[Ah _ _ e,Ah _ _ e];exact h.off i hN hd hi
 ·by_cases e:i=d
  ·subst e;rw[Al,Al]
  ·rw[Ah _ _ e,Ah _ _ e];exact h.same i hi
 ·rw[Ah _ _ (by rintro rfl;exact hi hz)];exact h.far i hn hi
theorem S0 (S:Nat->Prop)(dst:Option Nat):GS N S dst hp Dd hp Dd:=⟨fun _ h=>h,fun _ _ _ _=>⟨rfl,rfl⟩,fun _ h=>h,fun _ _ _=>rfl⟩
theorem TM {S:Nat->Prop}{dst:Option Nat}{m:List Nat}(hm:∀i∈m,hp i≠none∧S i):GS N S dst hp Dd (Ad hp m) (Ad Dd m):=by
 refine⟨fun i hi=>fun h=>hi (Dq.1 h),fun i hN hd hi=>?_,fun i hi=>?_,fun i hn hi=>?_⟩
 ·have e:i ∉ m:=by
   intro h;rcases hi with hi|hi
   ·exact hi (hm i h).2
   ·exact (hm i h).1 hi
  rw[Bq,Bq,if_neg e,if_neg e];exact⟨rfl,rfl⟩
 ·rw[Bq,Bq,hi]
 ·rw[Bq,if_neg (fun h=>hn (hm i h).2)]
theorem KP {S:Nat->Prop}(h:∀i,S i->hp i=Dd i∨(hp i=none∧∀b,Rel none b)) {l:List Nat}(hl:∀i∈l,S i):NJ Rel (I9 hp) (I9 Dd) l:=by
 intro i hi;rcases h i (hl i hi) with h|⟨h,h'⟩
 ·left;unfold I9;rw[h]
 ·exact .inr ⟨K2 h,h'⟩
theorem PN (hn:Rel none none){t:TypeId}{a x:PV}{K:St->Option R}{K':St->Option R'}{S:Nat->Prop}(hS:∀i,S i->hp i=Dd i∨(hp i=none∧∀b,Rel none b)) (ha:∀i∈Ao a,S i)(hx:∀i∈B4 x,S i)
  (hK:∀Ck E0,GS N S none hp Dd Ck E0->Rel (K ⟨tm,Ck⟩) (K' ⟨tm',E0⟩)):Rel (Yu P ⟨tm,hp⟩ t a x K) (Yu P ⟨tm',Dd⟩ t a x K'):=by
 unfold Yu;split
 ·rename_i id off;show Rel (match hp id with|some (.st c)=>_|some (.ar false c)=>_|_=>none) (match Dd id with|some (.st c)=>_|some (.ar false c)=>_|_=>none)
  have Bb:S id:=ha id (by simp[Ao])
  rcases hS id Bb with h|⟨h,hb⟩
  ·rw[←h];split
   ·rename_i c hc;exact Au hn fun _=>M6 hn fun _=>hK _ _ (Tn Bb (by rw[hc];simp) (S0 _ _))
   ·rename_i c hc;refine Au hn fun _=>DC hn (KP hS fun i hi=>hx i ?_) fun _ m hm=>Au hn fun _=>hK _ _ (Tn Bb (by rw[hc];simp) (TM fun i hi=>⟨fun h=>(hm i hi).1 (K2 h),hx i ?_⟩))
    ·obtain⟨c,hc,hi⟩:=List.mem_flatMap.1 hi;exact Sm hc hi
    ·obtain⟨c,hc,hi⟩:=List.mem_flatMap.1 (hm i hi).2;exact Sm hc hi
   ·exact hn
  ·rw[h];exact hb _
 ·exact hn
theorem Yn (hn:Rel none none){es:Nat}{t:TypeId}{x:PV}{K:Nat->List PV->Option R}{K':Nat->List PV->Option R'}{S:Nat->Prop}(hS:∀i,S i->hp i=Dd i∨(hp i=none∧∀b,Rel none b)) (hx:∀i∈B4 x,S i)(hK:∀m c,Rel (K m c) (K' m c)):Rel (TT P ⟨tm,hp⟩ es t x K) (TT P ⟨tm',Dd⟩ es t x K'):=by
 unfold TT SK;split
 ·exact Au hn fun _=>E8 hn fun _=>hK _ _
 ·exact Pu hn (KP hS fun i hi=>hx i (S2 hi)) hK
 ·exact hn
theorem Wn (hn:Rel none none){d:Nat}{t tx:TypeId}{b x:PV}{K:St->Option R}{K':St->Option R'}{S:Nat->Prop}(hS:∀i,S i->hp i=Dd i∨(hp i=none∧∀b,Rel none b)) (hdd:hp d=Dd d)(hb:∀i∈B4 b,S i)(hx:∀i∈B4 x,S i)
  (hK:∀v Ck E0,(∀M,GS M S (some d) hp Dd Ck E0)->Rel (K ⟨Cb tm d v,Ck⟩) (K' ⟨Cb tm' d v,E0⟩)):Rel (Oo P N ⟨tm,hp⟩ d t tx b x K) (Oo P N ⟨tm',Dd⟩ d t tx b x K'):=by
 unfold Oo;split
 ·refine Au hn fun _=>?_
  cases Xa P tx
  rotate_left
  ·show Rel (R9 P N ⟨tm,hp⟩ d _ b x K) (R9 P N ⟨tm',Dd⟩ d _ b x K');refine Dt hn fun _ n=>Fc hn fun z _ _=>?_
   show Rel (An (z&&Nat.blt d N&&(hp d).isNone&&_&&_&&_) _) (An (z&&Nat.blt d N&&(Dd d).isNone&&_&&_&&_) _);rw[←hdd];exact Au hn fun hb=>hK _ _ _ (fun M=>KW (by simp only[Bool.and_eq_true,Option.isNone_iff_eq_none] at hb;simp only[hb]) (S0 _ _))
  rw[cond_false,cond_false];refine Yn hn hS hx fun m new=>?_
  split
  ·rename_i id es off n;show Rel (match hp id with|some (.ar false c)=>An (Nat.beq es _&&Nat.beq off 0&&Nat.blt d N&&(hp d).isNone&&_&&_&&_&&_) _|_=>none) (match Dd id with|some (.ar false c)=>An (Nat.beq es _&&Nat.beq off 0&&Nat.blt d N&&(Dd d).isNone&&_&&_&&_&&_) _|_=>none)
   have Bb:S id:=hb id (by simp[B4,Ao])
   rw[←hdd];rcases hS id Bb with h|⟨h,hbb⟩
   ·rw[←h];split
    ·rename_i c hc;exact Au hn fun hb=>hK _ _ _ (fun M=>KW (by simp only[Bool.and_eq_true,Option.isNone_iff_eq_none] at hb;simp only[hb]) (Tn Bb (by rw[hc];simp) (S0 _ _)))
    ·exact hn
   ·rw[h];exact hbb _
  ·refine Fc hn fun z _ _=>?_
   show Rel (An (z&&Nat.blt d N&&(hp d).isNone&&_&&_&&_) _) (An (z&&Nat.blt d N&&(Dd d).isNone&&_&&_&&_) _);rw[←hdd];exact Au hn fun hb=>hK _ _ _ (fun M=>KW (by simp only[Bool.and_eq_true,Option.isNone_iff_eq_none] at hb;simp only[hb]) (S0 _ _))
 ·exact hn
theorem TJ (hn:Rel none none){d:Option Tmp}{t tx:TypeId}{b x:PV}{K:St->Option R}{K':St->Option R'}{S:Nat->Prop}(hS:∀i,S i->hp i=Dd i∨(hp i=none∧∀b,Rel none b)) (hb:∀i∈B4 b,S i)(hx:∀i∈B4 x,S i)
  (hK:∀v Ck E0,GS N S d hp Dd Ck E0->Rel (K ⟨Bj tm d v,Ck⟩) (K' ⟨Bj tm' d v,E0⟩)):Rel (HM P N ⟨tm,hp⟩ d t tx b x K) (HM P N ⟨tm',Dd⟩ d t tx b x K'):=by
 unfold HM;split
 ·refine Au hn fun _=>?_
  refine Yn hn hS hx fun m new=>?_
  split
  ·rename_i id es off n;show Rel (match hp id with|some (.ar false c)=>An (Nat.beq es _&&_&&_) _|_=>none) (match Dd id with|some (.ar false c)=>An (Nat.beq es _&&_&&_) _|_=>none)
   have Bb:S id:=hb id (by simp[B4,Ao])
   rcases hS id Bb with h|⟨h,hbb⟩
   ·rw[←h];split
    ·rename_i c hc;exact Au hn fun _=>hK _ _ _ (Tn Bb (by rw[hc];simp) (S0 _ _))
    ·exact hn
   ·rw[h];exact hbb _
  ·exact hn
 ·exact hn
def Amj (o:Oper)(tm:Nat->PV)(i:Nat):Prop:=∃x∈o.op.operands.toList,i∈Bo (Bu tm x)
def Vt (o:Oper)(tm:Nat->PV)(hp:Nat->Option Bk)(i:Nat):Prop:=Amj o tm i∨Mz o.op=false∧∃id c,Amj o tm id∧hp id=some (.st c)∧∃p∈c,i∈Ao p
theorem ZS (hn:Rel none none){mv:Bool}{t:CT}{p:PV}{K:PV->List Nat->List Nat->Option R}{K':PV->List Nat->List Nat->Option R'}{S:Nat->Prop}(hS:∀i,S i->hp i=Dd i∨(hp i=none∧∀b,Rel none b)) (hp_:∀i∈Ao p,S i)
  (hK:∀c m x,(∀i∈m++x,hp i≠none∧S i)->Rel (K c m x) (K' c m x)):Rel (ZQ mv hp t p K) (ZQ mv Dd t p K'):=by
 have frz:∀{t:CT} {p:PV},(∀i∈Ao p,S i)->Rel (Ns (I9 hp) t p fun c m=>K c m []) (Ns (I9 Dd) t p fun c m=>K' c m []):=fun h=>IG hn (KP hS h) fun c m hm=>hK _ _ _ fun i hi=>by
  rw[List.append_nil] at hi;exact⟨fun e=>(hm i hi).1 (K2 e),h i (hm i hi).2⟩
 unfold ZQ;split
 ·rename_i es;cases mv<;>simp only[cond_true,cond_false]
  ·exact frz hp_
  ·split
   ·rename_i id es' off n;rcases hS id (hp_ id (by simp[Ao])) with h|⟨h,hb⟩
    ·rw[←h];split
     ·rename_i c hc;cases (Nat.beq es' es&&Nat.beq off 0)<;>simp only[cond_true,cond_false]
      ·exact frz hp_
      ·exact Au hn fun _=>hK _ _ _ fun i hi=>by
        simp only[List.nil_append,List.mem_singleton] at hi;subst hi;exact⟨by rw[hc];simp,hp_ i (by simp[Ao])⟩
     ·exact frz hp_
    ·rw[h]
     have:(Ns (I9 hp) (.sl es) (.view id es' off n) fun c m=>K c m [])=none:=by
      unfold Ns;simp only;cases Nat.beq es' es
      ·rfl
      ·simp only[cond_true,K2 h,Dm]
     show Rel (Ns (I9 hp) (.sl es) (.view id es' off n) fun c m=>K c m []) _
     rw[this];exact hb _
   ·refine Fc hn fun z n c=>?_
    cases z
    ·exact hK _ _ _ (by simp)
    ·exact hK _ _ _ (by simp)
 ·exact N8 hn fun _=>hK _ _ _ (by simp)
theorem Rn (hn:Rel none none){mv:Bool}{S:Nat->Prop}(hS:∀i,S i->hp i=Dd i∨(hp i=none∧∀b,Rel none b)):∀{ts:List CT}{ps:List PV}{K:List PV->List Nat->List Nat->Option R}{K':List PV->List Nat->List Nat->Option R'},(∀p∈ps,∀i∈Ao p,S i) ->
  (∀c m x,(∀i∈m++x,hp i≠none∧S i)->Rel (K c m x) (K' c m x))->Rel (Z6 mv hp ts ps K) (Z6 mv Dd ts ps K')
 |[],[],_,_,_,hK=>hK _ _ _ (by simp)
 |[],_::_,_,_,_,_=>hn
 |_::_,[],_,_,_,_=>hn
 |_::_,p::ps,_,_,hp_,hK=>ZS hn hS (hp_ p (by simp)) fun _ m x hm=>Rn hn hS (fun q hq=>hp_ q (by simp[hq])) fun _ ms xs FF=>hK _ _ _ fun i hi=>by
   simp only[List.mem_append] at hi hm FF;rcases hi with (hi|hi)|(hi|hi)
   ·exact hm i (.inl hi)
   ·exact FF i (.inl hi)
   ·exact hm i (.inr hi)
   ·exact FF i (.inr hi)
theorem PX (hn:Rel none none){C:Gt}{f:FuncId}{i:Nat}{t:TypeId}{p:PV}{K:PV->List Nat->List Nat->List Gc->Option R}{K':PV->List Nat->List Nat->List Gc->Option R'}{S:Nat->Prop}(hS:∀i,S i->hp i=Dd i∨(hp i=none∧∀b,Rel none b))
  (hp_:∀i∈Bo p,S i)(hc:∀i∈Bo p,∀c,Dd i=some (.st c)->∀q∈c,∀k∈Ao q,S k)
  (hK:∀v m x l,(∀i∈m++x++l.flatMap Gc.ids,hp i≠none∧S i)->Rel (K v m x l) (K' v m x l)):Rel (Ye C P f hp i t p K) (Ye C P f Dd i t p K'):=by
 unfold Ye;split
 ·split
  ·rename_i id off;have Bb:S id:=hp_ id (by simp[Bo,B4,Ao])
   rcases hS id Bb with h|⟨h,hb⟩
   ·rw[h];split
    ·rename_i c Z9;refine Au hn fun _=>Rn hn hS (fun q hq k hk=>hc id (by simp[Bo,B4,Ao]) c Z9 q (List.mem_of_mem_drop (List.mem_of_mem_take hq)) k hk) fun cs m x hm=>hK _ _ _ _ fun k hk=>?_
     rcases List.mem_append.1 hk with hk|hk
     ·exact hm k hk
     ·simp only[List.flatMap_cons,List.flatMap_nil,Gc.ids,List.append_nil,List.mem_singleton] at hk;subst hk;exact⟨by rw[h,Z9];simp,Bb⟩
    ·exact hn
   ·rw[h];exact hb _
  ·exact hn
 ·cases C.lnd f i
  ·cases Bv P t
   ·exact Rn hn hS (fun q hq k hk=>by
     simp at hq;subst hq;exact hp_ k (Kn hk)) fun cs m x hm=>Be hn fun _ _ _=>Eu hn (hK _ _ _ _ (by simpa using hm))
   ·refine Jb hn fun cs Te=>Rn hn hS (fun q hq k hk=>hp_ k ?_) fun cs m x hm=>hK _ _ _ _ (by simpa using hm)
    subst Te;exact List.mem_flatMap.2 ⟨q,hq,hk⟩
  ·refine Cv hn fun e he=>?_
   unfold Afb;split
   ·rename_i id es' off n;have Bb:S id:=hp_ id (by simp[Bo,B4,Ao])
    rcases hS id Bb with h|⟨h,hb⟩
    ·rw[h];split
     ·rename_i c Z9;refine Au hn fun _=>hK _ _ _ _ fun k hk=>?_
      simp only[List.nil_append,List.flatMap_cons,List.flatMap_nil,Gc.ids,List.append_nil,List.mem_singleton] at hk;subst hk;exact⟨by rw[h,Z9];simp,Bb⟩
     ·exact hn
    ·rw[h];exact hb _
   ·exact Fc hn fun _ _ _=>Au hn fun _=>hK _ _ _ _ (by simp[Gc.ids])
theorem DY (hn:Rel none none){C:Gt}{f:FuncId}{S:Nat->Prop}(hS:∀i,S i->hp i=Dd i∨(hp i=none∧∀b,Rel none b)):∀{ts:List TypeId}{ps:List PV}{i:Nat}{K:List PV->List Nat->List Nat->List Gc->Option R}{K':List PV->List Nat->List Nat->List Gc->Option R'},
  (∀p∈ps,∀i∈Bo p,S i)->(∀p∈ps,∀i∈Bo p,∀c,Dd i=some (.st c)->∀q∈c,∀k∈Ao q,S k) ->
  (∀v m x l,(∀i∈m++x++l.flatMap Gc.ids,hp i≠none∧S i)->Rel (K v m x l) (K' v m x l))->Rel (HV C P f hp i ts ps K) (HV C P f Dd i ts ps K')
 |[],[],_,_,_,_,_,hK=>hK _ _ _ _ (by simp)
 |[],_::_,_,_,_,_,_,_=>hn
 |_::_,[],_,_,_,_,_,_=>hn
 |_::_,p::ps,_,_,_,hp_,hc,hK=>PX hn hS (hp_ p (by simp)) (hc p (by simp)) fun _ m x l hm=>DY hn hS (fun q hq=>hp_ q (by simp[hq])) (fun q hq=>hc q (by simp[hq])) fun _ ms xs ls FF=>hK _ _ _ _ fun i hi=>by
   simp only[List.mem_append,List.flatMap_append] at hi hm FF;rcases hi with ((hi|hi)|(hi|hi))|(hi|hi)
   ·exact hm i (.inl (.inl hi))
   ·exact FF i (.inl (.inl hi))
   ·exact hm i (.inl (.inr hi))
   ·exact FF i (.inl (.inr hi))
   ·exact hm i (.inr hi)
   ·exact FF i (.inr hi)
theorem Agm (hn:Rel none none){t:Nat}{ct:CT}{was p:PV}{K:Nat->PV->List (Nat × Bk)->Option R} {K':Nat->PV->List (Nat × Bk)->Option R'} (hK:∀t c b,(∀q∈b,∃k,q.1=RR N k)->Rel (K t c b) (K' t c b)):Rel (Aah N t ct was p K) (Aah N t ct was p K'):=by
 unfold Aah;split
 ·split
  ·exact WB hn fun _ _=>hK _ _ _ (by intro q hq;simp only[List.mem_singleton] at hq;subst hq;exact⟨t,rfl⟩)
  ·exact Fc hn fun _ _ _=>hK _ _ _ (by simp)
 ·exact N8 hn fun _=>hK _ _ _ (by simp)
theorem IJ (hn:Rel none none):∀{cts:List CT}{ws ps:List PV}{t:Nat}{K:Nat->List PV->List (Nat × Bk)->Option R} {K':Nat->List PV->List (Nat × Bk)->Option R'},(∀t c b,(∀q∈b,∃k,q.1=RR N k)->Rel (K t c b) (K' t c b))->Rel (HC N t cts ws ps K) (HC N t cts ws ps K')
 |[],[],_,_,_,_,hK=>Eu hn (hK _ _ _ (by simp))
 |[],_::_,_,_,_,_,_=>hn
 |_::_,[],_,_,_,_,_=>hn
 |_::_,_::_,_,_,_,_,hK=>Be hn fun _ _ _=>Agm hn fun _ _ b hb=>IJ hn fun _ _ bs Z8=>hK _ _ _ fun q hq=>by
   rcases List.mem_append.1 hq with h|h
   ·exact hb q h
   ·exact Z8 q h
theorem Tr (hn:Rel none none){S:Nat->Prop}{dst:Option Nat}:∀{l:List Gc}{ro:List (List PV)} {t:Nat}{h0 h1:Nat->Option Bk}{K:(Nat->Option Bk)->List (Nat × Bk)->Option R} {K':(Nat->Option Bk)->List (Nat × Bk)->Option R'},
  GS N S dst hp Dd h0 h1->(∀i∈l.flatMap Gc.ids,hp i≠none∧S i∧hp i=Dd i)->(∀h0' Tj b,GS N S dst hp Dd h0' Tj->(∀q∈b,∃k,q.1=RR N k)->Rel (K h0' b) (K' Tj b))->Rel (U8 N t l ro h0 K) (U8 N t l ro h1 K')
 |[],_,_,_,_,_,_,hT,_,hK=>Eu hn (hK _ _ _ hT (by simp))
 |.var id off cts ws::l,ro,t,h0,h1,K,K',hT,hl,hK=>by
  unfold U8;refine Be hn fun cs ro _=>IJ hn fun t' cs' bs Z8=>?_
  have Bb:=hl id (by simp[Gc.ids])
  rw[←hT.same id Bb.2.2];split
  ·exact Tr hn (Tn Bb.2.1 Bb.1 hT) (fun i hi=>hl i (by simp only[List.flatMap_cons,List.mem_append];exact .inr hi)) fun h0' Tj b hT' hb=>hK _ _ _ hT' fun q hq=>by
    rcases List.mem_append.1 hq with h|h
    ·exact Z8 q h
    ·exact hb q h
  ·exact hn
 |.row id::l,ro,t,h0,h1,K,K',hT,hl,hK=>by
  unfold U8;have Bb:=hl id (by simp[Gc.ids])
  exact Be hn fun cs ro _=>Tr hn (Tn Bb.2.1 Bb.1 hT) (fun i hi=>hl i (by simp only[List.flatMap_cons,List.mem_append];exact .inr hi)) hK
 |.none::l,ro,t,h0,h1,K,K',hT,hl,hK=>by
  unfold U8;exact Be hn fun cs ro _=>Tr hn hT (fun i hi=>hl i (by simp only[List.flatMap_cons,List.mem_append];exact .inr hi)) hK
theorem QL (h:∀i,N<=i->hp i=Dd i)(hN:0<N):∀k t,QG N hp k t=QG N Dd k t
 |0,_=>rfl
 |k+1,t=>by
  unfold QG;rw[h (RR N t) (by unfold RR;exact Nat.le_mul_of_pos_right _ (by omega)),QL h hN k (t+1)]
theorem IX {h0 h1:Nat->Option Bk}:∀{nw:List (Nat × Bk)},(∀q∈nw,h0 q.1=h1 q.1)->Bn h0 nw=Bn h1 nw
 |[],_=>rfl
 |(i,b)::nw,h=>by
  unfold Bn;rw[h (i,b) (by simp),IX (fun q hq=>h q (by simp[hq]))]
theorem CN {S:Nat->Prop}{dst:Option Nat}{h0 h1:Nat->Option Bk}(hT:GS N S dst hp Dd h0 h1):∀{nw:List (Nat × Bk)} {g0 g1:Nat->Option Bk},GS N S dst hp Dd g0 g1->(∀q∈nw,N<=q.1∨dst=some q.1)->(∀q∈nw,hp q.1=none)->GS N S dst hp Dd (Aq g0 nw) (Aq g1 nw)
 |[],_,_,h,_,_=>h
 |(i,b)::nw,g0,g1,h,hi,hz=>by
  refine CN hT (nw:=nw) ⟨fun k hk=>?_,fun k hN hd hk=>?_,fun k hk=>?_,fun k hn hk=>?_⟩ (fun q hq=>hi q (by simp[hq])) (fun q hq=>hz q (by simp[hq]))
  ·by_cases e:k=i
   ·subst e;rw[Al];simp
   ·rw[Ah _ _ e];exact h.keep k hk
  ·have e:k≠i:=by
    rintro rfl
    rcases hi (k,b) (by simp) with q|q
    ·simp only at q;omega
    ·exact hd q
   rw[Ah _ _ e,Ah _ _ e];exact h.off k hN hd hk
  ·by_cases e:k=i
   ·subst e;rw[Al,Al]
   ·rw[Ah _ _ e,Ah _ _ e];exact h.same k hk
  ·rw[Ah _ _ (by rintro rfl;exact hk (hz (k,b) (by simp)))];exact h.far k hn hk
theorem Ano {S:Nat->Prop}{dst:Option Nat}{m x:List Nat}(hm:∀i∈m++x,hp i≠none∧S i):GS N S dst hp Dd (Sp (Ad hp m) x) (Sp (Ad Dd m) x):=by
 refine⟨fun i hi h=>?_,fun i hN hd hi=>?_,fun i hi=>?_,fun i hn hi=>?_⟩
 ·rw[Fp] at h;have h1:Ad hp m i≠none:=fun e=>hi (Dq.1 e)
  split at h
  ·cases hq:Ad hp m i with
   |none=>exact h1 hq
   |some b=>rw[hq] at h;cases h
  ·exact h1 h
 ·have e:i ∉ m∧i ∉ x:=by
   refine⟨fun h=>?_,fun h=>?_⟩<;>(rcases hi with hi|hi)
   ·exact hi (hm i (by simp[h])).2
   ·exact (hm i (by simp[h])).1 hi
   ·exact hi (hm i (by simp[h])).2
   ·exact (hm i (by simp[h])).1 hi
  rw[Fp,Fp,if_neg e.2,if_neg e.2,Bq,Bq,if_neg e.1,if_neg e.1];exact⟨rfl,rfl⟩
 ·rw[Fp,Fp,Bq,Bq,hi]
 ·rw[Fp,Bq,if_neg (fun h=>hn (hm i (by simp[h])).2),if_neg (fun h=>hn (hm i (by simp[h])).2)]
theorem OE (hn:Rel none none){C:Gt}{call:Ai}{f:FuncId}{c:Call}{K:St->Option R}{K':St->Option R'}{S:Nat->Prop}(Jp:c.args.toList.map (Bu tm)=c.args.toList.map (Bu tm')) (hS:∀i,S i->hp i=Dd i∨(hp i=none∧∀b,Rel none b))
  (hp_:∀p∈c.args.toList.map (Bu tm'),∀i∈Bo p,S i) (hc:∀p∈c.args.toList.map (Bu tm'),∀i∈Bo p,∀c,Dd i=some (.st c)->∀q∈c,∀k∈Ao q,S k)
  (hdd:∀d,o.dst=some d->hp d=Dd d)(hNN:∀i,N<=i->hp i=Dd i)
  (hK:∀v Ck E0,GS N S o.dst hp Dd Ck E0->Rel (K ⟨Bj tm o.dst v,Ck⟩) (K' ⟨Bj tm' o.dst v,E0⟩)):Rel (Zf C P N call ⟨tm,hp⟩ o f c K) (Zf C P N call ⟨tm',Dd⟩ o f c K'):=by
 unfold Zf;simp only[Jp];refine DY hn hS hp_ hc fun vs m x l hm=>Au hn fun hb=>JH hn fun rv ro=>Yk hn fun ws bs Z8=>Au hn fun _=>?_
 simp only[Bool.and_eq_true] at hb;have hN:0<N:=Nat.lt_of_succ_le (Nat.le_of_ble_eq_true hb.1.2);rw[QL hNN hN];by_cases A0a:∃i∈l.flatMap Gc.ids,hp i≠Dd i
 ·obtain⟨i,hi,Hu⟩:=A0a;obtain⟨h1,h2⟩:=hm i (List.mem_append.2 (.inr hi));rcases hS i h2 with h|⟨h,_⟩
  ·exact absurd h Hu
  ·exact absurd h h1
 have hl:∀i∈l.flatMap Gc.ids,hp i≠none∧S i∧hp i=Dd i:=fun i hi=>⟨(hm i (List.mem_append.2 (.inr hi))).1,(hm i (List.mem_append.2 (.inr hi))).2,Classical.byContradiction fun h=>A0a ⟨i,hi,h⟩⟩
 have hT0:GS N S o.dst hp Dd (Sp (Ad hp m) x) (Sp (Ad Dd m) x):=Ano fun i hi=>hm i (List.mem_append.2 (.inl hi))
 refine Tr hn hT0 hl fun h0 h1 bs' hT Bm6=>?_
 have Abk:∀q∈bs++bs',N<=q.1∨o.dst=some q.1:=by
  intro q hq;rcases List.mem_append.1 hq with hq|hq
  ·obtain⟨j,hj⟩:=Z8 q hq;cases hd:o.dst with
   |none=>
    rw[hd] at hj;left;rw[hj];exact Nat.le_add_right _ _
   |some d=>
    rw[hd] at hj;change q.1=d+N*j at hj;cases j with
    |zero=>right;rw[hj];simp
    |succ j=>left;rw[hj,Nat.mul_add];omega
  ·obtain⟨k,hk⟩:=Bm6 q hq;left;rw[hk];unfold RR;exact Nat.le_mul_of_pos_right _ (by omega)
 have Zv:∀q∈bs++bs',h0 q.1=h1 q.1:=by
  intro q hq;refine hT.same q.1 ?_;rcases Abk q hq with h|h
  ·exact hNN _ h
  ·exact hdd _ h
 rw[IX Zv]
 exact Au hn fun hb=>hK _ _ _ (CN hT hT Abk fun q hq=>by
  cases hz:hp q.1 with
  |none=>rfl
  |some c=>exact absurd ((Zv q hq).trans ((Bg hb).1 q.1 q.2 hq)) (hT.keep q.1 (by rw[hz];simp)))
theorem Kk (hn:Rel none none){C:Gt}{call:Ai}{K:St->Option R}{K':St->Option R'}(Jp:∀x∈o.op.operands.toList,Bu tm x=Bu tm' x)
  (hS:∀i,Vt o tm' Dd i->hp i=Dd i∨(hp i=none∧∀b,Rel none b)) (hdd:∀d,o.dst=some d->hp d=Dd d)(hNN:∀i,N<=i->hp i=Dd i)
  (hK:∀v Ck E0,GS N (Vt o tm' Dd) o.dst hp Dd Ck E0->Rel (K ⟨Bj tm o.dst v,Ck⟩) (K' ⟨Bj tm' o.dst v,E0⟩)):Rel (Ui C P N call ⟨tm,hp⟩ o K) (Ui C P N call ⟨tm',Dd⟩ o K'):=by
 unfold Ui;have hl:∀x∈o.op.operands.toList,∀i∈Bo (Bu tm' x),Vt o tm' Dd i:=fun x hx i hi=>.inl ⟨x,hx,hi⟩
 have NG:Mz o.op=false->∀x∈o.op.operands.toList,∀i∈Bo (Bu tm' x),∀c,Dd i=some (.st c)->∀q∈c,∀k∈Ao q,Vt o tm' Dd k:=fun ha x hx i hi c hc q hq k hk=>.inr ⟨ha,i,c,⟨x,hx,hi⟩,hc,q,hq,hk⟩
 generalize hLd:Vt o tm' Dd=S at *
 generalize XE:o.op=op at *
 split
 ·rename_i t x y;simp only[Jp x (by simp[Op.operands]),Jp y (by simp[Op.operands])]
  refine Au hn fun hd=>PN (N:=N) hn hS (fun i hi=>hl x (by simp[Op.operands]) i (Kn hi)) (fun i hi=>hl y (by simp[Op.operands]) i (Fe hi)) fun Ck E0 hh=>?_
  have hd':=Option.isNone_iff_eq_none.1 hd;have:=hK .top Ck E0 (by rw[hd'];exact hh)
  rw[hd'] at this;exact this
 ·rename_i c
  have Km:∀x∈c.args.toList,x∈(Op.call c).operands.toList:=by
   intro x hx;simp only[Op.operands,Call.operands,Array.toList_append,List.mem_append];exact .inr hx
  split
  ·rename_i hc;refine Cv hn fun d hd=>Be hn fun x _ hx=>Be hn fun y _ hy=>Eu hn (Be hn fun _ _ _=>Be hn fun _ _ _=>?_)
   subst hy;have ZP:=Km x (by rw[hx];simp)
   have hym:=Km y (by rw[hx];simp)
   simp only[Jp x ZP,Jp y hym];refine Wn hn hS (hdd d hd) (fun i hi=>hl x ZP i (Fe hi)) (fun i hi=>hl y hym i (Fe hi)) fun v Ck E0 hh=>?_
   have:=hK v Ck E0 (by rw[hd];exact hh N)
   rw[hd] at this;exact this
  ·rename_i hc;refine Be hn fun x _ hx=>Be hn fun y _ hy=>Eu hn (Be hn fun _ _ _=>Be hn fun _ _ _=>?_)
   subst hy;have ZP:=Km x (by rw[hx];simp)
   have hym:=Km y (by rw[hx];simp)
   simp only[Jp x ZP,Jp y hym];exact TJ hn hS (fun i hi=>hl x ZP i (Fe hi)) (fun i hi=>hl y hym i (Fe hi)) hK
  ·rename_i f hcf;refine OE hn (List.map_congr_left fun x hx=>Jp x (Km x hx)) hS (fun p hp i hi=>?_) (fun p hp i hi=>?_) hdd hNN hK
   ·obtain⟨x,hx,rfl⟩:=List.mem_map.1 hp;exact hl x (Km x hx) i hi
   ·obtain⟨x,hx,rfl⟩:=List.mem_map.1 hp;exact NG (by simp only[Mz,hcf]) x (Km x hx) i hi
  ·exact hn
 ·exact hn
theorem BX (hn:Rel none none){C:Gt}{call:Ai}{K:St->Option R}{K':St->Option R'}(Jp:∀x∈o.op.operands.toList,Bu tm x=Bu tm' x)(hK:∀v Ck,(∀i,hp i≠none->Ck i≠none)->Rel (K ⟨Bj tm o.dst v,Ck⟩) (K' ⟨Bj tm' o.dst v,Ck⟩)):Rel (Ui C P N call ⟨tm,hp⟩ o K) (Ui C P N call ⟨tm',hp⟩ o K'):=
 Kk hn Jp (fun _ _=>.inl rfl) (fun _ _=>rfl) (fun _ _=>rfl) fun v Ck E0 hT=>by
  have:Ck=E0:=funext fun i=>hT.same i rfl
  subst this;exact hK v Ck hT.keep
end
section
variable {R:Type} {r:R} {C:Gt} {P:Program} {N:Nat} {call:Ai} {ops:Array Oper} {o x:Oper} {s:St} {K:St->Option R}
theorem MI {tm:Nat->PV}{hp Ck:Nat->Option Bk}{tm':Nat->PV}{q:R8}(hm:G6 P o.op=false)(ht:∀t∈Ds ops o,tm t=tm' t)(h:gE C P N call ops o ⟨tm,hp⟩=some q):gE C P N call ops o ⟨tm',Ck⟩=some q:=
 Xn (s:=⟨tm,hp⟩) (s':=⟨tm',Ck⟩) ht (fun h=>by rw[hm] at h;cases h) h
theorem Ze {tm:Nat->PV}{hp:Nat->Option Bk}(hm:G6 P o.op=false)(h:C9 C P N call ops o ⟨tm,hp⟩ K=some r):
  ∃v nw,gE C P N call ops o ⟨tm,hp⟩=some (v,[],nw)∧F0 N o.dst=true∧Bn hp nw=true∧(∀p∈nw,o.dst=some p.1)∧K ⟨Bj tm o.dst v,Aq hp nw⟩=some r:=by
 have hM:Qi C P o.op=false:=by
  cases hh:Qi C P o.op
  ·rfl
  ·rw[Xm hh] at hm;cases hm
 rw[Ku (by simp[Ge,hM])] at h
 cases e:gE C P N call ops o ⟨tm,hp⟩ with
 |none=>rw[e] at h;cases h
 |some q=>
  obtain⟨v,fz,nw⟩:=q;obtain⟨h1,h2⟩:=(Su e).1 hm;simp only at h1 h2;subst h1;rw[e] at h;obtain⟨hb,h⟩:=Aj h;simp only[Bool.and_eq_true] at hb;exact⟨v,nw,rfl,hb.1,hb.2,h2,h⟩
theorem CV {tm:Nat->PV}{hp:Nat->Option Bk}{v:PV}{nw:List (Nat × Bk)} (hm:G6 P o.op=false)(e:gE C P N call ops o ⟨tm,hp⟩=some (v,[],nw)) (hd:F0 N o.dst=true)(ha:Bn hp nw=true)(h:K ⟨Bj tm o.dst v,Aq hp nw⟩=some r):C9 C P N call ops o ⟨tm,hp⟩ K=some r:=by
 have hM:Qi C P o.op=false:=by
  cases hh:Qi C P o.op
  ·rfl
  ·rw[Xm hh] at hm;cases hm
 rw[Ku (by simp[Ge,hM]),e]
 show An _ _=_;have ha':Bn hp nw=true:=ha;rw[hd,ha'];exact h
theorem Ml {hp:Nat->Option Bk}{nw:List (Nat × Bk)} (ha:Bn hp nw=true){i:Nat}(hi:∀p∈nw,p.1≠i):Aq hp nw i=hp i:=
 (D3 (Bg ha).2).2 i fun b hb=>hi _ hb rfl
theorem Aft {hp Ck:Nat->Option Bk}{nw:List (Nat × Bk)} (ha:Bn hp nw=true){g:Nat->Option Bk}(h1:∀i,(∀p∈nw,p.1≠i)->g i=Ck i) (h2:∀i,(∃p∈nw,p.1=i)->g i=Aq hp nw i) (ha':Bn Ck nw=true):g=Aq Ck nw:=by
 funext i
 by_cases h:∃p∈nw,p.1=i
 ·rw[h2 i h];obtain⟨⟨j,b⟩,hp,rfl⟩:=h;rw[(D3 (Bg ha).2).1 j b hp,(D3 (Bg ha').2).1 j b hp]
 ·have h':∀p∈nw,p.1≠i:=fun p hp e=>h ⟨p,hp,e⟩
  rw[h1 i h',Ml ha' h']
theorem Aht (ap:Xs C P ops x o)(hx:Ge C P ops x s.tm=true)
  (h:C9 C P N call ops x s (fun s1=>C9 C P N call ops o s1 K)=some r):C9 C P N call ops o s (fun s1=>C9 C P N call ops x s1 K)=some r:=by
 have hm:G6 P o.op=false:=ap.mx (by unfold Ge at hx;simp only[Bool.and_eq_true] at hx;exact hx.1)
 rw[Ia hx] at h;obtain⟨tm,hp⟩:=s;have look:∀v,∀t∈Ds ops o,Bj tm x.dst v t=tm t:=fun v=>Ef ap.xo
 have h1:=Kk (P:=P) (N:=N) (o:=x) (tm:=tm) (tm':=tm) (hp:=hp) (Dd:=hp) (K:=fun s1=>C9 C P N call ops o s1 K) (K':=fun _=>none)
  (Rel:=fun (a:Option R)(_:Option R)=>a=some r->∃v nw,gE C P N call ops o ⟨tm,hp⟩=some (v,[],nw)∧F0 N o.dst=true∧(∀p∈nw,o.dst=some p.1)∧Bn hp nw=true) (fun h=>by cases h) (fun _ _=>rfl) (fun _ _=>.inl rfl) (fun _ _=>rfl) (fun _ _=>rfl) (fun v Ck _ hT h=>by
   obtain⟨u,nw,hu,hd,ha,hn,_⟩:=Ze hm h;refine⟨u,nw,MI hm (look v) hu,hd,hn,Qa ha fun i b hi=>?_⟩
   cases hh:hp i with
   |none=>rfl
   |some c=>exact absurd ((Bg ha).1 i b hi) (hT.keep i (by rw[hh];simp))) h
 obtain⟨v,nw,hv,hd,hn,ha⟩:=h1;refine CV hm hv hd ha ?_;have t2:∀t∈Ds ops x,tm t=Bj tm o.dst v t:=fun t ht=>(Ef ap.ox t ht).symm
 rw[Ia (by rw[←G3 t2];exact hx)]
 refine Kk (P:=P) (N:=N) (o:=x) (tm:=tm) (tm':=Bj tm o.dst v) (hp:=hp) (Dd:=Aq hp nw) (Rel:=fun (a b:Option R)=>a=some r->b=some r) (fun h=>by cases h) (E3 t2) (fun i _=>?_) (fun d hxd=>?_) (fun i hi=>(Ml ha fun p hp e=>by have:=O6 hd (hn p hp);omega).symm) (fun u Ck E0 hT h=>?_) h
 ·by_cases hi:∃p∈nw,p.1=i
  ·obtain⟨⟨j,b⟩,Dd,rfl⟩:=hi;exact .inr ⟨(Bg ha).1 j b Dd,fun _ h=>by cases h⟩
  ·exact .inl (Ml ha fun p hp e=>hi ⟨p,hp,e⟩).symm
 ·refine (Ml ha fun p hp e=>?_).symm
  have:=hn p hp;rw[e] at this;exact ap.ne d hxd this
 ·obtain⟨v',nw',Nj,_,ha',_,h'⟩:=Ze hm h;have he:=MI (Ck:=hp) hm (look u) Nj;rw[hv] at he;simp only[Option.some.injEq,Prod.mk.injEq,true_and] at he;obtain⟨rfl,rfl⟩:=he
  have hh:E0=Aq Ck nw:=by
   refine Aft ha (fun i hi=>?_) (fun i hi=>?_) ha'
   ·exact (hT.same i (Ml ha hi).symm).symm
   ·obtain⟨⟨j,b⟩,Dd,rfl⟩:=hi;refine (hT.off j (O6 hd (hn _ Dd)) (fun e=>ap.ne j e (hn _ Dd)) (.inr ((Bg ha).1 j b Dd))).2
  rw[hh,←Ko ap.ne];exact h'
theorem Ahy (hw:RT C P o s)(ap:Xs C P ops x o)(ho:Ge C P ops o s.tm=true)
  (h:C9 C P N call ops x s (fun s1=>C9 C P N call ops o s1 K)=some r):C9 C P N call ops o s (fun s1=>C9 C P N call ops x s1 K)=some r:=by
 have hm:G6 P x.op=false:=ap.mo (by unfold Ge at ho;simp only[Bool.and_eq_true] at ho;exact ho.1)
 obtain⟨tm,hp⟩:=s;obtain⟨v,nw,hv,hd,ha,hn,h1⟩:=Ze hm h;have t1:∀t∈Ds ops o,Bj tm x.dst v t=tm t:=Ef ap.xo;change C9 C P N call ops o ⟨Bj tm x.dst v,Aq hp nw⟩ K=some r at h1;rw[Ia (by rw[G3 t1];exact ho)] at h1
 rw[Ia ho];have hMo:Qi C P o.op=true:=by unfold Ge at ho;simp only[Bool.and_eq_true] at ho;exact ho.1
 have Akz:∀i,Vt o tm hp i->hp i≠none:=by
  rintro i (⟨y,hy,hi⟩|⟨Ll,id,c,⟨y,hy,hi⟩,hc,p,Dd,hk⟩)
  ·exact hw.1 y hy i hi
  ·exact hw.2 hMo Ll y hy id hi c hc p Dd i hk
 refine Kk (P:=P) (N:=N) (o:=o) (tm:=Bj tm x.dst v) (tm':=tm) (hp:=Aq hp nw) (Dd:=hp) (Rel:=fun (a b:Option R)=>a=some r->b=some r) (fun h=>by cases h) (E3 t1) (fun i hi=>?_) (fun d hod=>?_) (fun i hi=>Ml ha fun p hp e=>by have:=O6 hd (hn p hp);omega) (fun u Ck E0 hT h=>?_) h1
 ·refine .inl (Ml ha fun p Ck e=>Akz i hi ?_)
  rw[←e];exact (Bg ha).1 p.1 p.2 Ck
 ·refine Ml ha fun p Ck e=>?_
  have:=hn p Ck;rw[e] at this;exact ap.ne d this hod
 ·have Ou:∀p∈nw,Ck p.1=Aq hp nw p.1∧E0 p.1=none:=by
   intro p hp2;have QD:=(Bg ha).1 p.1 p.2 hp2;have h3:=hT.off p.1 (O6 hd (hn p hp2)) (fun e=>ap.ne p.1 (hn p hp2) e) (.inl fun hL=>Akz _ hL QD)
   exact⟨h3.1,h3.2.trans QD⟩
  have ha':Bn E0 nw=true:=Qa ha fun i b hi=>(Ou (i,b) hi).2
  refine CV hm (MI hm (fun t ht=>(Ef ap.ox t ht).symm) hv) hd ha' ?_
  have hh:Ck=Aq E0 nw:=by
   refine Aft ha (fun i hi=>?_) (fun i hi=>?_) ha'
   ·exact hT.same i (Ml ha hi)
   ·obtain⟨p,hp2,rfl⟩:=hi;exact (Ou p hp2).1
  rw[←Ko ap.ne,←hh];exact h
theorem Az2 (hw:RT C P o s)(ap:Xs C P ops x o)
  (h:C9 C P N call ops x s (fun s1=>C9 C P N call ops o s1 K)=some r):C9 C P N call ops o s (fun s1=>C9 C P N call ops x s1 K)=some r:=by
 cases hx:Ge C P ops x s.tm
 ·cases ho:Ge C P ops o s.tm
  ·exact WM hw ap.xo ap.ne ap.ox hx ho h
  ·exact Ahy hw ap ho h
 ·exact Aht ap hx h
theorem Kf (h:Se P o.op=true):Qi C P o.op=false:=by
 unfold Se at h;split at h
 ·rename_i ho;rw[ho];rfl
 ·rename_i ho;rw[ho];rfl
 ·cases h
def GE (P:Program)(ops:Array Oper)(o:Oper)(tm:Nat->PV):Prop:=Se P o.op=true∨Gj ops o tm=some false
theorem Vr {tm tm':Nat->PV}(h:∀t∈Ds ops o,tm t=tm' t)(hl:GE P ops o tm):GE P ops o tm':=by
 rcases hl with hl|hl
 ·exact .inl hl
 ·exact .inr (by rw[←Kx h];exact hl)
theorem JG {tm:Nat->PV}(hl:GE P ops o tm):Ge C P ops o tm=false:=by
 rcases hl with hl|hl
 ·simp[Ge,Kf hl]
 ·simp[Ge,hl]
theorem VR {q:R8}(hl:GE P ops o s.tm)(h:gE C P N call ops o s=some q):q.2.1=[]∧q.2.2=[]:=by
 unfold gE at h;split at h
 ·cases h
 ·rename_i hv
  have hl:Se P o.op=true:=by
   rcases hl with hl|hl
   ·exact hl
   ·rw[hv] at hl;cases hl
  rw[Kf hl] at h;have h:ZO C P N call o s=some q:=h;unfold Se at hl;split at hl
  ·rename_i t a ho;unfold ZO ED at h;rw[ho] at h
   have:=IC (nz:=C.nz N) (P:=P) (f:=rd s.hp) (f':=rd s.hp) (g:=I9 s.hp) (g':=I9 s.hp) (t:=t) (x:=Bu s.tm a) (Rel:=fun (a b:Option R8)=>∀q,a=some q->q.2.1=[]∧q.2.2=[])
    (K:=fun v=>some (v,[],[])) (K':=fun v=>some (v,[],[])) (fun _ h=>by cases h) (fun _ _=>.inl ⟨rfl,rfl⟩) (fun v q hq=>by cases hq;exact⟨rfl,rfl⟩)
   exact this q h
  ·rename_i src dst y ho;unfold ZO ED at h;rw[ho] at h;simp only at h;unfold DZ at h;split at hl
   ·rename_i hd;rw[hd] at h;simp only at h;split at h
    ·obtain⟨_,_,h⟩:=C4 h;obtain⟨_,_,h⟩:=B3 h;cases h;exact⟨rfl,rfl⟩
    ·split at h
     ·exact Pu (f:=I9 s.hp) (f':=I9 s.hp) (K':=fun _ _=>(none:Option R8)) (Rel:=fun (a _:Option R8)=>a=some q->q.2.1=[]∧q.2.2=[]) (fun h=>by cases h) (fun _ _=>.inl rfl) (fun n c h=>by
       obtain⟨_,h⟩:=Aj h;obtain⟨_,_,h⟩:=B3 h;obtain⟨_,_,h⟩:=B3 h;cases h;exact⟨rfl,rfl⟩) h
     ·exact Pu (f:=I9 s.hp) (f':=I9 s.hp) (K':=fun _ _=>(none:Option R8)) (Rel:=fun (a _:Option R8)=>a=some q->q.2.1=[]∧q.2.2=[]) (fun h=>by cases h) (fun _ _=>.inl rfl) (fun n c h=>by
       obtain⟨_,h⟩:=Aj h;obtain⟨_,_,h⟩:=B3 h;obtain⟨_,_,h⟩:=B3 h;cases h;exact⟨rfl,rfl⟩) h
     ·cases h
    ·cases h
   ·cases hl
  ·cases hl
 ·cases h;exact⟨rfl,rfl⟩
theorem ZK {tm tm':Nat->PV}{hp:Nat->Option Bk}(h:∀t∈Ds ops o,tm t=tm' t){i:Nat}(hi:Vt o tm hp i):Vt o tm' hp i:=by
 have he:=E3 (ops:=ops) (o:=o) h;rcases hi with⟨y,hy,hi⟩|⟨Ll,id,c,⟨y,hy,hi⟩,hc,q⟩
 ·exact .inl ⟨y,hy,by rw[←he y hy];exact hi⟩
 ·exact .inr ⟨Ll,id,c,⟨y,hy,by rw[←he y hy];exact hi⟩,hc,q⟩
theorem Alt {hp Ck:Nat->Option Bk}{i:Nat}(h:Ck i=hp i):rd Ck i=rd hp i∧I9 Ck i=I9 hp i:=by
 unfold rd I9;rw[h];exact⟨rfl,rfl⟩
theorem Yj {tm:Nat->PV}{hp:Nat->Option Bk}(hl:GE P ops o tm)(h:C9 C P N call ops o ⟨tm,hp⟩ K=some r):
  ∃v,gE C P N call ops o ⟨tm,hp⟩=some (v,[],[])∧F0 N o.dst=true∧K ⟨Bj tm o.dst v,hp⟩=some r:=by
 rw[Ku (JG hl)] at h;cases e:gE C P N call ops o ⟨tm,hp⟩ with
 |none=>rw[e] at h;cases h
 |some q=>
  obtain⟨v,fz,nw⟩:=q;obtain⟨h1,h2⟩:=VR hl e;simp only at h1 h2;subst h1;subst h2;rw[e] at h;obtain⟨hb,h⟩:=Aj h;simp only[Bool.and_eq_true] at hb;exact⟨v,rfl,hb.1,h⟩
theorem DF {tm:Nat->PV}{hp:Nat->Option Bk}{v:PV}(hl:GE P ops o tm)(e:gE C P N call ops o ⟨tm,hp⟩=some (v,[],[])) (hd:F0 N o.dst=true)(h:K ⟨Bj tm o.dst v,hp⟩=some r):C9 C P N call ops o ⟨tm,hp⟩ K=some r:=by
 rw[Ku (JG hl),e];show An _ _=_;have ha:Bn hp []=true:=rfl;simp only[hd,ha,Bool.and_self];exact h
theorem Akh (hw:RT C P o s)(xo:∀d,x.dst=some d->d ∉ Ds ops o)(ne:∀d,x.dst=some d->o.dst≠some d)(ox:∀d,o.dst=some d->d ∉ Ds ops x)(hl:GE P ops o s.tm)
  (PQ:∀y∈o.op.operands.toList,∀i∈Bo (Bu s.tm y),¬Vt x s.tm s.hp i) (hx:Ge C P ops x s.tm=true)
  (h:C9 C P N call ops x s (fun s1=>C9 C P N call ops o s1 K)=some r):C9 C P N call ops o s (fun s1=>C9 C P N call ops x s1 K)=some r:=by
 rw[Ia hx] at h;obtain⟨tm,hp⟩:=s;have look:∀v,∀t∈Ds ops o,Bj tm x.dst v t=tm t:=fun v=>Ef xo
 have back:∀{u:PV} {Ck:Nat->Option Bk} {q:R8},(∀y∈o.op.operands.toList,∀i∈Bo (Bu tm y),Ck i=hp i)->gE C P N call ops o ⟨Bj tm x.dst u,Ck⟩=some q->gE C P N call ops o ⟨tm,hp⟩=some q:=
  fun hh e=>Xn (s:=⟨Bj tm x.dst _,_⟩) (s':=⟨tm,hp⟩) (look _) (fun _ y hy i hi=>.inl (Alt (hh y hy i hi))) e
 have h1:=Kk (P:=P) (N:=N) (o:=x) (tm:=tm) (tm':=tm) (hp:=hp) (Dd:=hp) (K:=fun s1=>C9 C P N call ops o s1 K) (K':=fun _=>none)
  (Rel:=fun (a:Option R)(_:Option R)=>a=some r->∃v,gE C P N call ops o ⟨tm,hp⟩=some (v,[],[])∧F0 N o.dst=true) (fun h=>by cases h) (fun _ _=>rfl) (fun _ _=>.inl rfl) (fun _ _=>rfl) (fun _ _=>rfl) (fun v Ck _ hT h=>by
   obtain⟨u,hu,hd,_⟩:=Yj (Vr (fun t ht=>(look v t ht).symm) hl) h
   exact⟨u,back (fun y hy i hi=>hT.far i (PQ y hy i hi) (hw.1 y hy i hi)) hu,hd⟩) h
 obtain⟨v,hv,hd⟩:=h1;refine DF hl hv hd ?_;have t2:∀t∈Ds ops x,tm t=Bj tm o.dst v t:=fun t ht=>(Ef ox t ht).symm
 rw[Ia (by rw[←G3 t2];exact hx)]
 refine Kk (P:=P) (N:=N) (o:=x) (tm:=tm) (tm':=Bj tm o.dst v) (hp:=hp) (Dd:=hp) (Rel:=fun (a b:Option R)=>a=some r->b=some r) (fun h=>by cases h) (E3 t2) (fun _ _=>.inl rfl) (fun _ _=>rfl) (fun _ _=>rfl) (fun u Ck E0 hT h=>?_) h
 have e1:Ck=E0:=funext fun i=>hT.same i rfl
 subst e1;obtain⟨v',Nj,_,h'⟩:=Yj (Vr (fun t ht=>(look u t ht).symm) hl) h
 have he:=back (fun y hy i hi=>hT.far i (fun hR=>PQ y hy i hi (ZK (fun t ht=>(t2 t ht).symm) hR)) (hw.1 y hy i hi)) Nj
 rw[hv] at he;simp only[Option.some.injEq,Prod.mk.injEq,and_true] at he;subst he;rw[←Ko ne];exact h'
theorem Ajq (xo:∀d,x.dst=some d->d ∉ Ds ops o)(ne:∀d,x.dst=some d->o.dst≠some d)(ox:∀d,o.dst=some d->d ∉ Ds ops x)(hl:GE P ops x s.tm)
  (PQ:∀y∈x.op.operands.toList,∀i∈Bo (Bu s.tm y),¬Vt o s.tm s.hp i) (ho:Ge C P ops o s.tm=true)
  (h:C9 C P N call ops x s (fun s1=>C9 C P N call ops o s1 K)=some r):C9 C P N call ops o s (fun s1=>C9 C P N call ops x s1 K)=some r:=by
 obtain⟨tm,hp⟩:=s;obtain⟨v,hv,hd,h1⟩:=Yj hl h;have t1:∀t∈Ds ops o,Bj tm x.dst v t=tm t:=Ef xo;rw[Ia (by rw[G3 t1];exact ho)] at h1
 rw[Ia ho];refine Kk (P:=P) (N:=N) (o:=o) (tm:=Bj tm x.dst v) (tm':=tm) (hp:=hp) (Dd:=hp) (Rel:=fun (a b:Option R)=>a=some r->b=some r) (fun h=>by cases h) (E3 t1) (fun _ _=>.inl rfl) (fun _ _=>rfl) (fun _ _=>rfl) (fun u Ck E0 hT h=>?_) h1
 have e1:Ck=E0:=funext fun i=>hT.same i rfl
 subst e1;have t2:∀t∈Ds ops x,tm t=Bj tm o.dst u t:=fun t ht=>(Ef ox t ht).symm
 refine DF (Vr t2 hl) (Xn (s:=⟨tm,hp⟩) (s':=⟨Bj tm o.dst u,Ck⟩) t2 (fun _ y hy i hi=>?_) hv) hd ?_
 ·have hi:i∈Bo (Bu tm y):=by rw[E3 t2 y hy];exact hi
  by_cases hn:hp i=none
  ·exact .inr ⟨WU hn,K2 hn⟩
  ·obtain⟨h3,h4⟩:=Alt (hT.far i (PQ y hy i hi) hn);exact .inl ⟨h3.symm,h4.symm⟩
 ·rw[←Ko ne];exact h
def HI (P:Program)(x:Oper)(s s1:St):Prop:=(∀t,x.dst≠some t->s1.tm t=s.tm t)∧(∀i,s.hp i≠none->s1.hp i≠none)∧(G6 P x.op=false->∀i,s.hp i≠none->s1.hp i=s.hp i)
theorem Oc {tm:Nat->PV}{d:Option Tmp}{v:PV}{t:Nat}(h:d≠some t):Bj tm d v t=tm t:=by
 cases d with
 |none=>rfl
 |some d=>exact Ah _ _ (by rintro rfl;exact h rfl)
theorem DA {K':St->Option R}(h:C9 C P N call ops x s K=some r)(hK:∀s1,HI P x s s1->K s1=some r->K' s1=some r):C9 C P N call ops x s K'=some r:=by
 cases hx:Ge C P ops x s.tm
 ·rw[Ku hx] at h ⊢;cases ex:gE C P N call ops x s with
  |none=>rw[ex] at h;cases h
  |some q=>
   rw[ex] at h;obtain⟨hb,h1⟩:=Aj h;simp only[Bool.and_eq_true] at hb;show An _ _=_;rw[hb.1,hb.2];refine hK _ ⟨fun t ht=>Oc ht,fun i hi=>Mx hb.2 hi,fun hm i hi=>?_⟩ h1
   show Aq (Ad s.hp q.2.1) q.2.2 i=s.hp i;rw[Fo hb.2 hi,((Su ex).1 hm).1];simp
 ·rw[Ia hx] at h ⊢
  exact BX (P:=P) (N:=N) (o:=x) (tm:=s.tm) (tm':=s.tm) (hp:=s.hp) (Rel:=fun (a b:Option R)=>a=some r->b=some r) (fun h=>by cases h) (fun _ _=>rfl) (fun v Ck hh h=>hK _ ⟨fun t ht=>Oc ht,hh,fun hm=>by
   have hM:Qi C P x.op=true:=by unfold Ge at hx;simp only[Bool.and_eq_true] at hx;exact hx.1
   rw[Xm hM] at hm;cases hm⟩ h) h
theorem RT.keeps {s1:St}(h:RT C P o s)(ap:Xs C P ops x o)(hk:HI P x s s1):RT C P o s1:=by
 have XE:∀y∈o.op.operands.toList,Bu s1.tm y=Bu s.tm y:=fun y hy=>E3 (ops:=ops) (o:=o) (fun t ht=>hk.1 t fun hd=>ap.xo t hd ht) y hy
 refine⟨fun y hy i hi=>?_,fun hM hA y hy i hi c hc p hp k hkk=>?_⟩
 ·rw[XE y hy] at hi;exact hk.2.1 i (h.1 y hy i hi)
 ·rw[XE y hy] at hi;have T0:=h.1 y hy i hi;rw[hk.2.2 (ap.mo hM) i T0] at hc;exact hk.2.1 k (h.2 hM hA y hy i hi c hc p hp k hkk)
theorem FH:∀(l:List Oper){s:St}{K:St->Option R},RT C P o s->(∀x∈l,Xs C P ops x o)->Nc C P N call ops l s (fun s1=>C9 C P N call ops o s1 K)=some r->C9 C P N call ops o s (fun s1=>Nc C P N call ops l s1 K)=some r
 |[],_,_,_,_,h=>h
 |x::l,s,K,hw,ap,h=>by
  refine Az2 hw (ap x (by simp)) ?_
  refine DA (K:=fun s1=>Nc C P N call ops l s1 (fun s2=>C9 C P N call ops o s2 K)) h fun s1 hk h1=>?_
  exact FH l (hw.keeps (ap x (by simp)) hk) (fun y hy=>ap y (List.mem_cons_of_mem _ hy)) h1
theorem Sj:∀(l l':List Oper){s:St}{K:St->Option R},Nc C P N call ops (l++l') s K=Nc C P N call ops l s (fun s1=>Nc C P N call ops l' s1 K)
 |[],_,_,_=>rfl
 |x::l,l',s,K=>by
  show C9 C P N call ops x s (fun s1=>Nc C P N call ops (l++l') s1 K)=C9 C P N call ops x s (fun s1=>Nc C P N call ops l s1 _)
  congr 1
  funext s1
  exact Sj l l'
theorem Aax {l l':List Oper}(hw:RT C P o s)(ap:∀x∈l,Xs C P ops x o)(h:Nc C P N call ops (l++o::l') s K=some r):C9 C P N call ops o s (fun s1=>Nc C P N call ops (l++l') s1 K)=some r:=by
 rw[Sj] at h;have:=FH l hw ap h;refine DA this fun s1 _ h1=>?_
 rw[Sj];exact h1
end
open Go.RowKit
section
variable {R:Type} {r:R} {P:Program} {N:Nat} {w0:World} {X0:Hm} {Y:Nat->Prop} {β β':Bt} {s:St} {a:Act} {w w':World} {o:Oper} {ops:Array Oper} {C:Gt} {call:Ai} {K:St->Option R}
theorem CA (h:Cj N w0 X0 Y β s a w){j d:Nat}(hd:(ops[j]?).bind (·.dst)=some d) {v:Value}(ht:s.tm d=.sc v):yielded ops a.tmps j=match v with | .bool b=>some b|_=>none:=by
 have Bp:d<N:=by
  rcases Nat.lt_or_ge d N with h'|h'
  ·exact h'
  ·rw[h.tmo d h'] at ht;cases ht
 have hv:=h.tms d Bp;rw[ht] at hv;have hv:=Ym hv;have MB:d<a.tmps.size:=by rw[h.tsz];exact Bp
 have he:a.tmps[d]?=some v:=by
  rw[Array.getElem?_eq_getElem MB];simp[MB] at hv;rw[hv]
 unfold yielded;rw[hd];simp only[Option.bind_some,he];cases v<;>rfl
theorem Vp (h:Cj N w0 X0 Y β s a w){G:Glo}(J1:QR P G w0 X0)(Dr:∀f args res,call f args=some res->Do G P f args res){i:Nat}(hi:ops[i]?=some o) (hk:C9 C P N call ops o s K=some r):
  ∃s',K s'=some r∧∀(next:Act->World->Prop) (Q:Exit->Act->World->Prop),(∀a' w' β',Cj N w0 X0 Y β' s' a' w'->next a' w')->wpOp P ops Q i next a w:=by
 rw[MN] at hk
 have hw:∀b,Gj ops o s.tm=some b->Region.wanted o (yielded ops a.tmps)=b:=by
  intro b hb;unfold Gj at hb;unfold Region.wanted;cases hg:o.guard with
  |none=>rw[hg] at hb;simpa using hb
  |some q=>
   obtain⟨j,want⟩:=q;rw[hg] at hb;simp only at hb ⊢;cases hd:(ops[j]?).bind (·.dst) with
   |none=>rw[hd] at hb;cases hb
   |some d=>
    rw[hd] at hb;simp only at hb;split at hb
    ·rename_i b' ht;rw[CA h hd ht];simp at hb;rw[←hb];cases b'<;>cases want<;>rfl
    ·rename_i ht;rw[CA h hd ht];simp at hb;rw[hb];rfl
    ·cases hb
 split at hk
 ·cases hk
 ·rename_i hv;obtain⟨s',hs',hn⟩:=SP h J1 Dr hk;refine⟨s',hs',fun next Q Afa=>?_⟩
  unfold wpOp;rw[hi];simp only[hw _ hv,if_true];exact .inl (hn next Q Afa)
 ·rename_i hv;obtain⟨hd,hk⟩:=Aj hk;refine⟨_,hk,fun next Q Afa=>?_⟩
  unfold wpOp;rw[hi];simp only[hw _ hv];refine Afa _ _ β (h.put hd (As.sc _) (by simp[Bo,B4,Ao]))
theorem Cj.known (h:Cj N w0 X0 Y β s a w){d:Nat}(hd:s.tm d=.ub):∃b,Cj N w0 X0 Y β ⟨Cb s.tm d (.sc (.bool b)),s.hp⟩ a w:=by
 have Bp:d<N:=by
  rcases Nat.lt_or_ge d N with h'|h'
  ·exact h'
  ·rw[h.tmo d h'] at hd;cases hd
 have hu:=h.tms d Bp;rw[hd] at hu;have I1:As w (Cs s.hp β Y) .ub (a.tmps.getD d undef):=hu
 obtain⟨b,hv⟩:∃b,a.tmps.getD d undef=.bool b:=by
  generalize a.tmps.getD d undef=x at I1;cases I1 with
  |ub b=>exact⟨b,rfl⟩
 refine⟨b,⟨h.dfr,h.tsz,fun i hi=>?_,fun i hi=>?_,h.box,h.inj,h.blt,fun i hi=>?_,h.wfB,h.ownd,h.rngB,h.pin,h.stp,h.Yx,h.Ylt,h.fr⟩⟩
 ·show Cb s.tm d _ i=_;rw[Ah _ _ (by omega)]
  exact h.tmo i hi
 ·by_cases e:i=d
  ·subst e;show D6 _ _ _ (Cb s.tm i _ i) _;rw[Al,hv];exact As.sc _
  ·show D6 _ _ _ (Cb s.tm d _ i) _;rw[Ah _ _ e];exact h.tms i hi
 ·by_cases e:i=d
  ·subst e;show ∀id∈Bo (Cb s.tm i _ i),_;rw[Al];simp[Bo,B4,Ao]
  ·show ∀id∈Bo (Cb s.tm d _ i),_;rw[Ah _ _ e];exact h.wfT i hi
theorem IF {x y:Option R}(h:AE x y=some r):x=some r∧y=some r:=by
 unfold AE at h;split at h
 ·rename_i e;exact⟨h,e ▸ h⟩
 ·cases h
theorem LQ (h:Cj N w0 X0 Y β s a w){F:St->Option R}(hk:SM ops o s F=some r):∃s',F s'=some r∧Cj N w0 X0 Y β s' a w:=by
 unfold SM at hk;split at hk
 ·exact⟨s,hk,h⟩
 ·split at hk
  ·exact⟨s,hk,h⟩
  ·split at hk
   ·rename_i d _ ht;obtain⟨b,hb⟩:=h.known ht;obtain⟨h1,h2⟩:=IF hk;cases b
    ·exact⟨_,h2,hb⟩
    ·exact⟨_,h1,hb⟩
   ·exact⟨s,hk,h⟩
theorem Wz {G:Glo}(J1:QR P G w0 X0)(Dr:∀f args res,call f args=some res->Do G P f args res){Q:Exit->Act->World->Prop}(hQ:∀s' a' w' β',K s'=some r->Cj N w0 X0 Y β' s' a' w'->Q .normal a' w'):
  ∀(l:List Nat) (os:List Oper),l.length=os.length->(∀(k i:Nat),l[k]?=some i->ops[i]?=os[k]?)->∀{s:St} {a:Act} {w:World} {β:Bt},Cj N w0 X0 Y β s a w->KH C P N call ops os s K=some r->wpOps P ops Q l a w
 |[],[],_,_,s,a,w,β,h,hk=>by
  show Q .normal a w;exact hQ s a w β hk h
 |[],_::_,hl,_,_,_,_,_,_,_=>by cases hl
 |_::_,[],hl,_,_,_,_,_,_,_=>by cases hl
 |i::l,o::os,hl,hi,s,a,w,β,h,hk=>by
  rw[wpOps_cons];obtain⟨s1,hk,h⟩:=LQ h hk;obtain⟨s',hs',hn⟩:=Vp h J1 Dr (by simpa using hi 0 i rfl) hk
  exact hn _ _ fun a' w' β' h'=>Wz J1 Dr hQ l os (by simpa using hl) (fun k j hj=>by simpa using hi (k+1) j (by simpa using hj)) h' hs'
theorem Cj.drew (h:Cj N w0 X0 Y β s a w):Cj N w0 X0 Y β s a { w with drawn:=w.drawn+1 }:=by
 have:=h.stepR (d:=none) (v:=.top) (nw:=[]) (val:=undef) (w':={ w with drawn:=w.drawn+1 }) (β':=β) rfl rfl
  ⟨rfl,rfl,rfl,⟨Nat.le_refl _,fun _ _ _=>rfl,fun _ _=>Hw.refl _ _⟩,fun _ _=>rfl,by simp,by simp,by simp,by simp,by simp,.top _,by simp[Bo,B4,Ao]⟩
 exact this
theorem JJ (h:Cj N w0 X0 Y β s a w){G:Glo}(J1:QR P G w0 X0)(Dr:∀f args res,call f args=some res->Do G P f args res){id:Nat}{Q:Exit->Act->World->Prop}
  (hk:KH C P N call ops ops.toList s K=some r)(hQ:∀s' a' w' β',K s'=some r->Cj N w0 X0 Y β' s' a' w'->Q .normal a' w'):(Code.region id ops false).wp P Q a w:=by
 refine wp_region (Wz J1 Dr hQ (List.range ops.size) ops.toList (by simp) (fun k i hi=>?_) h hk)
 rw[List.getElem?_range] at hi
 ·simp at hi;subst hi;simp
 ·rcases Nat.lt_or_ge k ops.size with h'|h'
  ·exact h'
  ·rw[List.getElem?_eq_none (by simpa using h')] at hi;cases hi
def Mh (n:Nat)(listed:Array Bool):List Nat:=(List.range n).filter fun i=> !listed.getD i true
def An0 (ops:Array Oper)(listed:Array Bool)(o:Oper):Prop:=∀e∈o.after,Region.binds .any e=true->listed.getD e.on false=true
theorem testBit_or {a b j:Nat}:(a ||| b).testBit j=(a.testBit j||b.testBit j):=Nat.testBit_or a b j
theorem IK {acc:List Nat}{j:Nat}:∀(es:List Edge)(v:Nat),(es.foldl (fun s e=>bif Region.binds .any e then s ||| 2 ^ e.on ||| acc.getD e.on 0 else s) v).testBit j=true ->
  v.testBit j=true∨∃e∈es,Region.binds .any e=true∧(j=e.on∨(acc.getD e.on 0).testBit j=true)
 |[],v,h=>.inl h
 |e::es,v,h=>by
  rcases IK es _ h with h|⟨e',he',h⟩
  ·cases hb:Region.binds .any e<;>simp only[hb] at h
   ·exact .inl h
   ·simp only[cond_true,Nat.testBit_or,Bool.or_eq_true] at h;rcases h with (h|h)|h
    ·exact .inl h
    ·refine .inr ⟨e,by simp,hb,.inl ?_⟩
     rw[Nat.testBit_two_pow] at h;exact (of_decide_eq_true h).symm
    ·exact .inr ⟨e,by simp,hb,.inr h⟩
  ·exact .inr ⟨e',by simp[he'],h⟩
theorem Qr {listed:Array Bool}(hc:∀(j:Nat) oj,ops[j]?=some oj->listed.getD j false=true->An0 ops listed oj):
  ∀(rest done:List Oper) (acc:List Nat),ops.toList=done++rest->acc.length=done.length ->
   (∀(k:Nat) o,done[k]?=some o->An0 ops listed o->∀j,(acc.getD k 0).testBit j=true->listed.getD j false=true) ->
   ∀(k:Nat) o,ops[k]?=some o->An0 ops listed o->∀j,((H1 rest acc).getD k 0).testBit j=true->listed.getD j false=true
 |[],done,acc,he,_,h,k,o,ho,hf,j,hj=>by
  refine h k o ?_ hf j hj;rw[List.append_nil] at he;rw[←he]
  simpa using ho
 |o'::rest,done,acc,he,hl,h,k,o,ho,hf,j,hj=>by
  refine Qr hc rest (done++[o']) _ (by rw[he];simp) (by simp[hl]) ?_ k o ho hf j hj
  intro k o ho hf j hj;rcases Nat.lt_trichotomy k done.length with Bp|NH|hgt
  ·rw[List.getElem?_append_left Bp] at ho;rw[List.getD_eq_getElem?_getD,List.getElem?_append_left (by omega),←List.getD_eq_getElem?_getD] at hj
   exact h k o ho hf j hj
  ·subst NH;simp at ho;subst ho;rw[←hl] at hj;simp only[List.getD_eq_getElem?_getD,List.getElem?_append_right (Nat.le_refl _),Nat.sub_self,List.getElem?_cons_zero,Option.getD_some] at hj
   have hj:(o'.after.toList.foldl (fun s e=>bif Region.binds .any e then s ||| 2 ^ e.on ||| acc.getD e.on 0 else s) 0).testBit j=true:=by
    simpa only[List.getD_eq_getElem?_getD] using hj
   rcases IK _ _ hj with h0|⟨e,hm,hb,h1⟩
   ·simp at h0
   ·have CI:=hf e (by simpa using hm) hb
    rcases h1 with h1|h1
    ·rw[h1];exact CI
    ·cases hd:done[e.on]? with
     |none=>
      have:acc.getD e.on 0=0:=by
       rw[List.getD_eq_getElem?_getD,List.getElem?_eq_none (by rw[hl];exact List.getElem?_eq_none_iff.1 hd)]
       rfl
      rw[this] at h1;simp at h1
     |some oe=>
      have hoe:ops[e.on]?=some oe:=by
       rw[←Array.getElem?_toList,he,List.getElem?_append_left (by
        rcases Nat.lt_or_ge e.on done.length with h'|h'
        ·exact h'
        ·rw[List.getElem?_eq_none h'] at hd;cases hd)]
       exact hd
      exact h e.on oe hd (hc e.on oe hoe CI) j h1
  ·rw[List.getElem?_eq_none (by simp;omega)] at ho
   cases ho
theorem W8 {bs:List Nat}:∀(l:List Oper)(n:Nat),BO C P ops bs l n=true->∀(k:Nat) o,l[k]?=some o->∀(j:Nat) x,ops[j]?=some x->j<n+k->CK C P ops x o=true->(bs.getD (n+k) 0).testBit j=true
 |[],_,_,k,o,ho,_,_,_,_,_=>by simp at ho
 |o'::l,n,h,k,o,ho,j,x,hx,hj,N1=>by
  simp only[BO,Bool.and_eq_true] at h;cases k with
  |zero=>
   simp at ho;subst ho
   have:=List.all_eq_true.1 h.1 (x,j) (by
    rw[List.mem_zipIdx_iff_getElem?]
    simpa using hx)
   simp only[N1,Bool.not_true,Bool.or_false,Bool.or_eq_true,Bool.not_eq_true'] at this;rcases this with h'|h'
   ·have:Nat.blt j n=true:=Nat.ble_eq_true_of_le (by omega)
    rw[this] at h';cases h'
   ·exact h'
  |succ k=>
   have:=W8 l (n+1) h.2 k o (by simpa using ho) j x hx (by omega) N1
   rwa [show n+(k+1)=n+1+k by omega]
theorem Je {n i:Nat}{listed:Array Bool}:i∈Mh n listed↔i<n∧listed.getD i true=false:=by
 unfold Mh;simp[List.mem_filter]
theorem Vl {n i:Nat}{listed:Array Bool}(hi:i∈Mh n listed)(L8:listed.size=n):∃l1 l2,Mh n listed=l1++i::l2∧Mh n (listed.setIfInBounds i true)=l1++l2∧∀j∈l1,j<i:=by
 obtain⟨Bp,Jq⟩:=Je.1 hi
 have hr:List.range n=List.range i++i::(List.range (n-i-1)).map (i+1 + ·):=by
  conv=>lhs;rw[show n=i+(1+(n-i-1)) by omega]
  rw[List.range_add,List.range_add];simp[Nat.add_assoc]
 refine⟨(List.range i).filter fun i=> !listed.getD i true,((List.range (n-i-1)).map (i+1 + ·)).filter fun i=> !listed.getD i true,?_,?_,fun j hj=>?_⟩
 ·unfold Mh;rw[hr,List.filter_append,List.filter_cons_of_pos (by rw[Jq];rfl)]
 ·unfold Mh;rw[hr,List.filter_append,List.filter_cons_of_neg (by simp[L8,Bp])]
  congr 1
  ·refine List.filter_congr fun j hj=>?_
   rw[getD_set_ne true (by have:=List.mem_range.1 hj;omega)]
  ·refine List.filter_congr fun j hj=>?_
   obtain⟨k,_,rfl⟩:=List.mem_map.1 hj;rw[getD_set_ne true (by omega)]
 ·exact List.mem_range.1 (List.mem_filter.1 hj).1
theorem Acd (h:Cj N w0 X0 Y β s a w)(o:Oper):RT C P o s:=by
 refine⟨fun y _ i hi=>Ep h y i hi,fun _ _ y _ i hi c hc p hp k hk=>h.wfB i c hc p hp k hk⟩
theorem IH (Ab3:(ops.toList.zipIdx.all fun q=>q.1.after.toList.all fun e=> !Region.binds .any e||Nat.blt e.on q.2)=true) {listed:Array Bool}(inv:HeadInv .any ops ops.size listed)(hr:Region.ready .any ops listed=[]):Mh ops.size listed=[]:=by
 cases hp:Mh ops.size listed with
 |nil=>rfl
 |cons i l=>
  exfalso;have hi:i∈Mh ops.size listed:=by rw[hp];simp
  obtain⟨Bp,Jq⟩:=Je.1 hi;obtain⟨l1,l2,h1,_,h3⟩:=Vl hi inv.size
  have CI:l1=[]:=by
   cases l1 with
   |nil=>rfl
   |cons j l1=>
    rw[hp] at h1;simp at h1;have:=h3 j (by simp)
    omega
  subst CI
  have Blq:∀j,j<i->listed.getD j false=true:=by
   intro j hj;cases hh:listed.getD j false with
   |true=>rfl
   |false=>
    have:j∈Mh ops.size listed:=Je.2 ⟨by omega,getD_in (by rw[inv.size];omega) hh⟩
    have hs:(Mh ops.size listed).Pairwise (· < ·):=List.Pairwise.filter _ List.pairwise_lt_range
    rw[h1] at this hs;simp at this;rcases this with e|e
    ·omega
    ·have:=(List.pairwise_cons.1 hs).1 j e;omega
  have:i∈Region.ready .any ops listed:=by
   refine mem_ready.2 ⟨Jq,ops[i],Array.getElem?_eq_getElem Bp,fun e he hb=>Blq _ ?_⟩
   have:=List.all_eq_true.1 Ab3 (ops[i],i) (by
    rw[List.mem_zipIdx_iff_getElem?];simp[Bp])
   have:=List.all_eq_true.1 this e (Array.mem_toList_iff.2 he);simp only[hb,Bool.not_true,Bool.false_or] at this;exact Nat.lt_of_succ_le (Nat.le_of_ble_eq_true this)
  rw[hr] at this;simp at this
theorem KF {G:Glo}(J1:QR P G w0 X0)(Dr:∀f args res,call f args=some res->Do G P f args res)(Kd:HR C P ops=true){Q:Exit->Act->World->Prop}(hQ:∀s' a' w' β',K s'=some r->Cj N w0 X0 Y β' s' a' w'->Q .normal a' w'):
  ∀(fuel:Nat) {listed:Array Bool} {s:St} {a:Act} {w:World} {β:Bt},HeadInv .any ops ops.size listed->(Mh ops.size listed).length=fuel->Cj N w0 X0 Y β s a w->Nc C P N call ops ((Mh ops.size listed).filterMap (ops[·]?)) s K=some r->wpAny P .any ops Q fuel listed a w:=by
 unfold HR at Kd;simp only[Bool.and_eq_true] at Kd;obtain⟨Ab3,Anw⟩:=Kd;intro fuel
 induction fuel with
 |zero=>
  intro listed s a w β inv hf h hk;have hp:=List.eq_nil_of_length_eq_zero hf;rw[hp] at hk;refine⟨?_,hQ s a w β hk h⟩;cases hr:Region.ready .any ops listed with
  |nil=>rfl
  |cons i l=>
   exfalso;have hi:i∈Region.ready .any ops listed:=by rw[hr];simp
   obtain⟨Jq,o,ho,_⟩:=mem_ready.1 hi;have:i∈Mh ops.size listed:=Je.2 ⟨(Array.getElem?_eq_some_iff.1 ho).1,Jq⟩;rw[hp] at this;simp at this
 |succ fuel ih=>
  intro listed s a w β inv hf h hk;refine⟨fun hr=>?_,fun i hi=>?_⟩
  ·rw[IH Ab3 inv hr] at hf;cases hf
  ·obtain⟨Jq,o,ho,L7⟩:=mem_ready.1 hi;have Bp:i<ops.size:=(Array.getElem?_eq_some_iff.1 ho).1;obtain⟨l1,l2,h1,h2,h3⟩:=Vl (Je.2 ⟨Bp,Jq⟩) inv.size;rw[h1,List.filterMap_append,List.filterMap_cons_some ho] at hk
   have Ll:∀x∈l1.filterMap (ops[·]?),Xs C P ops x o:=by
    intro x hx;obtain⟨j,hj,hxj⟩:=List.mem_filterMap.1 hx;refine Ahc ?_;cases N1:CK C P ops x o with
    |false=>rfl
    |true=>
     exfalso;have Ue:=W8 ops.toList 0 Anw i o (by simpa using ho) j x hxj (by have:=h3 j hj;omega) N1
     rw[Nat.zero_add] at Ue;have hjl:=Qr (listed:=listed) (fun j oj hj hl=>inv.closed j oj hj hl) ops.toList [] [] (by simp) rfl (by simp) i o ho L7 j Ue
     have:j∈Mh ops.size listed:=by rw[h1];simp[hj]
     have:=getD_both (Je.1 this).2;rw[hjl] at this;cases this
   obtain⟨s',hs',hn⟩:=Vp h J1 Dr ho (Aax (Acd h o) Ll hk);refine hn _ _ fun a' w' β' h'=>ih (inv.set hi Bp) ?_ h' ?_
   ·rw[h2];rw[h1] at hf;simp at hf ⊢;omega
   ·rw[h2,List.filterMap_append];exact hs'
theorem Yd (h:Cj N w0 X0 Y β s a w){G:Glo}(J1:QR P G w0 X0)(Dr:∀f args res,call f args=some res->Do G P f args res)(hm:P.follows .mixedOrders=true)(Kd:HR C P ops=true){Q:Exit->Act->World->Prop}
  (hk:Nc C P N call ops ops.toList s K=some r)(hQ:∀s' a' w' β',K s'=some r->Cj N w0 X0 Y β' s' a' w'->Q .normal a' w'):wpAny P .any ops Q ops.size (Array.replicate ops.size false) a { w with drawn:=w.drawn+1 }:=by
 have hp:Mh ops.size (Array.replicate ops.size false)=List.range ops.size:=by
  unfold Mh;refine List.filter_eq_self.2 fun i hi=>?_
  have:=List.mem_range.1 hi;simp[this]
 refine KF (C:=C) J1 Dr Kd hQ ops.size ⟨by simp,fun j oj _ hl=>(by rw[getD_replicate_false] at hl;cases hl),fun t ht ht'=>by omega⟩ (by rw[hp];simp) h.drew ?_
 rw[hp]
 have:(List.range ops.size).filterMap (ops[·]?)=ops.toList:=by
  refine List.ext_getElem? fun k=>?_
  have:∀(n:Nat),n<=ops.size->(List.range n).filterMap (ops[·]?)=ops.toList.take n:=by
   intro n
   induction n with
   |zero=>intro _;rfl
   |succ n ih=>
    intro hn;rw[List.range_succ,List.filterMap_append,ih (by omega),List.take_add_one]
    congr 1
    have:ops[n]?=some ops[n]:=Array.getElem?_eq_getElem (by omega)
    simp[this]
  rw[this ops.size (Nat.le_refl _)]
  congr 1
  exact List.take_of_length_le (by simp)
 rw[this];exact hk
theorem LU (h:Cj N w0 X0 Y β s a w){G:Glo}(J1:QR P G w0 X0)(Dr:∀f args res,call f args=some res->Do G P f args res)(hm:P.follows .mixedOrders=true)(Kd:HR C P ops=true){id:Nat}{Q:Exit->Act->World->Prop}
  (hk:Nc C P N call ops ops.toList s K=some r)(hQ:∀s' a' w' β',K s'=some r->Cj N w0 X0 Y β' s' a' w'->Q .normal a' w'):(Code.region id ops true).wp P Q a w:=
 wp_region_any hm (Yd h J1 Dr hm Kd hk hQ)
end
end
section
open Go.RowKit
section
variable {R R':Type} {Rel:Option R->Option R'->Prop} {P:Program} {N:Nat} {tm tm':Nat->PV} {hp Dd:Nat->Option Bk} {o:Oper}
theorem YK (hn:Rel none none){C:Gt}{call:Ai}{K:St->Option R}{K':St->Option R'}(Ll:Mz o.op=true)(Jp:∀x∈o.op.operands.toList,Bu tm x=Bu tm' x)
  (hS:∀i,Vt o tm' Dd i->hp i=Dd i∨(hp i=none∧∀b,Rel none b)) (hdd:∀d,o.dst=some d->hp d=Dd d)
  (hK:∀v Ck E0,(∀M,GS M (Vt o tm' Dd) o.dst hp Dd Ck E0)->Rel (K ⟨Bj tm o.dst v,Ck⟩) (K' ⟨Bj tm' o.dst v,E0⟩)):Rel (Ui C P N call ⟨tm,hp⟩ o K) (Ui C P N call ⟨tm',Dd⟩ o K'):=by
 unfold Ui;have hl:∀x∈o.op.operands.toList,∀i∈Bo (Bu tm' x),Vt o tm' Dd i:=fun x hx i hi=>.inl ⟨x,hx,hi⟩
 generalize hLd:Vt o tm' Dd=S at *
 generalize XE:o.op=op at *
 unfold Mz at Ll;split at Ll
 ·rename_i c
  have Km:∀x∈c.args.toList,x∈(Op.call c).operands.toList:=by
   intro x hx;simp only[Op.operands,Call.operands,Array.toList_append,List.mem_append];exact .inr hx
  split at Ll
  ·rename_i hc;simp only[hc];refine Cv hn fun d hd=>Be hn fun x _ hx=>Be hn fun y _ hy=>Eu hn (Be hn fun _ _ _=>Be hn fun _ _ _=>?_)
   subst hy;have ZP:=Km x (by rw[hx];simp)
   have hym:=Km y (by rw[hx];simp)
   simp only[Jp x ZP,Jp y hym];refine Wn hn hS (hdd d hd) (fun i hi=>hl x ZP i (Fe hi)) (fun i hi=>hl y hym i (Fe hi)) fun v Ck E0 hh=>?_
   have:=hK v Ck E0 (by rw[hd];exact hh)
   rw[hd] at this;exact this
  ·cases Ll
 ·cases Ll
theorem Ph {C:Gt}{call:Ai}(Ll:Mz o.op=true)(Jp:∀x∈o.op.operands.toList,Bu tm x=Bu tm' x)(hS:∀i,Vt o tm' Dd i->hp i=Dd i)(hdd:∀d,o.dst=some d->hp d=Dd d){s1:St}
  (h:Ui C P N call ⟨tm,hp⟩ o some=some s1):∃v Ck E0,s1=⟨Bj tm o.dst v,Ck⟩∧Ui C P N call ⟨tm',Dd⟩ o some=some ⟨Bj tm' o.dst v,E0⟩∧∀M,GS M (Vt o tm' Dd) o.dst hp Dd Ck E0:=by
 have:=YK (P:=P) (N:=N) (C:=C) (call:=call) (o:=o) (tm:=tm) (tm':=tm') (hp:=hp) (Dd:=Dd) (K:=some) (K':=some)
  (Rel:=fun (a b:Option St)=>∀s1,a=some s1->∃v Ck E0,s1=⟨Bj tm o.dst v,Ck⟩∧b=some ⟨Bj tm' o.dst v,E0⟩∧∀M,GS M (Vt o tm' Dd) o.dst hp Dd Ck E0) (fun _ h=>by cases h) Ll Jp (fun i hi=>.inl (hS i hi)) hdd
  (fun v Ck E0 hT s1 h=>by cases h;exact⟨v,Ck,E0,rfl,rfl,hT⟩)
 exact this s1 h
end
section
variable {R R':Type} {r:R} {r':R'} {C:Gt} {P:Program} {N:Nat} {call:Ai} {ops:Array Oper} {o x:Oper} {s s1 s2:St} {K:St->Option R}
theorem Sc {tm:Nat->PV}(h:Ge C P ops o tm=true):Qi C P o.op=true:=by
 unfold Ge at h;simp only[Bool.and_eq_true] at h;exact h.1
theorem MT (h:Mz o.op=true):Qi C P o.op=true:=by
 unfold Mz at h;split at h
 ·rename_i c hc;rw[hc];split at h
  ·rename_i hcc;simp only[Qi,hcc];exact h
  ·cases h
 ·cases h
theorem M7 (h:C9 C P N call ops x s K=some r):∃s1,C9 C P N call ops x s some=some s1∧HI P x s s1∧(Se P x.op=true->s1.hp=s.hp)∧K s1=some r:=by
 cases hx:Ge C P ops x s.tm
 ·rw[Ku hx] at h ⊢;cases ex:gE C P N call ops x s with
  |none=>rw[ex] at h;cases h
  |some q=>
   rw[ex] at h;obtain⟨hb,h1⟩:=Aj h;simp only[Bool.and_eq_true] at hb;refine⟨_,?_,⟨fun t ht=>Oc ht,fun i hi=>Mx hb.2 hi,fun hm i hi=>?_⟩,fun hl=>?_,h1⟩
   ·show An _ _=_;rw[hb.1,hb.2];rfl
   ·show Aq (Ad s.hp q.2.1) q.2.2 i=s.hp i;rw[Fo hb.2 hi,((Su ex).1 hm).1];simp
   ·show Aq (Ad s.hp q.2.1) q.2.2=s.hp;obtain⟨h1,h2⟩:=VR (.inl hl) ex;rw[h1,h2]
    funext i
    show Ad s.hp [] i=_;rw[Bq];simp
 ·rw[Ia hx] at h ⊢
  exact BX (P:=P) (N:=N) (o:=x) (tm:=s.tm) (tm':=s.tm) (hp:=s.hp) (K':=some) (Rel:=fun (a:Option R) (b:Option St)=>a=some r->∃s1,b=some s1∧HI P x s s1∧(Se P x.op=true->s1.hp=s.hp)∧K s1=some r) (fun h=>by cases h) (fun _ _=>rfl) (fun v Ck hh h=>⟨_,rfl,⟨fun t ht=>Oc ht,hh,fun hm=>(by
   rw[Xm (Sc hx)] at hm;cases hm)⟩,fun hl=>(by
   have:=Sc hx;rw[Kf hl] at this;cases this),h⟩) h
theorem Tl {K':St->Option R'}(h:C9 C P N call ops x s some=some s1)(hk:K' s1=some r'):C9 C P N call ops x s K'=some r':=by
 cases hx:Ge C P ops x s.tm
 ·rw[Ku hx] at h ⊢;cases ex:gE C P N call ops x s with
  |none=>rw[ex] at h;cases h
  |some q=>
   rw[ex] at h;obtain⟨hb,h1⟩:=Aj h;show An _ _=_;rw[hb];cases h1;exact hk
 ·rw[Ia hx] at h ⊢;exact BX (P:=P) (N:=N) (o:=x) (tm:=s.tm) (tm':=s.tm) (hp:=s.hp) (K:=some) (Rel:=fun (a:Option St) (b:Option R')=>a=some s1->b=some r') (fun h=>by cases h) (fun _ _=>rfl) (fun v Ck hh h=>by cases h;exact hk) h
theorem LF {d:Nat}{t tx:TypeId}{b y:PV}(h:Oo P N s d t tx b y K=some r):s.hp d=none:=by
 unfold Oo at h;split at h
 ·obtain⟨_,h⟩:=Aj h;cases hI:Xa P tx
  ·rw[hI,cond_false] at h;refine Yn (P:=P) (tm:=s.tm) (tm':=s.tm) (hp:=s.hp) (Dd:=s.hp) (S:=fun _=>True) (K':=fun _ _=>(none:Option R)) (Rel:=fun (a:Option R) (_:Option R)=>a=some r->s.hp d=none) (fun h=>by cases h) (fun _ _=>.inl rfl) (fun _ _=>trivial) (fun m new h=>?_) h
   split at h
   ·split at h
    ·obtain⟨hb,_⟩:=Aj h;simp only[Bool.and_eq_true,Option.isNone_iff_eq_none] at hb;simp only[hb]
    ·cases h
   ·obtain⟨_,_,_,h,_⟩:=E6 h;obtain⟨hb,_⟩:=Aj h;simp only[Bool.and_eq_true,Option.isNone_iff_eq_none] at hb;simp only[hb]
  ·rw[hI,cond_true] at h;unfold R9 at h;obtain⟨_,_,_,h⟩:=C2 h;obtain⟨_,_,_,h,_⟩:=E6 h;obtain⟨hb,_⟩:=Aj h;simp only[Bool.and_eq_true,Option.isNone_iff_eq_none] at hb;simp only[hb]
 ·cases h
theorem Ah7 (hw:RT C P o s)(hwx:∀y∈x.op.operands.toList,∀i∈Bo (Bu s.tm y),s.hp i≠none) (xo:∀d,x.dst=some d->d ∉ Ds ops o)(ne:∀d,x.dst=some d->o.dst≠some d)(ox:∀d,o.dst=some d->d ∉ Ds ops x)
  (Cx:Mz x.op=true)(YN:Mz o.op=true)(PQ:∀i,Vt x s.tm s.hp i->¬Vt o s.tm s.hp i)(hx:Ge C P ops x s.tm=true)(ho:Ge C P ops o s.tm=true)
  (h:C9 C P N call ops x s (fun s1=>C9 C P N call ops o s1 K)=some r):C9 C P N call ops o s (fun s1=>C9 C P N call ops x s1 K)=some r:=by
 obtain⟨tm,hp⟩:=s;obtain⟨s1,e1,_,_,h⟩:=M7 h;obtain⟨s2,e2,_,_,h⟩:=M7 h;rw[Ia hx] at e1
 have hSx:∀i,Vt x tm hp i->hp i≠none:=by
  rintro i (⟨y,hy,hi⟩|⟨Ll,_⟩)
  ·exact hwx y hy i hi
  ·rw[Cx] at Ll;cases Ll
 have hSo:∀i,Vt o tm hp i->hp i≠none:=by
  rintro i (⟨y,hy,hi⟩|⟨Ll,_⟩)
  ·exact hw.1 y hy i hi
  ·rw[YN] at Ll;cases Ll
 obtain⟨vx,hpx,Ai6,rfl,e1',T1⟩:=Ph Cx (fun _ _=>rfl) (fun _ _=>rfl) (fun _ _=>rfl) e1
 have:Ai6=hpx:=by
  rw[e1] at e1';injection e1' with q;injection q with _ q;exact q.symm
 subst this;have t1:∀t∈Ds ops o,Bj tm x.dst vx t=tm t:=Ef xo;have t1o:=E3 (ops:=ops) (o:=o) t1;rw[Ia (by rw[G3 t1];exact ho)] at e2
 have hRo:∀i,Vt o (Bj tm x.dst vx) Ai6 i↔Vt o tm hp i:=by
  intro i;constructor
  ·rintro (⟨y,hy,hi⟩|⟨Ll,_⟩)
   ·exact .inl ⟨y,hy,by rw[←t1o y hy];exact hi⟩
   ·rw[YN] at Ll;cases Ll
  ·rintro (⟨y,hy,hi⟩|⟨Ll,_⟩)
   ·exact .inl ⟨y,hy,by rw[t1o y hy];exact hi⟩
   ·rw[YN] at Ll;cases Ll
 have Alh:∀{s:St} {o:Oper} {s2:St},Mz o.op=true->Ui C P N call s o some=some s2->∀d,o.dst=some d->s.hp d=none:=by
  intro s o s2 YN e d hd;unfold Ui at e;unfold Mz at YN;split at YN
  ·rename_i c hc;rw[hc] at e;simp only at e;split at YN
   ·rename_i hcc;rw[hcc] at e;simp only[hd,Dm] at e;obtain⟨_,_,_,e⟩:=A3 e;obtain⟨_,_,_,e⟩:=A3 e;obtain⟨_,e⟩:=C5 e;obtain⟨_,_,_,e⟩:=A3 e;obtain⟨_,_,_,e⟩:=A3 e;exact LF e
   ·cases YN
  ·cases YN
 have Bf2:∀d,o.dst=some d->hp d=none:=by
  intro d hd;have h0:=Alh YN e2 d hd;cases hh:hp d with
  |none=>rfl
  |some b=>exact absurd h0 ((T1 0).keep d (by rw[hh];simp))
 have Ayi:=Alh Cx e1;simp only at Ayi;have hoS:∀d,o.dst=some d->¬Vt x tm hp d:=fun d hd hR=>hSx d hR (Bf2 d hd)
 have hxS:∀d,x.dst=some d->¬Vt o tm hp d:=fun d hd hR=>hSo d hR (Ayi d hd)
 obtain⟨vo,Brv,hpo,rfl,e3,T2⟩:=Ph (tm':=tm) (Dd:=hp) YN t1o (fun i hi=>(T1 0).far i (fun hR=>PQ i hR hi) (hSo i hi)) (fun d hd=>((T1 (d+1)).off d (by omega) (fun e=>ne d e hd) (.inl (hoS d hd))).1) e2
 obtain⟨vo',Bvl,PF,e3a,e3b,T3⟩:=Ph (tm':=tm) (Dd:=hp) YN (fun _ _=>rfl) (fun _ _=>rfl) (fun _ _=>rfl) e3
 rw[e3] at e3b
 have Bhc:Bvl=hpo∧PF=hpo:=by
  injection e3a with _ q1;injection e3b with q2;injection q2 with _ q3;exact⟨q1.symm,q3.symm⟩
 obtain⟨rfl,rfl⟩:=Bhc;have t2:∀t∈Ds ops x,tm t=Bj tm o.dst vo t:=fun t ht=>(Ef ox t ht).symm
 have t2x:=E3 (ops:=ops) (o:=x) t2
 have hRx:∀i,Vt x (Bj tm o.dst vo) PF i↔Vt x tm hp i:=by
  intro i;constructor
  ·rintro (⟨y,hy,hi⟩|⟨Ll,_⟩)
   ·exact .inl ⟨y,hy,by rw[t2x y hy];exact hi⟩
   ·rw[Cx] at Ll;cases Ll
  ·rintro (⟨y,hy,hi⟩|⟨Ll,_⟩)
   ·exact .inl ⟨y,hy,by rw[←t2x y hy];exact hi⟩
   ·rw[Cx] at Ll;cases Ll
 obtain⟨vx2,Brn,Blz,e4a,e4,T4⟩:=Ph (tm':=Bj tm o.dst vo) (Dd:=PF) Cx t2x (fun i hi=>((T3 0).far i (PQ i ((hRx i).1 hi)) (hSx i ((hRx i).1 hi))).symm) (fun d hd=>((T3 (d+1)).off d (by omega) (fun e=>ne d hd e) (.inl (hxS d hd))).1.symm) e1
 have hvx:Bj tm x.dst vx=Bj tm x.dst vx2∧Ai6=Brn:=by
  injection e4a with q1 q2;exact⟨q1,q2⟩
 obtain⟨hvx,rfl⟩:=hvx;obtain⟨_,FQ,AO,e5a,e5b,T5⟩:=Ph (tm':=Bj tm x.dst vx) (Dd:=Ai6) YN (fun _ _=>rfl) (fun _ _=>rfl) (fun _ _=>rfl) e2
 have hq:FQ=Brv:=by injection e5a with _ q1;exact q1.symm
 subst hq;obtain⟨_,hu1,hu2,e6a,e6b,T6⟩:=Ph (tm':=Bj tm o.dst vo) (Dd:=PF) Cx (fun _ _=>rfl) (fun _ _=>rfl) (fun _ _=>rfl) e4
 have hu:hu1=Blz:=by injection e6a with _ q1;exact q1.symm
 subst hu
 have Km:FQ=hu1:=by
  funext i
  by_cases hi:Vt o tm hp i∨o.dst=some i
  ·have hxi:¬Vt x tm hp i:=by
    rcases hi with hi|hi
    ·exact fun hR=>PQ i hR hi
    ·exact hoS i hi
   have hdi:x.dst≠some i:=by
    rcases hi with hi|hi
    ·exact fun e=>hxS i e hi
    ·exact fun e=>ne i e hi
   rw[(T2 0).same i ((T1 (i+1)).off i (by omega) hdi (.inl hxi)).1]
   exact ((T6 (i+1)).off i (by omega) hdi (.inl fun hR=>hxi ((hRx i).1 hR))).1.symm
  ·have hoi:¬Vt o tm hp i:=fun e=>hi (.inl e)
   have hdi:o.dst≠some i:=fun e=>hi (.inr e)
   rw[((T5 (i+1)).off i (by omega) hdi (.inl fun hR=>hoi ((hRo i).1 hR))).1]
   exact (T4 0).same i ((T3 (i+1)).off i (by omega) hdi (.inl hoi)).1.symm
 refine Tl (s1:=⟨Bj tm o.dst vo,PF⟩) (by rw[Ia ho];exact e3) ?_
 refine Tl (s1:=⟨Bj (Bj tm o.dst vo) x.dst vx2,hu1⟩) (by rw[Ia (by rw[←G3 t2];exact hx)];exact e4) ?_
 rw[←Ko ne,←hvx,←Km];exact h
theorem Xc (hM:Qi C P o.op=true){i:Nat}(h:Vt o s.tm s.hp i):i∈Ly C P s o:=by
 unfold Ly;rw[hM];cases hA:Mz o.op
 ·simp only[Bool.not_false,Bool.and_self,cond_true,List.mem_append];rcases h with⟨y,hy,hi⟩|⟨_,id,c,⟨y,hy,hi⟩,hc,p,hp,hk⟩
  ·exact .inl (List.mem_flatMap.2 ⟨y,hy,hi⟩)
  ·refine .inr (List.mem_flatMap.2 ⟨id,List.mem_flatMap.2 ⟨y,hy,hi⟩,?_⟩);rw[hc];exact List.mem_flatMap.2 ⟨p,hp,hk⟩
 ·simp only[Bool.not_true,Bool.and_false,cond_false,Bool.or_true,cond_true];rcases h with⟨y,hy,hi⟩|⟨hn,_⟩
  ·exact List.mem_flatMap.2 ⟨y,hy,hi⟩
  ·rw[hA] at hn;cases hn
theorem BS (hl:Qi C P o.op=true∨Se P o.op=true){y:Operand}(hy:y∈o.op.operands.toList){i:Nat}(h:i∈Bo (Bu s.tm y)):i∈Ly C P s o:=by
 rcases hl with hM|hl
 ·exact Xc hM (.inl ⟨y,hy,h⟩)
 ·unfold Ly;rw[Kf hl,hl];exact List.mem_flatMap.2 ⟨y,hy,h⟩
theorem RI (ht:∀t∈Ds ops o,s1.tm t=s.tm t)(hh:Qi C P o.op=true->Mz o.op=false->∀y∈o.op.operands.toList,∀i∈Bo (Bu s.tm y),s1.hp i=s.hp i):Ly C P s1 o=Ly C P s o:=by
 have he:=E3 (ops:=ops) (o:=o) ht
 have hl:(o.op.operands.toList.flatMap fun y=>Bo (Bu s1.tm y))=o.op.operands.toList.flatMap fun y=>Bo (Bu s.tm y):=by
  have Apg:∀l:List Operand,(∀y∈l,Bu s1.tm y=Bu s.tm y)->(l.flatMap fun y=>Bo (Bu s1.tm y))=l.flatMap fun y=>Bo (Bu s.tm y):=by
   intro l
   induction l with
   |nil=>intro _;rfl
   |cons a l ih=>intro h;simp only[List.flatMap_cons];rw[h a (by simp),ih fun y hy=>h y (by simp[hy])]
  exact Apg _ he
 unfold Ly;simp only[hl];cases hM:(Qi C P o.op && !Mz o.op)
 ·rfl
 ·simp only[cond_true];simp only[Bool.and_eq_true,Bool.not_eq_true'] at hM
  congr 1
  have Apg:∀l:List Nat,(∀i∈l,s1.hp i=s.hp i)->(l.flatMap fun i=>match s1.hp i with|some (.st c)=>c.flatMap Ao|_=>[])=l.flatMap fun i=>match s.hp i with|some (.st c)=>c.flatMap Ao|_=>[]:=by
   intro l
   induction l with
   |nil=>intro _;rfl
   |cons a l ih=>intro h;simp only[List.flatMap_cons];rw[h a (by simp),ih fun y hy=>h y (by simp[hy])]
  exact Apg _ fun i hi=>by
   obtain⟨y,hy,hi⟩:=List.mem_flatMap.1 hi;exact hh hM.1 hM.2 y hy i hi
theorem V0 {a b:List Nat}(h:Aad a b=true){i:Nat}(ha:i∈a)(hb:i∈b):False:=by
 have:=List.all_eq_true.1 h i ha;have h2:b.any (Nat.beq i)=true:=List.any_eq_true.2 ⟨i,hb,Nat.beq_refl i⟩;rw[h2] at this;cases this
theorem YB {a b:List Nat}(h:Aad a b=true):Aad b a=true:=by
 refine List.all_eq_true.2 fun i hi=>?_
 cases hc:a.any (Nat.beq i)
 ·rfl
 ·obtain⟨j,hj,e⟩:=List.any_eq_true.1 hc;rw[Nat.eq_of_beq_eq_true e] at hi;exact (V0 h hj hi).elim
theorem Vm:J6 C P x o=J6 C P o x:=by
 unfold J6;cases Qi C P x.op<;>cases Qi C P o.op<;>cases Se P x.op<;>cases Se P o.op<;>cases Mz x.op<;>cases Mz o.op<;>rfl
structure Lp (C:Gt) (P:Program) (ops:Array Oper) (x o:Oper):Prop where
 xo:∀d,x.dst=some d->d ∉ Ds ops o
 ne:∀d,x.dst=some d->o.dst≠some d
 ox:∀d,o.dst=some d->d ∉ Ds ops x
 me:Q2 C P x o=false∨J6 C P x o=true
theorem Aa9 (h:Ad6 C P ops x o=false):Lp C P ops x o:=by
 unfold Ad6 at h;simp only[Bool.or_eq_false_iff] at h;obtain⟨h1,h2⟩:=h;have hT:=h1;unfold Ag6 at h1;simp only[Bool.or_eq_false_iff] at h1
 have a1:CK C P ops x o=false∨Q2 C P x o=true:=by
  cases hc:Q2 C P x o
  ·left;unfold CK;unfold Q2 at hc;simp only[Bool.or_eq_false_iff] at hc ⊢;exact⟨⟨⟨h1.1,h1.2⟩,hc.1⟩,hc.2⟩
  ·exact .inr rfl
 refine⟨fun d hd=>?_,fun d hd he=>?_,fun d hd=>?_,?_⟩
 ·have:=h1.1;simp only[hd,Bool.or_eq_false_iff] at this;exact Rd this.1
 ·have:=h1.1;simp only[hd,he,Bool.or_eq_false_iff] at this;rw[Nat.beq_refl] at this;cases this.2
 ·have:=h1.2;simp only[hd] at this;exact Rd this
 ·cases hc:Q2 C P x o
  ·exact .inl rfl
  ·rw[hc] at h2;right
   simpa using h2
theorem Lp.apart (ap:Lp C P ops x o)(h:Q2 C P x o=false):Xs C P ops x o:=by
 unfold Q2 at h;simp only[Bool.or_eq_false_iff,Bool.and_eq_false_iff] at h;refine⟨ap.xo,ap.ne,ap.ox,fun hm=>?_,fun hm=>?_⟩
 ·rcases h.1 with h|h
  ·rw[hm] at h;cases h
  ·exact h
 ·rcases h.2 with h|h
  ·rw[hm] at h;cases h
  ·exact h
theorem Lp.same (ap:Lp C P ops x o)(hk:HI P x s s1)(hl:Se P x.op=true->s1.hp=s.hp)(hM:Qi C P o.op=true)(hA:Mz o.op=false){i:Nat}(hi:s.hp i≠none):s1.hp i=s.hp i:=by
 rcases ap.me with h|h
 ·exact hk.2.2 ((ap.apart h).mo hM) i hi
 ·unfold J6 at h;rw[hA] at h;simp only[Bool.and_false,Bool.or_false,Bool.or_eq_true,Bool.and_eq_true] at h;rcases h with h|h
  ·have:=h.2;rw[Kf (C:=C) (P:=P) this] at hM;cases hM
  ·rw[hl h.2]
theorem RT.keepsS (h:RT C P o s)(ap:Lp C P ops x o)(hk:HI P x s s1)(hl:Se P x.op=true->s1.hp=s.hp):RT C P o s1:=by
 have XE:∀y∈o.op.operands.toList,Bu s1.tm y=Bu s.tm y:=fun y hy=>E3 (ops:=ops) (o:=o) (fun t ht=>hk.1 t fun hd=>ap.xo t hd ht) y hy
 refine⟨fun y hy i hi=>?_,fun hM hA y hy i hi c hc p hp k hkk=>?_⟩
 ·rw[XE y hy] at hi;exact hk.2.1 i (h.1 y hy i hi)
 ·rw[XE y hy] at hi;rw[ap.same hk hl hM hA (h.1 y hy i hi)] at hc;exact hk.2.1 k (h.2 hM hA y hy i hi c hc p hp k hkk)
theorem Lp.symm (ap:Lp C P ops x o):Lp C P ops o x:=by
 refine⟨ap.ox,fun d hd he=>ap.ne d he hd,ap.xo,?_⟩
 rcases ap.me with h|h
 ·left;unfold Q2 at h ⊢;rw[Bool.or_comm];exact h
 ·right;rw[Vm];exact h
theorem A98 (hw:RT C P o s)(hwx:J6 C P x o=true->∀i∈Ly C P s x,s.hp i≠none)(ap:Lp C P ops x o)(hd:J6 C P x o=true->Aad (Ly C P s x) (Ly C P s o)=true)
  (h:C9 C P N call ops x s (fun s1=>C9 C P N call ops o s1 K)=some r):C9 C P N call ops o s (fun s1=>C9 C P N call ops x s1 K)=some r:=by
 rcases ap.me with hm|hm
 ·exact Az2 hw (ap.apart hm) h
 ·have hd:=hd hm;have hwx:=hwx hm;cases hx:Ge C P ops x s.tm
  ·cases ho:Ge C P ops o s.tm
   ·exact WM hw ap.xo ap.ne ap.ox hx ho h
   ·have hMo:=Sc ho
    have hlx:GE P ops x s.tm:=by
     cases hl:Se P x.op
     ·right
      have hMx:Qi C P x.op=true:=by
       unfold J6 at hm;simp only[hl,Bool.and_false,Bool.or_false,Bool.or_eq_true,Bool.and_eq_true] at hm;rcases hm with hm|hm
       ·exact hm.1
       ·exact MT hm.1
      cases hv:Gj ops x s.tm with
      |none=>
       exfalso;rw[Ku hx] at h;unfold gE at h;rw[hv] at h;cases h
      |some b=>
       cases b
       ·rfl
       ·unfold Ge at hx;rw[hMx,hv] at hx;cases hx
     ·exact .inl hl
    refine Ajq ap.xo ap.ne ap.ox hlx (fun y hy i hi hR=>?_) ho h
    refine V0 hd (BS ?_ hy hi) (Xc hMo hR);unfold J6 at hm;simp only[Bool.or_eq_true,Bool.and_eq_true] at hm;rcases hm with (hm|hm)|hm
    ·exact .inl hm.1
    ·exact .inr hm.2
    ·exact .inl (MT hm.1)
  ·have hMx:=Sc hx;cases ho:Ge C P ops o s.tm
   ·have hlo:GE P ops o s.tm:=by
     cases hl:Se P o.op
     ·right
      have hMo:Qi C P o.op=true:=by
       unfold J6 at hm;simp only[hl,Bool.and_false,Bool.false_or,Bool.or_eq_true,Bool.and_eq_true] at hm;rcases hm with hm|hm
       ·exact hm.1
       ·exact MT hm.2
      cases hv:Gj ops o s.tm with
      |none=>
       exfalso;obtain⟨s1,_,hk,_,h⟩:=M7 h;have hv1:Gj ops o s1.tm=none:=by rw[Kx (fun t ht=>hk.1 t fun hd=>ap.xo t hd ht)];exact hv
       rw[Ku (by unfold Ge;rw[hv1];cases Qi C P o.op<;>rfl)] at h
       unfold gE at h;rw[hv1] at h;cases h
      |some b=>
       cases b
       ·rfl
       ·unfold Ge at ho;rw[hMo,hv] at ho;cases ho
     ·exact .inl hl
    refine Akh hw ap.xo ap.ne ap.ox hlo (fun y hy i hi hR=>?_) hx h
    refine V0 hd (Xc hMx hR) (BS ?_ hy hi);unfold J6 at hm;simp only[Bool.or_eq_true,Bool.and_eq_true] at hm;rcases hm with (hm|hm)|hm
    ·exact .inr hm.2
    ·exact .inl hm.1
    ·exact .inl (MT hm.2)
   ·have hMo:=Sc ho;unfold J6 at hm;simp only[Bool.or_eq_true,Bool.and_eq_true] at hm;rcases hm with (hm|hm)|hm
    ·rw[Kf (C:=C) (P:=P) hm.2] at hMo;cases hMo
    ·rw[Kf (C:=C) (P:=P) hm.2] at hMx;cases hMx
    ·exact Ah7 hw (fun y hy i hi=>hwx i (BS (.inl hMx) hy hi)) ap.xo ap.ne ap.ox hm.1 hm.2 (fun i h1 h2=>V0 hd (Xc hMx h1) (Xc hMo h2)) hx ho h
theorem Agf {α:Type}(a b:α)(l:List α)(f:α->Bool):(a::b::l).all f=(b::a::l).all f:=by
 simp only[List.all_cons];cases f a<;>cases f b<;>rfl
theorem Zh {bs:List (List Nat)}:∀(l:List Nat){dn dn':List (Nat × Oper × List Nat)} {s:St}{K:St->Option R},(∀f,dn.all f=dn'.all f)->Hp C P N call ops bs dn l s K=Hp C P N call ops bs dn' l s K
 |[],_,_,_,_,_=>rfl
 |i::l,dn,dn',s,K,h=>by
  unfold Hp;cases ops[i]? with
  |none=>rfl
  |some o=>
   simp only[Dm,h]
   congr 2
   funext s'
   exact Zh l fun f=>by simp only[List.all_cons,h]
theorem EP {bs:List Nat}{i:Nat}(hi:ops[i]?=some o):(Zl C P ops bs).getD i []=Wk C P ops bs i o:=by
 unfold Zl;rw[List.getD_eq_getElem?_getD,List.getElem?_map,List.getElem?_zipIdx,Array.getElem?_toList,hi];simp
theorem Rm {bs:List Nat}{i j:Nat}:j∈Wk C P ops bs i o↔∃x,ops[j]?=some x∧J6 C P x o=true∧(Nat.blt j i&&(bs.getD i 0).testBit j)=false∧(Nat.blt i j&&(bs.getD j 0).testBit i)=false:=by
 unfold Wk;simp only[List.mem_map,List.mem_filter,Bool.and_eq_true,Bool.not_eq_true',Prod.exists];constructor
 ·rintro⟨x,k,⟨hm,⟨h1,h2⟩,h3⟩,rfl⟩
  rw[List.mem_zipIdx_iff_getElem?] at hm;exact⟨x,by simpa using hm,h1,h2,h3⟩
 ·rintro⟨x,hx,h1,h2,h3⟩
  refine⟨x,j,⟨?_,⟨h1,h2⟩,h3⟩,rfl⟩;rw[List.mem_zipIdx_iff_getElem?]
  simpa using hx
theorem BP {sm:List (List Nat)} {i j:Nat}(h:j∈sm.getD i []):AM C P sm s i o=Ly C P s o:=by
 unfold AM;split
 ·rename_i e;rw[e] at h;simp at h
 ·rfl
theorem Afw {sm:List (List Nat)} {i:Nat}(h:sm.getD i []≠[]->Ly C P s1 o=Ly C P s o):AM C P sm s1 i o=AM C P sm s i o:=by
 unfold AM;split
 ·rfl
 ·rename_i e;exact h (by rw[e];simp)
theorem XJ {l:List Nat}{j:Nat}:l.any (Nat.beq j)=true↔j∈l:=by
 constructor
 ·intro h;obtain⟨k,hk,e⟩:=List.any_eq_true.1 h;rw[Nat.eq_of_beq_eq_true e];exact hk
 ·intro h;exact List.any_eq_true.2 ⟨j,h,Nat.beq_refl j⟩
theorem Xg {bs:List Nat}{sm:List (List Nat)} (hsm:sm=Zl C P ops bs){i:Nat}(hi:ops[i]?=some o) {l':List Nat}:∀(l:List Nat){dn:List (Nat × Oper × List Nat)} {s:St}{K:St->Option R},RT C P o s ->
  (∀j∈l,j<i∧(bs.getD i 0).testBit j=false∧∀x,ops[j]?=some x->Lp C P ops x o)->Hp C P N call ops sm dn (l++i::l') s K=some r ->
  dn.all (GC C P sm s i o)=true∧C9 C P N call ops o s (fun s1=>Hp C P N call ops sm ((i,o,AM C P sm s i o)::dn) (l++l') s1 K)=some r
 |[],dn,s,K,hw,_,h=>by
  simp only[List.nil_append] at h ⊢;unfold Hp at h;rw[hi] at h;simp only[Dm] at h;obtain⟨hb,h⟩:=Aj h;simp only[Bool.and_eq_true] at hb;exact⟨hb.1,h⟩
 |j::l,dn,s,K,hw,hl,h=>by
  simp only[List.cons_append] at h ⊢;unfold Hp at h;obtain⟨hji,Ue,Ll⟩:=hl j (by simp)
  cases hj:ops[j]? with
  |none=>rw[hj] at h;cases h
  |some x=>
   rw[hj] at h;simp only[Dm] at h;obtain⟨hb,h⟩:=Aj h;simp only[Bool.and_eq_true] at hb;have ap:=Ll x hj
   have hex:∀k∈AM C P sm s j x,s.hp k≠none:=fun k hk=>by
    have:=List.all_eq_true.1 hb.2 k hk;intro e;rw[e] at this;cases this
   obtain⟨s1,e1,Dw,CI,h1⟩:=M7 h;obtain⟨ha,h2⟩:=Xg hsm hi l (hw.keepsS ap Dw CI) (fun k hk=>hl k (by simp[hk])) h1
   have Bon:Ly C P s1 o=Ly C P s o:=RI (ops:=ops) (fun t ht=>Dw.1 t fun hd=>ap.xo t hd ht) fun hM hA y hy k hk=>ap.same Dw CI hM hA (hw.1 y hy k hk)
   have hr1:AM C P sm s1 i o=AM C P sm s i o:=Afw fun _=>Bon
   rw[List.all_cons,Bool.and_eq_true] at ha
   have Baa:Nat.blt i j=false:=by
    cases hh:Nat.blt i j
    ·rfl
    ·have:=Nat.le_of_ble_eq_true hh;omega
   have hmi:J6 C P x o=true->j∈sm.getD i []:=fun hs=>by
    rw[hsm,EP hi];exact Rm.2 ⟨x,hj,hs,by rw[Ue,Bool.and_false],by rw[Baa,Bool.false_and]⟩
   have hmj:J6 C P x o=true->i∈sm.getD j []:=fun hs=>by
    rw[hsm,EP hj];exact Rm.2 ⟨o,hi,by rw[Vm];exact hs,by rw[Baa,Bool.false_and],by rw[Ue,Bool.and_false]⟩
   have Ama:J6 C P x o=true->Aad (AM C P sm s j x) (AM C P sm s i o)=true:=by
    intro hs;have:=ha.1;unfold GC at this;rw[XJ.2 (hmi hs),hr1] at this
    simpa using this
   have Kd:∀q,GC C P sm s1 i o q=GC C P sm s i o q:=fun q=>by unfold GC;rw[hr1]
   have L7:dn.all (GC C P sm s i o)=true:=by
    refine List.all_eq_true.2 fun q hq=>?_
    rw[←Kd];exact List.all_eq_true.1 ha.2 q hq
   refine⟨L7,?_⟩;rw[hr1] at h2
   have h3:=A98 hw (fun hs k hk=>hex k (by rw[BP (hmj hs)];exact hk)) ap (fun hs=>by have:=Ama hs;rw[BP (hmj hs),BP (hmi hs)] at this;exact this)
    (Tl (K':=fun s1=>C9 C P N call ops o s1 (fun s2=>Hp C P N call ops sm ((i,o,AM C P sm s i o)::(j,x,AM C P sm s j x)::dn) (l++l') s2 K)) e1 h2)
   obtain⟨s2,e2,Ex,NG,h4⟩:=M7 h3;refine Tl e2 ?_
   have hr2:AM C P sm s2 j x=AM C P sm s j x:=Afw fun Hu=>by
    obtain⟨q,hq⟩:=List.exists_mem_of_ne_nil _ Hu;refine RI (ops:=ops) (fun t ht=>Ex.1 t fun hd=>ap.ox t hd ht) fun hM hA y hy k hk=>ap.symm.same Ex NG hM hA (hex k ?_)
    rw[BP hq];exact BS (.inl hM) hy hk
   unfold Hp;rw[hj];simp only[Dm]
   have hc:(((i,o,AM C P sm s i o)::dn).all (GC C P sm s2 j x)&&(AM C P sm s2 j x).all fun k=>(s2.hp k).isSome)=true:=by
    simp only[List.all_cons,Bool.and_eq_true];refine⟨⟨?_,?_⟩,?_⟩
    ·unfold GC;simp only[hr2];cases hs:(sm.getD j []).any (Nat.beq i)
     ·rfl
     ·have hm:=XJ.1 hs;rw[hsm,EP hj] at hm;obtain⟨o',QT,WP,_⟩:=Rm.1 hm;rw[hi] at QT;cases QT;rw[Vm] at WP;rw[YB (Ama WP)];rfl
    ·refine List.all_eq_true.2 fun q hq=>?_
     have:=List.all_eq_true.1 hb.1 q hq;unfold GC at this ⊢;rw[hr2];exact this
    ·rw[hr2];refine List.all_eq_true.2 fun k hk=>?_
     have:=Ex.2.1 k (hex k hk);cases hh:s2.hp k with
     |none=>exact absurd hh this
     |some _=>rfl
   rw[hc,hr2];show C9 C P N call ops x s2 _=some r
   have:(fun s'=>Hp C P N call ops sm ((j,x,AM C P sm s j x)::(i,o,AM C P sm s i o)::dn) (l++l') s' K)=fun s2=>Hp C P N call ops sm ((i,o,AM C P sm s i o)::(j,x,AM C P sm s j x)::dn) (l++l') s2 K:=by
    funext s'
    exact Zh _ fun f=>Agf _ _ _ f
   rw[this];exact h4
end
section
variable {R:Type} {r:R} {P:Program} {N:Nat} {w0:World} {X0:Hm} {Y:Nat->Prop} {β β':Bt} {s:St} {a:Act} {w w':World} {o:Oper} {ops:Array Oper} {C:Gt} {call:Ai} {K:St->Option R}
theorem Us {bs:List Nat}:∀(l:List Oper)(n:Nat),Xv C P ops bs l n=true->∀(k:Nat) o,l[k]?=some o->∀(j:Nat) x,ops[j]?=some x->j<n+k->Ad6 C P ops x o=true->(bs.getD (n+k) 0).testBit j=true
 |[],_,_,k,o,ho,_,_,_,_,_=>by simp at ho
 |o'::l,n,h,k,o,ho,j,x,hx,hj,N1=>by
  simp only[Xv,Bool.and_eq_true] at h;cases k with
  |zero=>
   simp at ho;subst ho
   have:=List.all_eq_true.1 h.1 (x,j) (by
    rw[List.mem_zipIdx_iff_getElem?]
    simpa using hx)
   simp only[N1,Bool.not_true,Bool.or_false,Bool.or_eq_true,Bool.not_eq_true'] at this;rcases this with h'|h'
   ·have:Nat.blt j n=true:=Nat.ble_eq_true_of_le (by omega)
    rw[this] at h';cases h'
   ·exact h'
  |succ k=>
   have:=Us l (n+1) h.2 k o (by simpa using ho) j x hx (by omega) N1
   rwa [show n+(k+1)=n+1+k by omega]
theorem LN {G:Glo}(J1:QR P G w0 X0)(Dr:∀f args res,call f args=some res->Do G P f args res)(Kd:EA C P ops=true){Q:Exit->Act->World->Prop}(hQ:∀s' a' w' β',K s'=some r->Cj N w0 X0 Y β' s' a' w'->Q .normal a' w'):
  ∀(fuel:Nat) {dn:List (Nat × Oper × List Nat)} {listed:Array Bool} {s:St} {a:Act} {w:World} {β:Bt},HeadInv .any ops ops.size listed->(Mh ops.size listed).length=fuel->Cj N w0 X0 Y β s a w->Hp C P N call ops (Zl C P ops (H1 ops.toList [])) dn (Mh ops.size listed) s K=some r->wpAny P .any ops Q fuel listed a w:=by
 unfold EA at Kd;simp only[Bool.and_eq_true] at Kd;obtain⟨Ab3,Anw⟩:=Kd;intro fuel
 induction fuel with
 |zero=>
  intro dn listed s a w β inv hf h hk;have hp:=List.eq_nil_of_length_eq_zero hf;rw[hp] at hk;refine⟨?_,hQ s a w β hk h⟩;cases hr:Region.ready .any ops listed with
  |nil=>rfl
  |cons i l=>
   exfalso;have hi:i∈Region.ready .any ops listed:=by rw[hr];simp
   obtain⟨Jq,o,ho,_⟩:=mem_ready.1 hi;have:i∈Mh ops.size listed:=Je.2 ⟨(Array.getElem?_eq_some_iff.1 ho).1,Jq⟩;rw[hp] at this;simp at this
 |succ fuel ih=>
  intro dn listed s a w β inv hf h hk;refine⟨fun hr=>?_,fun i hi=>?_⟩
  ·rw[IH Ab3 inv hr] at hf;cases hf
  ·obtain⟨Jq,o,ho,L7⟩:=mem_ready.1 hi;have Bp:i<ops.size:=(Array.getElem?_eq_some_iff.1 ho).1;obtain⟨l1,l2,h1,h2,h3⟩:=Vl (Je.2 ⟨Bp,Jq⟩) inv.size;rw[h1] at hk
   have hnb:∀j∈l1,((H1 ops.toList []).getD i 0).testBit j=false:=by
    intro j hj;cases Ue:((H1 ops.toList []).getD i 0).testBit j with
    |false=>rfl
    |true=>
     exfalso;have hjl:=Qr (listed:=listed) (fun j oj hj hl=>inv.closed j oj hj hl) ops.toList [] [] (by simp) rfl (by simp) i o ho L7 j Ue
     have:j∈Mh ops.size listed:=by rw[h1];simp[hj]
     have:=getD_both (Je.1 this).2;rw[hjl] at this;cases this
   have Ll:∀j∈l1,j<i∧((H1 ops.toList []).getD i 0).testBit j=false∧∀x,ops[j]?=some x->Lp C P ops x o:=by
    intro j hj;refine⟨h3 j hj,hnb j hj,fun x hxj=>Aa9 ?_⟩
    cases N1:Ad6 C P ops x o with
    |false=>rfl
    |true=>
     exfalso;have Ue:=Us ops.toList 0 Anw i o (by simpa using ho) j x hxj (by have:=h3 j hj;omega) N1
     rw[Nat.zero_add,hnb j hj] at Ue;cases Ue
   obtain⟨s',hs',hn⟩:=Vp h J1 Dr ho (Xg rfl ho l1 (Acd h o) Ll hk).2;refine hn _ _ fun a' w' β' h'=>ih (dn:=(i,o,AM C P (Zl C P ops (H1 ops.toList [])) s i o)::dn) (inv.set hi Bp) ?_ h' ?_
   ·rw[h2];rw[h1] at hf;simp at hf ⊢;omega
   ·rw[h2];exact hs'
theorem AN (h:Cj N w0 X0 Y β s a w){G:Glo}(J1:QR P G w0 X0)(Dr:∀f args res,call f args=some res->Do G P f args res)(hm:P.follows .mixedOrders=true)(Kd:EA C P ops=true){Q:Exit->Act->World->Prop}
  (hk:Hp C P N call ops (Zl C P ops (H1 ops.toList [])) [] (List.range ops.size) s K=some r) (hQ:∀s' a' w' β',K s'=some r->Cj N w0 X0 Y β' s' a' w'->Q .normal a' w'):wpAny P .any ops Q ops.size (Array.replicate ops.size false) a { w with drawn:=w.drawn+1 }:=by
 have hp:Mh ops.size (Array.replicate ops.size false)=List.range ops.size:=by
  unfold Mh;refine List.filter_eq_self.2 fun i hi=>?_
  have:=List.mem_range.1 hi;simp[this]
 refine LN (C:=C) (dn:=[]) J1 Dr Kd hQ ops.size ⟨by simp,fun j oj _ hl=>(by rw[getD_replicate_false] at hl;cases hl),fun t ht ht'=>by omega⟩ (by rw[hp];simp) h.drew ?_
 rw[hp];exact hk
theorem OK (h:Cj N w0 X0 Y β s a w){G:Glo}(J1:QR P G w0 X0)(Dr:∀f args res,call f args=some res->Do G P f args res)(hm:P.follows .mixedOrders=true)(Kd:EA C P ops=true){id:Nat}{Q:Exit->Act->World->Prop}
  (hk:Hp C P N call ops (Zl C P ops (H1 ops.toList [])) [] (List.range ops.size) s K=some r) (hQ:∀s' a' w' β',K s'=some r->Cj N w0 X0 Y β' s' a' w'->Q .normal a' w'):(Code.region id ops true).wp P Q a w:=
 wp_region_any hm (AN h J1 Dr hm Kd hk hQ)
end
open Go.RowKit
section
variable {R:Type} {r:R} {N:Nat} {w0:World} {X0:Hm} {Y:Nat->Prop} {β β':Bt} {s:St} {a:Act} {w w':World}
theorem Ad1 {i:Nat}(hi:i<a.tmps.size):a.put (some i) (a.tmps.getD i undef)=a:=by
 obtain⟨tmps,dfr⟩:=a;change i<tmps.size at hi
 have:tmps.setIfInBounds i (tmps.getD i undef)=tmps:=by
  apply Array.ext_getElem?;intro k;by_cases e:i=k
  ·subst e;simp[hi]
  ·rw[Array.getElem?_setIfInBounds_ne e]
 simp only[Act.put,this]
theorem XT {A:Nat->Prop}{es:Nat}{v:Value}(h:As w A (.lst true es 0 []) v):v=.slice none 0 0:=by
 cases h;rfl
theorem VN {id:Nat}(Bb:s.hp id=none){v:PV}{val:Value}(hv:D6 w (Cs (Aq s.hp [(id,.ar false [])]) (Cb β id none) Y) (Cb β id none) v val) (hr:∀i∈Bo v,s.hp i≠none∨i=id):
  HP Y β s w v [(id,.ar false [])] val w (Cb β id none):=by
 refine⟨rfl,rfl,rfl,Bw.refl _ _,fun j hj=>Ah _ _ (by rintro rfl;exact hj Bb),?_,?_,?_,?_,?_,hv,?_⟩
 ·intro j bx hm;simp at hm;rw[hm.2];trivial
 ·intro j bx hm;simp at hm;obtain⟨rfl,rfl⟩:=hm;exact .inl ⟨Al _ _ _,rfl⟩
 ·intro j bx k q hm hq;simp at hm;obtain⟨rfl,rfl⟩:=hm;rw[Al] at hq;cases hq
 ·intro j bx j' bx' k q q' hm Mj _ _;simp at hm Mj;rw[hm.1,Mj.1]
 ·intro j cells hm;simp at hm
 ·intro j hj;rcases hr j hj with h|rfl
  ·exact .inl h
  ·exact .inr ⟨.ar false [],by simp⟩
theorem GP (h:Cj N w0 X0 Y β s a w)(i:Nat):∃β',Cj N w0 X0 Y β' (BI N s i) a w:=by
 unfold BI;split
 ·rename_i es ht
  have Bp:i<N:=by
   rcases Nat.lt_or_ge i N with h'|h'
   ·exact h'
   ·rw[h.tmo i h'] at ht;cases ht
  have hv:=h.tms i Bp;rw[ht] at hv;have hv:=XT hv;have hd:F0 N (some i)=true:=by simp[F0,Nat.blt];omega
  have go:∀j,s.hp j=none->∃β',Cj N w0 X0 Y β' ⟨Cb s.tm i (.view j es 0 0),Cb s.hp j (some (.ar false []))⟩ a w:=by
   intro j hn;have:=h.stepR (d:=some i) hd (by simp[Bn,hn]) (VN (v:=.view j es 0 0) (val:=.slice none 0 0) hn (.inl ⟨Al _ _ _,rfl,rfl,none,rfl⟩) (by simp[Bo,B4,Ao]))
   rw[←hv,Ad1 (by rw[h.tsz];exact Bp)] at this
   exact⟨_,this⟩
  cases hn:(s.hp i).isNone
  ·cases RX:(s.hp (i+N*3000)).isNone
   ·exact⟨β,h⟩
   ·exact go _ (by simpa using RX)
  ·exact go _ (by simpa using hn)
 ·exact⟨β,h⟩
theorem Cj.recell (h:Cj N w0 X0 Y β s a w){id:Nat}{c c':List PV}(h0:s.hp id=some (.st c)) (hl:c'.length=c.length)
  (hc:∀(j:Nat) p,c'[j]?=some p->∃q,c[j]?=some q∧(∀v,Bs w (Cs s.hp β Y) β q v->Bs w (Cs s.hp β Y) β p v)∧∀i∈Ao p,s.hp i≠none):
  Cj N w0 X0 Y β ⟨s.tm,Cb s.hp id (some (.st c'))⟩ a w:=by
 have F7:∀i,Cu (Cb s.hp id (some (.st c')) i)↔Cu (s.hp i):=by
  intro i;by_cases e:i=id
  ·subst e;rw[Al,h0];exact Iff.rfl
  ·rw[Ah _ _ e]
 have hX:LX (Cb s.hp id (some (.st c'))) β=LX s.hp β:=by
  funext b
  apply propext;constructor
  ·rintro⟨i,o,hl,hb⟩;exact⟨i,o,(F7 i).1 hl,hb⟩
  ·rintro⟨i,o,hl,hb⟩;exact⟨i,o,(F7 i).2 hl,hb⟩
 have hA:Cs (Cb s.hp id (some (.st c'))) β Y=Cs s.hp β Y:=by
  funext b;unfold Cs;rw[hX]
 have Hu:∀i,s.hp i≠none->Cb s.hp id (some (.st c')) i≠none:=by
  intro i hi;by_cases e:i=id
  ·subst e;rw[Al];simp
  ·rw[Ah _ _ e];exact hi
 have GU:∀i,Cb s.hp id (some (.st c')) i≠none->s.hp i≠none:=by
  intro i hi;by_cases e:i=id
  ·subst e;rw[h0];simp
  ·rw[Ah _ _ e] at hi;exact hi
 refine⟨h.dfr,h.tsz,h.tmo,?_,?_,?_,?_,?_,?_,?_,?_,fun i hi=>⟨Hu _ (h.pin i hi).1,(h.pin i hi).2⟩,?_,?_,h.Ylt,h.fr⟩
 ·intro i hi;show D6 w (Cs (Cb s.hp id _) β Y) β _ _;rw[hA];exact h.tms i hi
 ·intro i b hb;show Qv w (Cs (Cb s.hp id _) β Y) β i b;rw[hA];by_cases e:i=id
  ·subst e;change Cb s.hp i (some (.st c')) i=some b at hb;rw[Al] at hb;cases hb;obtain⟨b,o,h1,h2,h3⟩:=h.box i _ h0;refine⟨b,o,h1,fun j p hj=>?_,fun j hj=>h3 j (by rw[←hl];exact hj)⟩
   obtain⟨q,hq,hqp,_⟩:=hc j p hj;obtain⟨v,hv,hr⟩:=h2 j q hq;exact⟨v,hv,hqp v hr⟩
  ·change Cb s.hp id (some (.st c')) i=some b at hb;rw[Ah _ _ e] at hb;exact h.box i b hb
 ·intro i i' b o o' hl Jt hb Hh;exact h.inj i i' b o o' ((F7 i).1 hl) ((F7 i').1 Jt) hb Hh
 ·intro i b o hn hb;exact h.blt i b o (GU i hn) hb
 ·intro i hi j hj;exact Hu j (h.wfT i hi j hj)
 ·intro i cells hb p hp j hj;change Cb s.hp id (some (.st c')) i=_ at hb;by_cases e:i=id
  ·subst e;rw[Al] at hb;cases hb;obtain⟨k,hk⟩:=List.mem_iff_getElem?.1 hp;obtain⟨_,_,_,hr⟩:=hc k p hk;exact Hu j (hr j hj)
  ·rw[Ah _ _ e] at hb;exact Hu j (h.wfB i cells hb p hp j hj)
 ·intro b hb;exact h.ownd b (by rw[←hX];exact hb)
 ·intro i bx b o hb hlb hβ Bp j hj;change Cb s.hp id (some (.st c')) i=some bx at hb;by_cases e:i=id
  ·subst e;rw[Al] at hb;cases hb;exact h.rngB i _ b o h0 trivial hβ Bp j (by unfold BR at hj ⊢;simp only[hl] at hj;exact hj)
  ·rw[Ah _ _ e] at hb;exact h.rngB i bx b o hb hlb hβ Bp j hj
 ·intro i c1 b o hb hβ Bp;change Cb s.hp id (some (.st c')) i=_ at hb;by_cases e:i=id
  ·subst e;exact h.stp i c b o h0 hβ Bp
  ·rw[Ah _ _ e] at hb;exact h.stp i c1 b o hb hβ Bp
 ·intro b hY hb;exact h.Yx b hY (by rw[←hX];exact hb)
theorem GV (h:Cj N w0 X0 Y β s a w)(id j:Nat):∃β',Cj N w0 X0 Y β' (KT N id s j) a w:=by
 unfold KT;split
 ·rename_i c h0;split
  ·rename_i es hj;cases hn:(s.hp (id+N*(j+1))).isNone
   ·exact⟨β,h⟩
   ·have hn:s.hp (id+N*(j+1))=none:=by simpa using hn
    have Hu:id≠id+N*(j+1):=by
     intro e;rw[←e,h0] at hn;cases hn
    have h1:=h.stepR (d:=none) (v:=.top) (val:=undef) rfl (by simp[Bn,hn]) (VN hn (.top _) (by simp[Bo,B4,Ao]))
    change Cj N w0 X0 Y (Cb β (id+N*(j+1)) none) ⟨s.tm,Cb s.hp (id+N*(j+1)) (some (.ar false []))⟩ a w at h1
    have h2:=h1.recell (id:=id) (c:=c) (c':=c.set j (.view (id+N*(j+1)) es 0 0)) (by show Cb _ _ _ _=_;rw[Ah _ _ Hu];exact h0) (by simp) (by
     intro k p hp;by_cases e:k=j
     ·subst e
      have Bp:k<c.length:=by
       rcases Nat.lt_or_ge k c.length with h'|h'
       ·exact h'
       ·rw[List.getElem?_eq_none h'] at hj;cases hj
      rw[List.getElem?_set_self Bp] at hp;cases hp;refine⟨_,hj,fun v hv=>.inl ⟨Al _ _ _,rfl,rfl,none,XT hv⟩,fun i hi=>?_⟩
      simp[Ao] at hi;subst hi;show Cb _ _ _ _≠none;rw[Al];simp
     ·rw[List.getElem?_set_ne (fun h=>e h.symm)] at hp
      refine⟨p,hp,fun _ hv=>hv,fun i hi=>?_⟩
      have:=h.wfB id c h0 p (List.mem_of_getElem? hp) i hi;show Cb _ _ _ _≠none;by_cases e':i=id+N*(j+1)
      ·subst e';rw[Al];simp
      ·rw[Ah _ _ e'];exact this)
    refine⟨Cb β (id+N*(j+1)) none,?_⟩;have e3:Cb (Cb s.hp (id+N*(j+1)) (some (.ar false []))) id (some (.st (c.set j (.view (id+N*(j+1)) es 0 0))))=Cb (Cb s.hp id (some (.st (c.set j (.view (id+N*(j+1)) es 0 0))))) (id+N*(j+1)) (some (.ar false [])):=OJ _ _ _ (fun h=>Hu h.symm)
    change Cj N w0 X0 Y (Cb β (id+N*(j+1)) none) ⟨s.tm,Cb (Cb s.hp (id+N*(j+1)) (some (.ar false []))) id (some (.st (c.set j (.view (id+N*(j+1)) es 0 0))))⟩ a w at h2;rw[e3] at h2;exact h2
  ·exact⟨β,h⟩
 ·exact⟨β,h⟩
theorem Nx {f:St->Nat->St}(hf:∀s β,Cj N w0 X0 Y β s a w->∀i,∃β',Cj N w0 X0 Y β' (f s i) a w):∀(l:List Nat){s:St}{β:Bt},Cj N w0 X0 Y β s a w->∃β',Cj N w0 X0 Y β' (l.foldl f s) a w
 |[],_,β,h=>⟨β,h⟩
 |i::l,s,β,h=>by
  obtain⟨β1,h1⟩:=hf s β h i;exact Nx hf l h1
theorem MH (h:Cj N w0 X0 Y β s a w)(i:Nat):∃β',Cj N w0 X0 Y β' (JP N s i) a w:=by
 unfold JP;split
 ·split
  ·exact Nx (fun s β h i=>GV h _ i) _ h
  ·exact⟨β,h⟩
 ·exact⟨β,h⟩
theorem IE:∀{m:List (Nat × Nat)},Du (m.map (·.2))=true->∀{i i' j:Nat},(i,j)∈m->(i',j)∈m->i=i'
 |[],_,_,_,_,h,_=>by simp at h
 |(x,y)::m,hn,i,i',j,h,h'=>by
  simp only[List.map_cons,Du,Bool.and_eq_true,Bool.not_eq_true'] at hn
  have hy:∀k,(k,y) ∉ m:=by
   intro k hk;exact Rd hn.1 (List.mem_map.2 ⟨(k,y),hk,rfl⟩)
  rcases List.mem_cons.1 h with e|h
  ·cases e;rcases List.mem_cons.1 h' with e|h'
   ·cases e;rfl
   ·exact absurd h' (hy _)
  ·rcases List.mem_cons.1 h' with e|h'
   ·cases e;exact absurd h (hy _)
   ·exact IE hn.2 h h'
theorem Y6:∀{m:List (Nat × Nat)},Du (m.map (·.1))=true->∀{i j j':Nat},(i,j)∈m->(i,j')∈m->j=j'
 |[],_,_,_,_,h,_=>by simp at h
 |(x,y)::m,hn,i,j,j',h,h'=>by
  simp only[List.map_cons,Du,Bool.and_eq_true,Bool.not_eq_true'] at hn
  have hx:∀k,(x,k) ∉ m:=by
   intro k hk;exact Rd hn.1 (List.mem_map.2 ⟨(x,k),hk,rfl⟩)
  rcases List.mem_cons.1 h with e|h
  ·cases e;rcases List.mem_cons.1 h' with e|h'
   ·cases e;rfl
   ·exact absurd h' (hx _)
  ·rcases List.mem_cons.1 h' with e|h'
   ·cases e;exact absurd h (hx _)
   ·exact Y6 hn.2 h h'
theorem Mg {i j:Nat}(h:Nat.beq i j=false):i≠j:=by rintro rfl;rw[Nat.beq_refl] at h;cases h
theorem V1:∀{m:List (Nat × Nat)} {i j:Nat},Uh m i=some j->(i,j)∈m
 |[],_,_,h=>by cases h
 |(x,y)::m,i,j,h=>by
  unfold Uh at h;cases hb:Nat.beq i x<;>rw[hb] at h
  ·exact List.mem_cons_of_mem _ (V1 h)
  ·have:=Nat.eq_of_beq_eq_true hb;cases h;rw[this];simp
theorem Y3 {m:List (Nat × Nat)} {hp:Nat->Option Bk}:∀{l:List (Nat × Nat)} {j:Nat}{b:Bk},Fx (Lv m hp l) j=some b->∃i b0,(i,j)∈l∧hp i=some b0∧b=Ajc m b0
 |[],_,_,h=>by cases h
 |(x,y)::l,j,b,h=>by
  unfold Lv at h;cases hx:hp x with
  |none=>
   rw[hx] at h;obtain⟨i,b0,h1,h2⟩:=Y3 h;exact⟨i,b0,List.mem_cons_of_mem _ h1,h2⟩
  |some bx=>
   rw[hx] at h;simp only[Fx] at h;cases hb:Nat.beq j y<;>rw[hb] at h
   ·obtain⟨i,b0,h1,h2⟩:=Y3 h;exact⟨i,b0,List.mem_cons_of_mem _ h1,h2⟩
   ·have:=Nat.eq_of_beq_eq_true hb;subst this;cases h;exact⟨x,bx,by simp,hx,rfl⟩
theorem M5 {m:List (Nat × Nat)} {hp:Nat->Option Bk}:∀{l:List (Nat × Nat)} {i j:Nat},(i,j)∈l->hp i≠none->Fx (Lv m hp l) j≠none
 |[],_,_,h,_=>by simp at h
 |(x,y)::l,i,j,h,hi=>by
  unfold Lv;cases hx:hp x with
  |none=>
   rcases List.mem_cons.1 h with e|h
   ·cases e;exact absurd hx hi
   ·exact M5 h hi
  |some bx=>
   simp only[Fx];cases hb:Nat.beq j y
   ·rcases List.mem_cons.1 h with e|h
    ·cases e;exact absurd rfl (Mg hb)
    ·exact M5 h hi
   ·simp
def FW (m:List (Nat × Nat)) (j:Nat):Option Nat:=
 match m with
 |[]=>none
 |(x,y)::r=>bif Nat.beq j y then some x else FW r j
theorem WJ:∀{m:List (Nat × Nat)} {i j:Nat},FW m j=some i->(i,j)∈m
 |[],_,_,h=>by cases h
 |(x,y)::m,i,j,h=>by
  unfold FW at h;cases hb:Nat.beq j y<;>rw[hb] at h
  ·exact List.mem_cons_of_mem _ (WJ h)
  ·have:=Nat.eq_of_beq_eq_true hb;cases h;rw[this];simp
theorem QC:∀{m:List (Nat × Nat)} {i j:Nat},(i,j)∈m->∃k,FW m j=some k
 |[],_,_,h=>by simp at h
 |(x,y)::m,i,j,h=>by
  unfold FW;cases hb:Nat.beq j y
  ·rcases List.mem_cons.1 h with e|h
   ·cases e;exact absurd rfl (Mg hb)
   ·exact QC h
  ·exact⟨x,rfl⟩
theorem MG {f:Nat->PV}:∀{l:List Nat}{i:Nat},lk (l.map fun i=>(i,f i)) i=if i∈l then f i else .top
 |[],_=>rfl
 |x::l,i=>by
  simp only[List.map_cons,lk];cases hb:Nat.beq i x
  ·have:=Mg hb;simp only[cond_false,MG,List.mem_cons,this,false_or]
  ·have:=Nat.eq_of_beq_eq_true hb;subst this;simp
theorem JI {m:Nat}:∀{n i:Nat},i∈Ln m n->i<n
 |0,_,h=>by simp[Ln] at h
 |n+1,i,h=>by
  simp only[Ln,List.mem_append] at h;rcases h with h|h
  ·have:=JI h;omega
  ·cases hb:m.testBit n<;>rw[hb] at h
   ·simp at h
   ·simp at h;omega
theorem LA (h:Cj N w0 X0 Y β s a w){m:List (Nat × Nat)} (h1:Du (m.map (·.1))=true) (h2:Du (m.map (·.2))=true) {ls:List Nat}(hls:∀i∈ls,i<N)(hpn:∀i,X0.pn i->(C1 N i,C1 N i)∈m):
  ∃β',Cj N w0 X0 Y β' ⟨lk (ls.map fun i=>(i,ZG m (s.tm i))),Fx (Lv m s.hp m)⟩ a w:=by
 refine⟨fun j=>(FW m j).bind β,?_⟩
 have hβ:∀{i j:Nat},(i,j)∈m->(FW m j).bind β=β i:=by
  intro i j hm;obtain⟨k,hk⟩:=QC hm;rw[hk];have:=IE h2 (WJ hk) hm;subst this;rfl
 have hold:∀{j:Nat} {b:Bk},Fx (Lv m s.hp m) j=some b->∃i b0,(i,j)∈m∧s.hp i=some b0∧b=Ajc m b0∧(FW m j).bind β=β i:=by
  intro j b hb;obtain⟨i,b0,hm,h3,h4⟩:=Y3 hb;exact⟨i,b0,hm,h3,h4,hβ hm⟩
 have F7:∀{j:Nat},Cu (Fx (Lv m s.hp m) j)->∃i,(i,j)∈m∧Cu (s.hp i)∧(FW m j).bind β=β i:=by
  intro j hl;cases hb:Fx (Lv m s.hp m) j with
  |none=>rw[hb] at hl;exact hl.elim
  |some b=>
   obtain⟨i,b0,hm,h3,rfl,h5⟩:=hold hb;refine⟨i,hm,?_,h5⟩;rw[hb] at hl;rw[h3];cases b0<;>exact hl
 have hX:∀b,LX (Fx (Lv m s.hp m)) (fun j=>(FW m j).bind β) b->LX s.hp β b:=by
  rintro b ⟨j,o,hl,hb⟩
  obtain⟨i,_,Jt,e⟩:=F7 hl;exact⟨i,o,Jt,by rw[←e];exact hb⟩
 have hA:∀b,Cs (Fx (Lv m s.hp m)) (fun j=>(FW m j).bind β) Y b->Cs s.hp β Y b:=fun b hb=>hb.imp (hX b) id
 have hC:∀p v,Bs w (Cs s.hp β Y) β p v->Bs w (Cs (Fx (Lv m s.hp m)) (fun j=>(FW m j).bind β) Y) (fun j=>(FW m j).bind β) (TO m p) v:=by
  intro p v hp;cases p with
  |view id es off n=>
   show Bs _ _ _ (match Uh m id with|some j=>.view j es off n|none=>.top) v
   cases hj:Uh m id with
   |some j=>
    have e:=hβ (V1 hj);rcases hp with⟨e1,e2⟩|⟨b,o,x,cap,e1,e2⟩
    ·exact .inl ⟨by show (FW m j).bind β=none;rw[e];exact e1,e2⟩
    ·exact .inr ⟨b,o,x,cap,by show (FW m j).bind β=_;rw[e];exact e1,e2⟩
   |none=>exact As.top _
  |ptr id off=>
   show Bs _ _ _ (match Uh m id with|some j=>.ptr j off|none=>.top) v
   cases hj:Uh m id with
   |some j=>
    have e:=hβ (V1 hj);obtain⟨b,o,e1,e2⟩:=hp;exact⟨b,o,by show (FW m j).bind β=_;rw[e];exact e1,e2⟩
   |none=>exact As.top _
  |sc v=>exact As.step (Bw.refl _ _) (fun b _=>hA b) hp
  |lst z es n c=>exact As.step (Bw.refl _ _) (fun b _=>hA b) hp
  |iptr c off=>exact Bs.step (p:=.iptr c off) (Bw.refl _ _) (fun b _=>hA b) (by simp[Ao]) hp
  |_=>exact As.top _
 have hV:∀p v,D6 w (Cs s.hp β Y) β p v->D6 w (Cs (Fx (Lv m s.hp m)) (fun j=>(FW m j).bind β) Y) (fun j=>(FW m j).bind β) (ZG m p) v:=by
  intro p v hp;cases p with
  |agg c=>
   obtain⟨vs,e1,e2⟩:=hp;refine⟨vs,e1,Ba.of_at (by simp;exact e2.len) fun i q u hq hu=>?_⟩
   rw[List.getElem?_map] at hq;cases hc:c[i]? with
   |none=>rw[hc] at hq;cases hq
   |some q0=>
    rw[hc] at hq;cases hq;exact hC _ _ (e2.at_ hc hu)
  |view id es off n=>
   have:=hC (.view id es off n) v hp;change Bs _ _ _ (match Uh m id with|some j=>.view j es off n|none=>.top) v at this
   show D6 _ _ _ (match Uh m id with|some j=>.view j es off n|none=>.top) v
   cases hj:Uh m id<;>rw[hj] at this<;>exact this
  |ptr id off=>
   have:=hC (.ptr id off) v hp;change Bs _ _ _ (match Uh m id with|some j=>.ptr j off|none=>.top) v at this
   show D6 _ _ _ (match Uh m id with|some j=>.ptr j off|none=>.top) v
   cases hj:Uh m id<;>rw[hj] at this<;>exact this
  |sc v'=>exact hC (.sc v') v hp
  |lst z es n c=>exact hC (.lst z es n c) v hp
  |iptr c off=>exact hC (.iptr c off) v hp
  |_=>exact As.top _
 have hrC:∀p i,i∈Ao (TO m p)->∃k∈Ao p,(k,i)∈m:=by
  intro p i hi;cases p with
  |view id es off n=>
   change i∈Ao (match Uh m id with|some j=>.view j es off n|none=>.top) at hi
   cases hj:Uh m id<;>rw[hj] at hi
   ·simp[Ao] at hi
   ·simp[Ao] at hi;subst hi;exact⟨id,by simp[Ao],V1 hj⟩
  |ptr id off=>
   change i∈Ao (match Uh m id with|some j=>.ptr j off|none=>.top) at hi
   cases hj:Uh m id<;>rw[hj] at hi
   ·simp[Ao] at hi
   ·simp[Ao] at hi;subst hi;exact⟨id,by simp[Ao],V1 hj⟩
  |_=>simp[TO,Ao] at hi
 have hrV:∀p i,i∈Bo (ZG m p)->∃k∈Bo p,(k,i)∈m:=by
  intro p i hi;cases p with
  |agg c=>
   simp only[ZG,Bo,B4,List.mem_flatMap,List.mem_map] at hi;obtain⟨_,⟨q,hq,rfl⟩,hi⟩:=hi;obtain⟨k,hk,hm⟩:=hrC q i hi;exact⟨k,by simp only[Bo,B4,List.mem_flatMap];exact⟨q,hq,hk⟩,hm⟩
  |view id es off n=>
   refine (hrC (.view id es off n) i ?_).imp fun k hk=>hk
   change i∈Bo (match Uh m id with|some j=>.view j es off n|none=>.top) at hi
   show i∈Ao (match Uh m id with|some j=>.view j es off n|none=>.top)
   cases hj:Uh m id<;>rw[hj] at hi<;>exact hi
  |ptr id off=>
   refine (hrC (.ptr id off) i ?_).imp fun k hk=>hk
   change i∈Bo (match Uh m id with|some j=>.ptr j off|none=>.top) at hi
   show i∈Ao (match Uh m id with|some j=>.ptr j off|none=>.top)
   cases hj:Uh m id<;>rw[hj] at hi<;>exact hi
  |_=>simp[ZG,TO,Bo,B4,Ao] at hi
 refine⟨h.dfr,h.tsz,?_,?_,?_,?_,?_,?_,?_,?_,?_,?_,?_,?_,h.Ylt,h.fr⟩
 ·intro i hi;show lk _ i=_;rw[MG,if_neg (fun hm=>by have:=hls i hm;omega)]
 ·intro i hi;show D6 w _ _ (lk _ i) _;rw[MG];split
  ·exact hV _ _ (h.tms i hi)
  ·exact As.top _
 ·intro j b hb;obtain⟨i,b0,hm,h3,rfl,e⟩:=hold hb;have Lm:=h.box i b0 h3;cases b0 with
  |st c=>
   obtain⟨b,o,e1,e2,e3⟩:=Lm;refine⟨b,o,by show (FW m j).bind β=_;rw[e];exact e1,fun k p hp=>?_,fun k hk=>e3 k (by simpa using hk)⟩
   rw[List.getElem?_map] at hp;cases hc:c[k]? with
   |none=>rw[hc] at hp;cases hp
   |some q=>
    rw[hc] at hp;cases hp;obtain⟨v,hv,hr⟩:=e2 k q hc;exact⟨v,hv,hC _ _ hr⟩
  |ar fz c=>
   have:=Qv.step' hA Lm;show Qv _ _ _ _ (.ar fz c);rcases this with⟨e1,e2⟩|⟨b,o,e1,e2⟩
   ·exact .inl ⟨by show (FW m j).bind β=_;rw[e];exact e1,e2⟩
   ·exact .inr ⟨b,o,by show (FW m j).bind β=_;rw[e];exact e1,e2⟩
  |mv=>exact trivial
 ·intro j j' b o o' hl Jt hb Hh;obtain⟨i,hm,CI,e⟩:=F7 hl;obtain⟨i',Mj,Biz,e'⟩:=F7 Jt;have:=h.inj i i' b o o' CI Biz (by rw[←e];exact hb) (by rw[←e'];exact Hh)
  subst this;exact Y6 h1 hm Mj
 ·intro j b o hn hb;cases hj:Fx (Lv m s.hp m) j with
  |none=>exact absurd hj hn
  |some bx=>
   obtain⟨i,b0,_,h3,_,e⟩:=hold hj;exact h.blt i b o (by rw[h3];simp) (by rw[←e];exact hb)
 ·intro i hi j hj;change j∈Bo (lk _ i) at hj;rw[MG] at hj;split at hj
  ·obtain⟨k,hk,hm⟩:=hrV _ j hj;exact M5 hm (h.wfT i hi k hk)
  ·simp[Bo,B4,Ao] at hj
 ·intro j cells hb p hp k hk;obtain⟨i,b0,_,h3,h4,_⟩:=hold hb;cases b0 with
  |st c=>
   cases h4;obtain⟨q,hq,rfl⟩:=List.mem_map.1 hp;obtain⟨k',Jo,hm⟩:=hrC q k hk;exact M5 hm (h.wfB i c h3 q hq k' Jo)
  |ar fz c=>cases h4
  |mv=>cases h4
 ·intro b hb;exact h.ownd b (hX b hb)
 ·intro j bx b o hb hlb hβ1 Bp k hk;obtain⟨i,b0,_,h3,h4,e⟩:=hold hb;subst h4;refine h.rngB i b0 b o h3 ?_ (by rw[←e];exact hβ1) Bp k ?_
  ·cases b0<;>exact hlb
  ·cases b0 with
   |st c=>simpa [BR,Ajc] using hk
   |ar fz c=>exact hk
   |mv=>exact hk
 ·intro i hi;exact⟨M5 (hpn i hi) (h.pin i hi).1,(hβ (hpn i hi)).trans (h.pin i hi).2⟩
 ·intro j c b o hb hβ1 Bp;obtain⟨i,b0,hm,h3,h4,e⟩:=hold hb;cases b0 with
  |st c0=>
   obtain⟨k,rfl,hk⟩:=h.stp i c0 b o h3 (by rw[←e];exact hβ1) Bp
   exact⟨k,Y6 h1 hm (hpn k hk),hk⟩
  |ar fz c0=>cases h4
  |mv=>cases h4
 ·intro b hY hb;exact h.Yx b hY (hX b hb)
theorem Th {m:List (Nat × Nat)} {q:Nat × Nat}{o n:Nat}(h:q∈m):q∈IA m o n:=by
 unfold IA;split
 ·exact h
 ·exact List.mem_append.2 (.inl h)
theorem K6 {q:Nat × Nat}{new:Nat}:∀{c:List PV}{j:Nat}{m:List (Nat × Nat)},q∈m->q∈Ra N new c j m
 |[],_,_,h=>h
 |p::c,j,m,h=>by
  unfold Ra;split
  ·rename_i e;cases e
  ·rename_i e;cases e;exact K6 (Th h)
  ·rename_i e;cases e;exact K6 h
theorem QH {q:Nat × Nat}{m:List (Nat × Nat)} {i:Nat}(h:q∈m):q∈BK N s m i:=by
 unfold BK;split
 ·exact Th h
 ·split
  ·exact h
  ·split
   ·exact K6 (Th h)
   ·exact Th h
 ·exact K6 h
 ·exact h
theorem Wj {q:Nat × Nat}:∀{l:List Nat}{m:List (Nat × Nat)},q∈m->q∈l.foldl (BK N s) m
 |[],_,h=>h
 |_::l,_,h=>Wj (l:=l) (QH h)
theorem Q5 {q:Nat × Nat}{m:List (Nat × Nat)} (h:q∈m):∀k,q∈S6 N s.hp k m
 |0=>h
 |k+1=>by
  unfold S6;split
  ·exact K6 (Q5 h k)
  ·exact Q5 h k
theorem HU:∀{k i:Nat},i<k->s.hp (C1 N i)≠none->(C1 N i,C1 N i)∈PG N s.hp k
 |0,_,h,_=>by omega
 |k+1,i,h,hn=>by
  unfold PG;by_cases e:i=k
  ·subst e
   have:(s.hp (C1 N i)).isSome=true:=by
    cases hq:s.hp (C1 N i) with
    |none=>exact absurd hq hn
    |some b=>rfl
   rw[this];simp
  ·have:=HU (k:=k) (i:=i) (by omega) hn
   cases (s.hp (C1 N k)).isSome
   ·exact this
   ·exact List.mem_append.2 (.inl this)
theorem Zn (h:Cj N w0 X0 Y β s a w){L:Nat}{q:Bool}{K:St->Option R}(hk:VL N (Ln L N) q s K=some r):∃β' s',K s'=some r∧Cj N w0 X0 Y β' s' a w:=by
 unfold VL at hk;obtain⟨hb,Dw⟩:=Aj hk;simp only[Bool.and_eq_true] at hb
 obtain⟨β2,h2⟩:∃β2,Cj N w0 X0 Y β2 (bif q then s else (Ln L N).foldl (JP N) ((Ln L N).foldl (BI N) s)) a w:=by
  cases q
  ·obtain⟨β1,h1⟩:=Nx (fun s β h i=>GP h i) (Ln L N) h
   obtain⟨β2,h2⟩:=Nx (fun s β h i=>MH h i) (Ln L N) h1
   exact⟨β2,h2⟩
  ·exact⟨β,h⟩
 obtain⟨β3,h3⟩:=LA h2 hb.1 hb.2 (ls:=Ln L N) (fun i hi=>JI hi) (fun i hi=>Wj (Q5 (HU (X0.p8 i hi) (h2.pin i hi).1) 8))
 exact⟨β3,_,Dw,h3⟩
theorem Sk (h:Cj N w0 X0 Y β s a w){L:Nat}{K:St->Option R}(hk:Xh N L s K=some r):∃β' s',K s'=some r∧Cj N w0 X0 Y β' s' a w:=Zn h hk
theorem NV (h:Cj N w0 X0 Y β s a w){L:Nat}{K:St->Option R}(hk:XR N L s K=some r):∃β' s',K s'=some r∧Cj N w0 X0 Y β' s' a w:=Zn h hk
end
open Go.RowKit
section
variable {R:Type} {r:R} {P:Program} {N:Nat} {w0:World} {X0:Hm} {Y:Nat->Prop} {C:Gt} {call:Ai}
theorem JD {n:Nat}{F:St->Option R}{s:St}(h:EX n F s=some r):F s=some r:=by
 unfold EX at h;split at h
 ·cases h
 ·exact h
theorem PL {β:Bt}{s:St}{a:Act}{w:World}(h:Cj N w0 X0 Y β s a w){c:Operand}{kt kf:St->Option R}(hk:Ade s c kt kf=some r):(a.eval c=.bool true∧kt s=some r)∨(a.eval c=.bool false∧kf s=some r):=by
 unfold Ade at hk;split at hk
 ·rename_i d;split at hk
  ·rename_i b ht;have hv:a.eval (.tmp d)=.bool b:=B1 h (x:=.tmp d) ht;cases b
   ·change kf ⟨Cb s.tm d (.sc (.bool false)),s.hp⟩=some r at hk;rw[Xr s.tm ht] at hk;exact .inr ⟨hv,hk⟩
   ·change kt ⟨Cb s.tm d (.sc (.bool true)),s.hp⟩=some r at hk;rw[Xr s.tm ht] at hk;exact .inl ⟨hv,hk⟩
  ·rename_i ht;have hu:=Co h (.tmp d);change D6 _ _ _ (s.tm d) _ at hu;rw[ht] at hu;have I1:As w _ .ub (a.eval (.tmp d)):=hu
   obtain⟨b,hv⟩:∃b,a.eval (.tmp d)=.bool b:=by
    generalize a.eval (.tmp d)=x at I1;cases I1 with
    |ub b=>exact⟨b,rfl⟩
   obtain⟨h1,h2⟩:=IF hk;cases b
   ·exact .inr ⟨hv,h2⟩
   ·exact .inl ⟨hv,h1⟩
  ·cases hk
 ·exact .inl ⟨rfl,hk⟩
 ·exact .inr ⟨rfl,hk⟩
 ·cases hk
theorem DB {c:Code}{Q:Exit->Act->World->Prop}{F:(St->Option R)->St->Option R} {nm:St->(St->Option R)->Option R}
  (Hk:∀{β s a w} {K:St->Option R},Cj N w0 X0 Y β s a w->nm s K=some r->∃β' s',K s'=some r∧Cj N w0 X0 Y β' s' a w)
  (hF:∀{β s a w} {K:St->Option R}{Q':Act->World->Prop},Cj N w0 X0 Y β s a w->F K s=some r->(∀s' a' w' β',K s'=some r->Cj N w0 X0 Y β' s' a' w'->Q' a' w')->c.wp P (Exit.then Q' Q) a w):
  ∀(n:Nat) {β s a w},Cj N w0 X0 Y β s a w->Agx F nm n s=some r->Code.rounds P c Q n a w
 |0,_,_,_,_,_,hk=>by cases hk
 |n+1,β,s,a,w,h,hk=>by
  rw[rounds_succ];refine hF h hk fun s' a' w' β' Jo h'=>?_
  obtain⟨β1,s1,Dw,h1⟩:=Hk h' Jo;exact DB Hk hF n h1 Dw
theorem VB {G:Glo}(J1:QR P G w0 X0)(Dr:∀f args res,call f args=some res->Do G P f args res)(hm:P.follows .mixedOrders=true){fu:Nat}:
  ∀(c:Code) {ln:Nat} {lx:Nat->Nat} {lr:Nat} {kn:St->Option R} {kx:Nat->St->Option R} {kr:St->Option R} {β:Bt} {s:St} {a:Act} {w:World} {Q:Exit->Act->World->Prop},Cj N w0 X0 Y β s a w ->
   Ov C P fu N call c ln lx lr kn kx kr s=some r->(∀s' a' w' β',kn s'=some r->Cj N w0 X0 Y β' s' a' w'->Q .normal a' w') ->
   (∀id s' a' w' β',kx id s'=some r->Cj N w0 X0 Y β' s' a' w'->Q (.exit id) a' w')->(∀s' a' w' β',kr s'=some r->Cj N w0 X0 Y β' s' a' w'->Q .ret a' w')->c.wp P Q a w:=by
 intro c
 induction c with
 |skip=>intro ln lx lr kn kx kr β s a w Q h hk hn hx hr;exact wp_skip (hn s a w β hk h)
 |region id ops draw=>
  intro ln lx lr kn kx kr β s a w Q h hk hn hx hr;unfold Ov at hk;cases draw
  ·simp only[QS,Bool.false_and,cond_false] at hk;exact JJ h J1 Dr hk hn
  ·simp only[QS,Alk,Bool.true_and,cond_true] at hk;cases hb:HR C P ops<;>rw[hb] at hk
   ·obtain⟨Hh,Dw⟩:=Aj (show An _ _=some r from hk)
    exact OK h J1 Dr hm Hh Dw hn
   ·exact LU h J1 Dr hm hb hk hn
 |seq c1 c2 ih1 ih2=>
  intro ln lx lr kn kx kr β s a w Q h hk hn hx hr;unfold Ov at hk
  refine wp_seq (ih1 h hk (fun s' a' w' β' Jo h'=>by
    cases hc:Ada P c1 c2
    ·rw[hc] at Jo;exact ih2 h' Jo hn hx hr
    ·rw[hc] at Jo;cases hq:BL c1 c2
     ·rw[hq] at Jo;obtain⟨β1,s1,Dw,h1⟩:=Sk h' (show Xh _ _ _ _=some r from Jo)
      exact ih2 h1 (JD Dw) hn hx hr
     ·rw[hq] at Jo;obtain⟨β1,s1,Dw,h1⟩:=NV h' (show XR _ _ _ _=some r from Jo)
      exact ih2 h1 (JD Dw) hn hx hr) (fun id s' a' w' β' Jo h'=>hx id s' a' w' β' Jo h') (fun s' a' w' β' Jo h'=>hr s' a' w' β' Jo h'))
 |cond c c1 c2 ih1 ih2=>
  intro ln lx lr kn kx kr β s a w Q h hk hn hx hr;unfold Ov at hk;rcases PL h hk with⟨hc,Dw⟩|⟨hc,Dw⟩
  ·exact wp_cond_true hc (ih1 h Dw hn hx hr)
  ·exact wp_cond_false hc (ih2 h Dw hn hx hr)
 |block id c ih=>
  intro ln lx lr kn kx kr β s a w Q h hk hn hx hr;unfold Ov at hk;refine wp_block (ih h hk (fun s' a' w' β' Jo h'=>hn s' a' w' β' Jo h') (fun j s' a' w' β' Jo h'=>?_) (fun s' a' w' β' Jo h'=>hr s' a' w' β' Jo h'))
  show (if j=id then _ else _)
  by_cases e:j=id
  ·subst e;rw[if_pos rfl];rw[Nat.beq_refl] at Jo;exact hn s' a' w' β' Jo h'
  ·rw[if_neg e]
   have:Nat.beq j id=false:=by
    cases hb:Nat.beq j id
    ·rfl
    ·exact absurd (Nat.eq_of_beq_eq_true hb) e
   rw[this] at Jo;exact hx j s' a' w' β' Jo h'
 |loop c ih=>
  intro ln lx lr kn kx kr β s a w Q h hk hn hx hr;unfold Ov at hk;obtain⟨β1,s1,Dw,h1⟩:=Sk h hk;refine wp_loop_rounds fu (DB (fun h hk=>Sk h hk) (fun h hk hQ=>?_) fu h1 Dw)
  exact ih h hk hQ (fun id s' a' w' β' Jo h'=>hx id s' a' w' β' Jo h') (fun s' a' w' β' Jo h'=>hr s' a' w' β' Jo h')
 |«exit» id=>intro ln lx lr kn kx kr β s a w Q h hk hn hx hr;exact wp_exit (hx id s a w β hk h)
 |ret=>intro ln lx lr kn kx kr β s a w Q h hk hn hx hr;exact wp_ret (hr s a w β hk h)
 |_=>intro ln lx lr kn kx kr β s a w Q h hk hn hx hr;cases hk
end
open Go.RowKit
theorem Mb:∀{l:List (Nat × Bk)} {i:Nat}{b:Bk},Fx l i=some b->(i,b)∈l
 |[],_,_,h=>by cases h
 |(j,c)::l,i,b,h=>by
  unfold Fx at h;cases hb:Nat.beq i j<;>rw[hb] at h
  ·exact List.mem_cons_of_mem _ (Mb h)
  ·have:=Nat.eq_of_beq_eq_true hb;cases h;rw[this];simp
theorem LM:∀{l:List (Nat × Bk)},(l.map (·.1)).Nodup->∀{i b},(i,b)∈l->Fx l i=some b
 |[],_,_,_,h=>by cases h
 |(j,c)::l,hn,i,b,h=>by
  simp only[List.map_cons,List.nodup_cons] at hn;unfold Fx;rcases List.mem_cons.1 h with e|h
  ·cases e;simp only[Nat.beq_refl,cond_true]
  ·have:Nat.beq i j=false:=by
    cases hb:Nat.beq i j
    ·rfl
    ·exact absurd (Nat.eq_of_beq_eq_true hb ▸ List.mem_map.2 ⟨_,h,rfl⟩) hn.1
   simp only[this,cond_false];exact LM hn.2 h
section
variable {R:Type} {r:R} {P:Program} {N:Nat} {w0:World} {X0:Hm} {Y:Nat->Prop} {β β':Bt} {s:St} {a:Act} {w w':World} {A:Nat->Prop}
theorem Agc {id:Nat}{t:CT}{p:PV}{K:PV->List (Nat × Bk)->Option R} (hk:Ac2 id t p K=some r):
  (∃c,K c []=some r∧M0 c∧∀w A q u,Fz w A q p u->As w A c u)∨∃es n cc,p=.own es n cc∧K (.view id es 0 n) [(id,.ar false cc)]=some r:=by
 have tree:∀t',(Zb t' p fun c=>K c [])=some r->∃c,K c []=some r∧M0 c∧∀w A q u,Fz w A q p u->As w A c u:=by
  intro t' hk;obtain⟨c,hk,hT,DI,hv⟩:=Md hk;refine⟨c,hk,hT,fun w A q u h=>(hv w A (fun _=>none) u ?_).1⟩
  cases p<;>first|exact h|exact DI.elim
 unfold Ac2 at hk;cases t with
 |sl es=>
  dsimp only at hk;split at hk
  ·rename_i es' n c;cases hb:Nat.beq es' es<;>rw[hb] at hk
   ·cases hk
   ·have:=Nat.eq_of_beq_eq_true hb;subst this;exact .inr ⟨_,_,_,rfl,hk⟩
  ·exact .inl (tree (.sl es) hk)
 |int k=>exact .inl (tree _ hk)
 |bool=>exact .inl (tree _ hk)
 |str=>exact .inl (tree _ hk)
 |any=>exact .inl (tree _ hk)
theorem P7:∀{ts:List CT}{id:Nat}{ps:List PV}{K:List PV->List (Nat × Bk)->Option R},Zy N id ts ps K=some r ->
  ∃cs bs,∃qs:List (Nat × Nat),K cs bs=some r∧cs.length=ps.length∧ps.length=ts.length∧bs.map (·.1)=qs.map (·.1)∧(∀q∈qs,∀q'∈qs,q.2=q'.2->q.1=q'.1) ∧
   (∀i bx,(i,bx)∈bs->∃c,bx=.ar false c)∧(∀c∈cs,GK c)∧(∀c∈cs,∀i∈Ao c,∃bx,(i,bx)∈bs) ∧
   ∀(w:World) (A:Nat->Prop) (own β':Bt) (j0:Nat) (us:List Value),(∀q∈qs,β' q.1=own (j0+q.2))->Et w A own j0 ps us->Ba (Bs w A β') cs us∧∀i bx,(i,bx)∈bs->Qv w A β' i bx
 |[],id,ps,K,hk=>by
  obtain⟨rfl,hk⟩:=C5 hk;refine⟨[],[],[],hk,rfl,rfl,rfl,by simp,by simp,by simp,by simp,fun w A own β' j0 us _ h=>⟨?_,by simp⟩⟩
  cases us with
  |nil=>trivial
  |cons u us=>exact h.elim
 |t::ts,id,ps,K,hk=>by
  unfold Zy at hk;obtain⟨p,ps',FK,Dw⟩:=A3 hk;subst FK;rcases Agc Dw with⟨c,Ex,hT,hv⟩|⟨es,n,cc,rfl,Ex⟩
  ·obtain⟨cs,bs,qs,Qh,hl,NG,hb,AO,Fh,hF,Kw,Fq⟩:=P7 Ex;refine⟨c::cs,bs,qs.map (fun q=>(q.1,q.2+1)),Qh,by simp[hl],by simp[NG],by rw[hb];simp,?_,Fh,?_,?_,fun w A own β' j0 us hβ ho=>?_⟩
   ·intro q hq q' Fg e;obtain⟨q0,Vx,rfl⟩:=List.mem_map.1 hq;obtain⟨q1,Jm,rfl⟩:=List.mem_map.1 Fg;exact AO q0 Vx q1 Jm (by simp only at e;omega)
   ·intro y hy;rcases List.mem_cons.1 hy with rfl|hy
    ·exact Rp hT
    ·exact hF y hy
   ·intro y hy i hi;rcases List.mem_cons.1 hy with rfl|hy
    ·rw[Ha hT] at hi;cases hi
    ·exact Kw y hy i hi
   ·cases us with
    |nil=>exact ho.elim
    |cons u us=>
     obtain⟨h1,h2⟩:=Fq w A own β' (j0+1) us (fun q hq=>by rw[hβ _ (List.mem_map_of_mem hq)];congr 1;simp only;omega) ho.2
     exact⟨⟨Afh (hv w A _ u ho.1),h1⟩,h2⟩
  ·obtain⟨cs,bs,qs,Qh,hl,NG,hb,AO,Fh,hF,Kw,Fq⟩:=P7 Ex;refine⟨_::cs,(id,.ar false cc)::bs,(id,0)::qs.map (fun q=>(q.1,q.2+1)),Qh,by simp[hl],by simp[NG],by simp only[List.map_cons,hb];simp,?_,?_,?_,?_,fun w A own β' j0 us hβ ho=>?_⟩
   ·intro q hq q' Fg e;rcases List.mem_cons.1 hq with rfl|hq
    ·rcases List.mem_cons.1 Fg with rfl|Fg
     ·rfl
     ·obtain⟨q0,Vx,rfl⟩:=List.mem_map.1 Fg;simp only at e;omega
    ·obtain⟨q0,Vx,rfl⟩:=List.mem_map.1 hq;rcases List.mem_cons.1 Fg with rfl|Fg
     ·simp only at e;omega
     ·obtain⟨q1,Jm,rfl⟩:=List.mem_map.1 Fg;exact AO q0 Vx q1 Jm (by simp only at e;omega)
   ·intro i bx hm;rcases List.mem_cons.1 hm with e|hm
    ·cases e;exact⟨cc,rfl⟩
    ·exact Fh i bx hm
   ·intro y hy;rcases List.mem_cons.1 hy with rfl|hy
    ·trivial
    ·exact hF y hy
   ·intro y hy i hi;rcases List.mem_cons.1 hy with rfl|hy
    ·simp only[Ao,List.mem_singleton] at hi;subst hi;exact⟨_,List.mem_cons_self⟩
    ·obtain⟨bx,Lm⟩:=Kw y hy i hi;exact⟨bx,List.mem_cons_of_mem _ Lm⟩
   ·cases us with
    |nil=>exact ho.elim
    |cons u us=>
     obtain⟨h1,h2⟩:=Fq w A own β' (j0+1) us (fun q hq=>by rw[hβ _ (List.mem_cons_of_mem _ (List.mem_map_of_mem hq))];congr 1;simp only;omega) ho.2
     have h0:=hβ (id,0) List.mem_cons_self;simp only[Nat.add_zero] at h0;refine⟨⟨?_,h1⟩,fun i bx hm=>?_⟩
     ·rcases ho.1 with⟨h3,rfl,_,h5⟩|⟨b,ob,cap,h3,h4,h5,h6,h7,_⟩
      ·exact .inl ⟨h0.trans h3,rfl,rfl,h5⟩
      ·exact .inr ⟨b,ob,ob,cap,h0.trans h3,h4,.inl rfl,h5,h6,h7⟩
     ·rcases List.mem_cons.1 hm with e|hm
      ·cases e;exact Ws ho.1 h0
      ·exact h2 i bx hm
theorem Ait {i:Nat}{t:TypeId}{p:PV}{K:PV->List (Nat × Bk)->Option R} (hk:inK P N i t p K=some r):
  ∃v bs,∃qs:List (Nat × Nat),K v bs=some r∧bs.map (·.1)=qs.map (·.1)∧(∀q∈qs,∀q'∈qs,q.2=q'.2->q.1=q'.1)∧(Xu p=true->(C1 N i,0)∈qs∧i<8) ∧
   (∀id bx,(id,bx)∈bs->Cu (some bx)∧∀c,bx=.st c->id=C1 N i∧Xu p=true)∧(∀id∈Bo v,∃bx,(id,bx)∈bs)∧Yh bs ∧
   ∀(w:World) (A:Nat->Prop) (bt β':Bt) (u:Value),(∀q∈qs,β' q.1=bt q.2)->FR w A bt p u->D6 w A β' v u∧(∀id bx,(id,bx)∈bs->Qv w A β' id bx) ∧
    ∀id bx b o,(id,bx)∈bs->β' id=some (b,o)->∀j,BR bx o j->Am5 bt p b j:=by
 have owns:∀{bs:List (Nat × Bk)} {qs:List (Nat × Nat)},bs.map (·.1)=qs.map (·.1)->(∀i bx,(i,bx)∈bs->∃c,bx=.ar false c)->∀{bt β':Bt},(∀q∈qs,β' q.1=bt (1+q.2))->∀id bx b o,(id,bx)∈bs->β' id=some (b,o)->∀j,BR bx o j->∃k o',bt (k+1)=some (b,o')∧o'<=j:=by
  intro bs qs hb Fh bt β' hβ id bx b o hm MM j hj;have:id∈qs.map (·.1):=by rw[←hb];exact List.mem_map.2 ⟨_,hm,rfl⟩
  obtain⟨q,hq,rfl⟩:=List.mem_map.1 this;obtain⟨c,rfl⟩:=Fh _ _ hm;rw[hβ q hq,Nat.add_comm] at MM;exact⟨q.2,o,MM,hj⟩
 have nost:∀{bs:List (Nat × Bk)},(∀i bx,(i,bx)∈bs->∃c,bx=.ar false c)->Yh bs:=by
  intro bs Fh id cells hm;obtain⟨c,e⟩:=Fh id _ hm;cases e
 unfold inK at hk;split at hk
 ·rename_i e he;obtain⟨ps,rfl,Dw⟩:=II hk;obtain⟨hi8,Ex⟩:=Aj Dw;have hi8:i<8:=Nat.lt_of_succ_le (Nat.le_of_ble_eq_true hi8);obtain⟨cs,bs,qs,Qh,hl,NG,hb,AO,Fh,hF,Kw,hv⟩:=P7 Ex;refine⟨_,_,(C1 N i,0)::qs.map (fun q=>(q.1,q.2+1)),Qh,by simp only[List.map_cons,hb];simp,?_,fun _=>⟨List.mem_cons_self,hi8⟩,?_,?_,?_,fun w A bt β' u hβ hp=>?_⟩
  ·intro q hq q' Fg e;rcases List.mem_cons.1 hq with rfl|hq
   ·rcases List.mem_cons.1 Fg with rfl|Fg
    ·rfl
    ·obtain⟨q0,Vx,rfl⟩:=List.mem_map.1 Fg;simp only at e;omega
   ·obtain⟨q0,Vx,rfl⟩:=List.mem_map.1 hq;rcases List.mem_cons.1 Fg with rfl|Fg
    ·simp only at e;omega
    ·obtain⟨q1,Jm,rfl⟩:=List.mem_map.1 Fg;exact AO q0 Vx q1 Jm (by simp only at e;omega)
  ·intro id bx hm;rcases List.mem_cons.1 hm with e|hm
   ·cases e;exact⟨trivial,fun _ _=>⟨rfl,rfl⟩⟩
   ·obtain⟨c,rfl⟩:=Fh id bx hm;exact⟨trivial,fun _ e=>by cases e⟩
  ·intro id Bb;simp only[Bo,B4,Ao,List.mem_singleton] at Bb;subst Bb;exact⟨_,List.mem_cons_self⟩
  ·intro id cells hm c hc k hk;rcases List.mem_cons.1 hm with e|hm
   ·cases e;obtain⟨bx,Lm⟩:=Kw c hc k hk;exact⟨bx,List.mem_cons_of_mem _ Lm⟩
   ·obtain⟨c,e⟩:=Fh id _ hm;cases e
  ·obtain⟨b,o,h1,rfl,_,vs,h3,h4,h5⟩:=hp;have h0:=hβ (C1 N i,0) List.mem_cons_self;simp only at h0;have hβ1:∀q∈qs,β' q.1=bt (1+q.2):=fun q hq=>by rw[hβ _ (List.mem_cons_of_mem _ (List.mem_map_of_mem hq)),Nat.add_comm]
   obtain⟨h6,h7⟩:=hv w A bt β' 1 vs hβ1 h3;refine⟨⟨b,o,h0.trans h1,by simp⟩,fun id bx hm=>?_,fun id bx b' o' hm Hh j hj=>?_⟩
   ·rcases List.mem_cons.1 hm with e|hm
    ·cases e;refine⟨b,o,h0.trans h1,fun k c hk=>?_,fun k hk=>h5 k (by omega)⟩
     obtain⟨v,hv,ME⟩:=h6.get hk;exact⟨v,h4 k v hv,ME⟩
    ·exact h7 id bx hm
   ·rcases List.mem_cons.1 hm with e|hm
    ·cases e;rw[h0] at Hh;have hj:o'<=j∧j<o'+cs.length:=hj;exact .inr ⟨o',ps,Hh,hj.1,.inl ⟨rfl,by omega⟩⟩
    ·exact .inl (owns hb Fh hβ1 id bx b' o' hm Hh j hj)
 ·split at hk
  ·rename_i ps;obtain⟨e,he,Dw⟩:=B3 hk;obtain⟨hi8,Ex⟩:=Aj Dw;have hi8:i<8:=Nat.lt_of_succ_le (Nat.le_of_ble_eq_true hi8);obtain⟨q,qr,hq,Qh⟩:=A3 Ex;subst hq;obtain⟨Vn,Yq⟩:=C5 Qh;subst Vn;unfold Kc at Yq;split at Yq
   ·rename_i es' n c;cases hb:Nat.beq es' (A4 P e)<;>rw[hb] at Yq
    ·cases Yq
    ·have Vy:=Nat.eq_of_beq_eq_true hb;subst Vy;refine⟨_,_,[(C1 N i,0)],Yq,rfl,by simp,fun _=>⟨by simp,hi8⟩,?_,?_,?_,fun w A bt β' u hβ hp=>?_⟩
     ·intro id bx hm;simp only[List.mem_singleton] at hm;cases hm;exact⟨trivial,fun _ e=>by cases e⟩
     ·intro id Bb;simp only[Bo,B4,Ao,List.mem_singleton] at Bb;subst Bb;exact⟨_,List.mem_cons_self⟩
     ·intro id cells hm;simp only[List.mem_singleton] at hm;cases hm
     ·obtain⟨es,n',c',h1,h2⟩:=hp;cases h1;have h0:=hβ (C1 N i,0) List.mem_cons_self;simp only at h0;refine⟨?_,fun id bx hm=>?_,fun id bx b' o' hm Hh j hj=>?_⟩
      ·rcases h2 with⟨h3,rfl,_,h5⟩|⟨b,ob,cap,h3,h4,h5,h6,h7,_⟩
       ·exact .inl ⟨h0.trans h3,rfl,rfl,h5⟩
       ·exact .inr ⟨b,ob,ob,cap,h0.trans h3,h4,.inl rfl,h5,h6,h7⟩
      ·simp only[List.mem_singleton] at hm;cases hm;exact Ws h2 h0
      ·simp only[List.mem_singleton] at hm;cases hm;rw[h0] at Hh;exact .inr ⟨o',_,Hh,hj,.inr rfl⟩
   ·cases Yq
  ·rename_i SU;cases Fs:Bv P t<;>rw[Fs] at hk
   ·simp only[cond_false] at hk;obtain⟨cs,bs,qs,Qh,hl,NG,hb,AO,Fh,hF,Kw,hv⟩:=P7 hk;obtain⟨c,cs',Te,Yq⟩:=A3 Qh;subst Te;obtain⟨Vn,hk5⟩:=C5 Yq;subst Vn;have hFc:=hF c (by simp)
    have hnL:Xu p=false∨∃ps,p=.pbox ps:=by
     cases p<;>first|exact .inl rfl|exact .inr ⟨_,rfl⟩|exact absurd rfl (SU _)
    have hpb:∀ps,p ≠ .pbox ps:=by
     rintro ps rfl
     cases hts:Hq P t with
     |nil=>rw[hts] at NG;simp at NG
     |cons t' ts=>
      rw[hts] at hk;unfold Zy Ac2 at hk;obtain⟨q,qs1,hq,Dw⟩:=A3 hk;cases hq;cases t'<;>simp[Zb,Ca,Ae,Av,E2,YX] at Dw
    have hpa:∀ps,p ≠ .agg ps:=by
     rintro ps rfl
     cases hts:Hq P t with
     |nil=>rw[hts] at NG;simp at NG
     |cons t' ts=>
      rw[hts] at hk;unfold Zy Ac2 at hk;obtain⟨q,qs1,hq,Dw⟩:=A3 hk;cases hq;cases t'<;>simp[Zb,Ca,Ae,Av,E2,YX] at Dw
    have hnL:Xu p=false:=hnL.elim id (fun ⟨ps,e⟩=>absurd e (hpb ps))
    have Uy:Bo c=Ao c:=by cases c<;>first|rfl|exact hFc.elim
    refine⟨c,bs,qs.map (fun q=>(q.1,q.2+1)),hk5,by rw[hb];simp,?_,(fun h=>by rw[hnL] at h;cases h),?_,fun id Bb=>Kw c (by simp) id (by rw[←Uy];exact Bb),nost Fh,fun w A bt β' u hβ hp=>?_⟩
    ·intro q hq q' Fg e;obtain⟨q0,Vx,rfl⟩:=List.mem_map.1 hq;obtain⟨q1,Jm,rfl⟩:=List.mem_map.1 Fg;exact AO q0 Vx q1 Jm (by simp only at e;omega)
    ·intro id bx hm;obtain⟨c,rfl⟩:=Fh id bx hm;exact⟨trivial,fun _ e=>by cases e⟩
    ·have Ck:Fz w A (bt 1) p u:=by cases p<;>first|exact hp.2|exact absurd rfl (hpa _)|exact absurd rfl (hpb _)|exact absurd rfl (SU _)
     have hβ1:∀q∈qs,β' q.1=bt (1+q.2):=fun q hq=>by rw[hβ _ (List.mem_map_of_mem hq),Nat.add_comm]
     obtain⟨h6,h7⟩:=hv w A bt β' 1 [u] hβ1 ⟨Ck,trivial⟩;refine⟨?_,h7,fun id bx b' o' hm Hh j hj=>.inl (owns hb Fh hβ1 id bx b' o' hm Hh j hj)⟩
     have h8:=h6.1;cases c<;>first|exact h8|exact hFc.elim
   ·simp only[cond_true] at hk;obtain⟨ps,hp0,Dw⟩:=Gw hk;subst hp0;obtain⟨cs,bs,qs,Qh,hl,NG,hb,AO,Fh,hF,Kw,hv⟩:=P7 Dw;refine⟨_,bs,qs.map (fun q=>(q.1,q.2+1)),Qh,by rw[hb];simp,?_,(fun h=>by cases h),?_,fun id Bb=>?_,nost Fh,fun w A bt β' u hβ hp=>?_⟩
    ·intro q hq q' Fg e;obtain⟨q0,Vx,rfl⟩:=List.mem_map.1 hq;obtain⟨q1,Jm,rfl⟩:=List.mem_map.1 Fg;exact AO q0 Vx q1 Jm (by simp only at e;omega)
    ·intro id bx hm;obtain⟨c,rfl⟩:=Fh id bx hm;exact⟨trivial,fun _ e=>by cases e⟩
    ·obtain⟨c,hc,hi⟩:=List.mem_flatMap.1 (show id∈cs.flatMap Ao from Bb)
     exact Kw c hc id hi
    ·obtain⟨vs,h1,_,h3⟩:=hp;have hβ1:∀q∈qs,β' q.1=bt (1+q.2):=fun q hq=>by rw[hβ _ (List.mem_map_of_mem hq),Nat.add_comm]
     obtain⟨h6,h7⟩:=hv w A bt β' 1 vs hβ1 h3;exact⟨⟨vs,h1,h6⟩,h7,fun id bx b' o' hm Hh j hj=>.inl (owns hb Fh hβ1 id bx b' o' hm Hh j hj)⟩
theorem OZ:∀{ts:List TypeId}{i:Nat}{ps:List PV}{K:List (Nat × PV)->List (Nat × Bk)->Option R},Afm P N i ts ps K=some r ->
  ∃tms bs,∃qs:List (Nat × Nat × Nat),K tms bs=some r∧bs.map (·.1)=qs.map (·.1)∧(∀q∈qs,i<=q.2.1)∧(∀q∈qs,∀q'∈qs,q.2=q'.2->q.1=q'.1) ∧
   (∀k p,ps[k]?=some p->Xu p=true->(C1 N (i+k),i+k,0)∈qs∧i+k<8)∧(∀id bx,(id,bx)∈bs->Cu (some bx)∧∀c,bx=.st c->∃k p,ps[k]?=some p∧Xu p=true∧id=C1 N (i+k)) ∧
   (∀j,∀id∈Bo (lk tms j),∃bx,(id,bx)∈bs)∧Yh bs ∧
   ∀(w:World) (A:Nat->Prop) (bt:V6) (β':Bt) (us:List Value),(∀q∈qs,β' q.1=bt q.2.1 q.2.2)->K1 w A bt i ps us ->
    (∀j,(∃u,i<=j∧us[j-i]?=some u∧D6 w A β' (lk tms j) u)∨(lk tms j=.top∧(i<=j->us[j-i]?=none)))∧(∀id bx,(id,bx)∈bs->Qv w A β' id bx) ∧
    ∀id bx b o,(id,bx)∈bs->β' id=some (b,o)->∀j,BR bx o j->∃k p,ps[k]?=some p∧Am5 (bt (i+k)) p b j
 |[],i,ps,K,hk=>by
  obtain⟨FK,hk⟩:=C5 hk;subst FK;refine⟨[],[],[],hk,rfl,by simp,by simp,by simp,by simp,(fun j id Bb=>by cases Bb),(by intro i cells hm;cases hm),fun w A bt β' us _ h=>?_⟩
  cases us with
  |nil=>exact⟨fun j=>.inr ⟨rfl,fun _=>by simp⟩,by simp,by simp⟩
  |cons u us=>exact h.elim
 |t::ts,i,ps,K,hk=>by
  unfold Afm at hk;obtain⟨p,ps',FK,Dw⟩:=A3 hk;subst FK;obtain⟨v,bs,qs,Ex,hb,hqi,CY,Lm,hr,TH,hv⟩:=Ait Dw;obtain⟨tms,bs',qs',Qh,Hh,Aqj,Bll,A4v,Bc2,hr',Bdg,Nj⟩:=OZ Ex;refine⟨(i,v)::tms,bs++bs',qs.map (fun q=>(q.1,i,q.2))++qs',Qh,by simp only[List.map_append,hb,Hh];simp,?_,?_,?_,?_,?_,?_,fun w A bt β' us hβ hp=>?_⟩
  ·intro q hq;rcases List.mem_append.1 hq with hq|hq
   ·obtain⟨q0,Vx,rfl⟩:=List.mem_map.1 hq;exact Nat.le_refl _
   ·have:=Aqj q hq;omega
  ·intro q hq q' Fg e;rcases List.mem_append.1 hq with hq|hq
   ·obtain⟨q0,Vx,rfl⟩:=List.mem_map.1 hq;rcases List.mem_append.1 Fg with Fg|Fg
    ·obtain⟨q1,Jm,rfl⟩:=List.mem_map.1 Fg;simp only[Prod.mk.injEq,true_and] at e;exact hqi q0 Vx q1 Jm e
    ·have:=Aqj q' Fg;rw[←e] at this;simp only at this;omega
   ·have h5:=Aqj q hq;rcases List.mem_append.1 Fg with Fg|Fg
    ·obtain⟨q1,Jm,rfl⟩:=List.mem_map.1 Fg;rw[e] at h5;simp only at h5;omega
    ·exact Bll q hq q' Fg e
  ·intro k p' Jo hL;cases k with
   |zero=>
    simp only[List.getElem?_cons_zero,Option.some.injEq] at Jo;subst Jo;obtain⟨h1,h2⟩:=CY hL;exact⟨List.mem_append.2 (.inl (List.mem_map.2 ⟨_,h1,rfl⟩)),h2⟩
   |succ k=>
    obtain⟨h1,h2⟩:=A4v k p' (by simpa using Jo) hL
    rw[show i+1+k=i+(k+1) by omega] at h1 h2
    exact⟨List.mem_append.2 (.inr h1),h2⟩
  ·intro id bx hm;rcases List.mem_append.1 hm with hm|hm
   ·obtain⟨h1,h2⟩:=Lm id bx hm;exact⟨h1,fun c hc=>⟨0,p,rfl,(h2 c hc).2,(h2 c hc).1⟩⟩
   ·obtain⟨h1,h2⟩:=Bc2 id bx hm;refine⟨h1,fun c hc=>?_⟩
    obtain⟨k,p',h3,h4,h5⟩:=h2 c hc;exact⟨k+1,p',by simpa using h3,h4,by rw[h5,show i+1+k=i+(k+1) by omega]⟩
  ·intro j id Bb;unfold lk at Bb;cases hbq:Nat.beq j i<;>rw[hbq] at Bb
   ·obtain⟨bx,h1⟩:=hr' j id Bb;exact⟨bx,List.mem_append.2 (.inr h1)⟩
   ·obtain⟨bx,h1⟩:=hr id Bb;exact⟨bx,List.mem_append.2 (.inl h1)⟩
  ·intro id cells hm c hc k hk;rcases List.mem_append.1 hm with hm|hm
   ·obtain⟨bx,h1⟩:=TH id cells hm c hc k hk;exact⟨bx,List.mem_append.2 (.inl h1)⟩
   ·obtain⟨bx,h1⟩:=Bdg id cells hm c hc k hk;exact⟨bx,List.mem_append.2 (.inr h1)⟩
  ·cases us with
   |nil=>exact hp.elim
   |cons u us=>
    obtain⟨h1,h2,h3⟩:=hv w A (bt i) β' u (fun q hq=>hβ _ (List.mem_append.2 (.inl (List.mem_map_of_mem hq)))) hp.1
    obtain⟨Tj,RP,h3'⟩:=Nj w A bt β' us (fun q hq=>hβ q (List.mem_append.2 (.inr hq))) hp.2
    refine⟨fun j=>?_,fun id bx hm=>?_,fun id bx b o hm MM j hj=>?_⟩
    ·unfold lk;cases hbq:Nat.beq j i
     ·have Hu:=Mg hbq;simp only[cond_false];rcases Tj j with⟨u',h4,h5,h6⟩|⟨h4,h5⟩
      ·refine .inl ⟨u',by omega,?_,h6⟩
       rw[show j-i=(j-(i+1))+1 by omega]
       simpa using h5
      ·refine .inr ⟨h4,fun hij=>?_⟩
       rw[show j-i=(j-(i+1))+1 by omega]
       simpa using h5 (by omega)
     ·have:=Nat.eq_of_beq_eq_true hbq;subst this;exact .inl ⟨u,Nat.le_refl _,by simp,h1⟩
    ·rcases List.mem_append.1 hm with hm|hm
     ·exact h2 id bx hm
     ·exact RP id bx hm
    ·rcases List.mem_append.1 hm with hm|hm
     ·exact⟨0,p,rfl,h3 id bx b o hm MM j hj⟩
     ·obtain⟨k,p',h4,h5⟩:=h3' id bx b o hm MM j hj;exact⟨k+1,p',by simpa using h4,by rw[show i+(k+1)=i+1+k by omega];exact h5⟩
def TP (bt:V6)(args:List PV)(h8:∀k p,args[k]?=some p->Xu p=true->k<8):Hm:=
 ⟨BtX bt,CF bt args,fun i=>∃p,args[i]?=some p∧Xu p=true,fun i=>bt i 0,fun i ⟨p,h1,h2⟩=>h8 i p h1 h2⟩
theorem YG {ts:List TypeId}{args:List PV}{us:List Value}{bt:V6}{K:List (Nat × PV)->List (Nat × Bk)->Option R} (U0:Ins w Y bt args us)(hk:Afm P N 0 ts args K=some r):
  ∃tms bs,K tms bs=some r∧(Bn (fun _=>none) bs=true->us.length<=N->∃(h8:∀k p,args[k]?=some p->Xu p=true->k<8),∃β0,
   Cj N w (TP bt args h8) Y β0 ⟨lk tms,Fx bs⟩ { tmps:=us.toArray++Array.replicate (N-us.toArray.size) undef,defers:=[] } w):=by
 obtain⟨tms,bs,qs,Dw,hb,Vx,hqi,CY,Lm,hr,TH,hv⟩:=OZ hk;refine⟨tms,bs,Dw,fun O1 hN=>?_⟩
 have TV:=Rb O1
 have h8:∀k p,args[k]?=some p->Xu p=true->k<8:=fun k p h1 h2=>by
  have:=(CY k p h1 h2).2;omega
 have FJ:(qs.map (·.1)).Nodup:=by rw[←hb];exact TV
 obtain⟨β0,hβ0⟩:∃β0:Bt,∀q∈qs,β0 q.1=bt q.2.1 q.2.2:=by
  have:∀(l:List (Nat × Nat × Nat)),(l.map (·.1)).Nodup->∃β0:Bt,∀q∈l,β0 q.1=bt q.2.1 q.2.2:=by
   intro l
   induction l with
   |nil=>intro _;exact⟨fun _=>none,by simp⟩
   |cons q l ih=>
    intro hn;simp only[List.map_cons,List.nodup_cons] at hn;obtain⟨b1,h1⟩:=ih hn.2;refine⟨Cb b1 q.1 (bt q.2.1 q.2.2),fun q' Fg=>?_⟩
    rcases List.mem_cons.1 Fg with rfl|Fg
    ·exact Al _ _ _
    ·have Hu:q'.1≠q.1:=fun e=>hn.1 (by rw[←e];exact List.mem_map.2 ⟨q',Fg,rfl⟩)
     rw[Ah _ _ Hu];exact h1 q' Fg
  exact this qs FJ
 refine⟨h8,β0,?_⟩;obtain⟨hs,NE,hL⟩:=hv w _ bt β0 us hβ0 U0.args
 have hqm:∀id bx,(id,bx)∈bs->∃ik,(id,ik)∈qs∧β0 id=bt ik.1 ik.2:=by
  intro id bx hm;have:id∈qs.map (·.1):=by rw[←hb];exact List.mem_map.2 ⟨_,hm,rfl⟩
  obtain⟨q,hq,rfl⟩:=List.mem_map.1 this;exact⟨q.2,hq,hβ0 q hq⟩
 have hX:∀b,LX (Fx bs) β0 b->BtX bt b:=by
  rintro b ⟨id,o,hl,hβ⟩
  cases hq:Fx bs id with
  |none=>rw[hq] at hl;exact hl.elim
  |some bx=>
   obtain⟨ik,_,h2⟩:=hqm id bx (Mb hq);rw[h2] at hβ;exact⟨_,_,_,hβ⟩
 have hA:∀b,Cs (Fx bs) β0 Y b->BtX bt b∨Y b:=fun b hb=>hb.imp (hX b) id
 have Aj9:∀{p:PV} {u:Value},D6 w (fun b=>BtX bt b∨Y b) β0 p u->D6 w (Cs (Fx bs) β0 Y) β0 p u:=fun h=>h.step (Bw.refl _ _) (fun b _=>hA b) (fun _ _=>rfl)
 refine⟨rfl,by simp;omega,fun i hi=>?_,fun i hi=>?_,?_,?_,?_,fun i hi id Bb=>?_,?_,fun b hb=>.inl (hX b hb),?_,?_,?_,fun b hY hXb=>U0.Yx b hY (hX b hXb),U0.Ylt,⟨rfl,rfl,rfl,Bw.refl _ _,fun _ _ _ _=>⟨rfl,rfl⟩⟩⟩
 ·rcases hs i with⟨u,_,h,_⟩|⟨h,_⟩
  ·rw[Nat.sub_zero,List.getElem?_eq_none (by omega)] at h;cases h
  ·exact h
 ·rcases hs i with⟨u,_,h,hv⟩|⟨h,h'⟩
  ·rw[Nat.sub_zero] at h
   have Bp:i<us.length:=by
    rcases Nat.lt_or_ge i us.length with h'|h'
    ·exact h'
    ·rw[List.getElem?_eq_none h'] at h;cases h
   have:(us.toArray++Array.replicate (N-us.toArray.size) undef).getD i undef=u:=by
    rw[Array.getD_eq_getD_getElem?,Array.getElem?_append_left (by simpa using Bp)]
    simp[h]
   show D6 w _ _ _ ((us.toArray++Array.replicate (N-us.toArray.size) undef).getD i undef);rw[this];exact Aj9 hv
  ·show D6 w _ _ (lk tms i) _;rw[h];exact As.top _
 ·intro id bx hq;exact (NE id bx (Mb hq)).step' hA
 ·intro id id' b o o' hl Jt hβ hβ';cases hq:Fx bs id with
  |none=>change Cu (Fx bs id) at hl;rw[hq] at hl;exact hl.elim
  |some bx=>
   cases Fg:Fx bs id' with
   |none=>change Cu (Fx bs id') at Jt;rw[Fg] at Jt;exact Jt.elim
   |some bx'=>
    obtain⟨ik,h1,h2⟩:=hqm id bx (Mb hq);obtain⟨ik',Tj,RP⟩:=hqm id' bx' (Mb Fg);rw[h2] at hβ;rw[RP] at hβ';obtain⟨h3,h4⟩:=U0.inj _ _ _ _ b o o' hβ hβ';exact hqi _ h1 _ Tj (Prod.ext h3 h4)
 ·intro id b o hn hβ;cases hq:Fx bs id with
  |none=>exact absurd hq hn
  |some bx=>
   obtain⟨ik,h1,h2⟩:=hqm id bx (Mb hq);rw[h2] at hβ;exact U0.lt b ⟨_,_,_,hβ⟩
 ·obtain⟨bx,hm⟩:=hr i id Bb;show Fx bs id≠none;rw[LM TV hm];simp
 ·intro id cells hq c hc k hk;obtain⟨bx,hm⟩:=TH id cells (Mb hq) c hc k hk;show Fx bs k≠none;rw[LM TV hm];simp
 ·intro id bx b o hq hl hβ _ j hj;obtain⟨k,p,h1,h2⟩:=hL id bx b o (Mb hq) hβ j hj;rw[Nat.zero_add] at h2;exact⟨k,p,h1,h2⟩
 ·rintro i ⟨p,h1,h2⟩
  have h3:=(CY i p h1 h2).1;rw[Nat.zero_add] at h3;refine⟨?_,hβ0 _ h3⟩;have:C1 N i∈bs.map (·.1):=by rw[hb];exact List.mem_map.2 ⟨_,h3,rfl⟩
  obtain⟨⟨id,bx⟩,hm,e⟩:=List.mem_map.1 this;show Fx bs (C1 N i)≠none;rw[←e,LM TV hm];simp
 ·intro id c b o hq _ _;obtain⟨k,p,h1,h2,h3⟩:=(Lm id _ (Mb hq)).2 c rfl;rw[Nat.zero_add] at h3;exact⟨k,h3,p,h1,h2⟩
end
open Go.RowKit
def Kz (β:Bt)(l:List (Option Nat)) (j:Nat):Option (Nat × Nat):=((l[j]?).bind id).bind β
section
variable {R:Type} {r:R} {P:Program} {N:Nat} {w0:World} {X0:Hm} {Y:Nat->Prop} {β β':Bt} {s:St} {a:Act} {w w':World} {A:Nat->Prop}
def Ac1 (s:St)(l:List (Option Nat)):Prop:=∀id,some id∈l->Cu (s.hp id)
def Lw (s:St)(z:List Nat):Prop:=∀id∈z,∃f c,s.hp id=some (.ar f c)
theorem IL (h : Cj N w0 X0 Y β s a w) {shr : Bool} {t : CT} {p : PV} {K : PV -> List Nat -> List Nat -> Option R} (hk : XO shr s.hp t p K = some r) :
    ∃ c q z, K c (Option.toList q) z = some r ∧ (∀ x, c ≠ .agg x ∧ c ≠ .pbox x) ∧ GK p ∧ (∀ id, q = some id -> ∃ c, s.hp id = some (.ar false c)) ∧ Lw s z ∧
      ∀ (fz : List Nat) A u, (∀ i ∈ z, i ∈ fz) -> Lw s fz -> (∀ b, A b -> Cs (Ad s.hp fz) β Y b) -> Bs w (Cs s.hp β Y) β p u -> Fz w A (q.bind β) c u := by
  have notree : ∀ {c : PV}, M0 c -> ∀ x, c ≠ .agg x ∧ c ≠ .pbox x := fun hT x => ⟨Wy hT x, by rintro rfl; exact hT⟩
  unfold XO at hk
  cases shr <;> simp only[cond_true, cond_false] at hk
  · have tree : ∀ t', (∀ es, t' ≠ .sl es) -> (Zb t' p fun c => K c [] []) = some r -> ∃ c q z, K c (Option.toList q) z = some r ∧ (∀ x, c ≠ .agg x ∧ c ≠ .pbox x) ∧ GK p ∧ (∀ id, q = some id -> ∃ c, s.hp id = some (.ar false c)) ∧ Lw s z ∧
        ∀ (fz : List Nat) A u, (∀ i ∈ z, i ∈ fz) -> Lw s fz -> (∀ b, A b -> Cs (Ad s.hp fz) β Y b) -> Bs w (Cs s.hp β Y) β p u -> Fz w A (q.bind β) c u := by
      intro t' Hu hk
      obtain⟨c, Dw, hT, DI, hv⟩ := Md hk
      refine⟨c, none, [], Dw, notree hT, Rp DI, by simp, (by intro i hi; cases hi), fun fz A u _ _ hA hc => Kj hT ?_⟩
      exact (hv w _ β u hc).1.step (Bw.refl _ _) (fun b _ hb => Ng (hA b hb))
    unfold Al7 at hk
    cases t with
    | sl es =>
      dsimp only at hk
      split at hk
      · rename_i id es' off n
        cases hb : (Nat.beq es' es && Nat.beq off 0) <;> rw[hb] at hk
        · cases hk
        · simp only[Bool.and_eq_true] at hb
          have he := Nat.eq_of_beq_eq_true hb.1
          have ho := Nat.eq_of_beq_eq_true hb.2
          subst he ho
          simp only[cond_true] at hk
          split at hk
          · rename_i c h0
            obtain⟨hl, Dw⟩ := Aj hk
            refine⟨_, some id, [], Dw, by simp, trivial, fun i hi => by cases hi; exact⟨c, h0⟩, (by intro i hi; cases hi), fun fz A u _ _ hA hc => ?_⟩
            rcases hc with⟨h1, _, rfl, h4⟩ | ⟨b, o, x, cap, h1, h2, hx, h3, h4, h5⟩
            · exact .inl ⟨h1, rfl, by simp, h4⟩
            · have hx : x = o := by rcases hx with e | ⟨_, e⟩ <;> omega
              subst hx
              rcases h.box id _ h0 with⟨h6, _⟩ | ⟨b', o', h6, h7, h8, _⟩
              · rw[h1] at h6; cases h6
              · rw[h1] at h6
                cases h6
                refine .inr ⟨b, x, cap, h1, h2, h3, h4, h5, fun j q hq => ?_, fun j hj Nk => h8 rfl j hj Nk⟩
                rw[List.getElem?_take] at hq
                split at hq
                · obtain⟨v, hv, h9, ht⟩ := h7 j q hq
                  exact⟨v, hv, h9, ht.step (Bw.refl _ _) (fun b _ hb => Ng (hA b hb))⟩
                · cases hq
          · cases hk
      · obtain⟨z, n, c, Dw, hp⟩ := E6 hk
        obtain⟨hz, Ex⟩ := Aj Dw
        subst hz
        have hpF : GK p := by rcases hp with e | ⟨e, _⟩ <;> (rw[e]; trivial)
        refine⟨_, none, [], Ex, by simp, hpF, by simp, (by intro i hi; cases hi), fun fz A u _ _ _ hc => ?_⟩
        have hu : u = .slice none 0 0 := by
          rcases hp with rfl | ⟨rfl, _⟩
          · cases hc; rfl
          · exact As.val hc
        exact .inl ⟨rfl, rfl, rfl, none, hu⟩
    | int k => exact tree _ (by simp) hk
    | bool => exact tree _ (by simp) hk
    | str => exact tree _ (by simp) hk
    | any => exact tree _ (by simp) hk
  · obtain⟨c, m, Dw, hT, hF, hm, hv⟩ := EL h hk
    exact⟨c, none, m, Dw, notree hT, hF, by simp, hm, fun fz A u h1 h2 hA hc => Kj hT ((hv fz h1 h2 u hc).1.step (Bw.refl _ _) (fun b _ hb => hA b hb))⟩
structure AL (s:St) (β:Bt) (Y:Nat->Prop) (w:World) (cs:List PV) (l:List (Option Nat)) (z:List Nat) (ps:List PV):Prop where
 len:l.length=cs.length
 pl:cs.length=ps.length
 na:∀c∈cs,∀x,c ≠ .agg x∧c ≠ .pbox x
 fr:∀p∈ps,GK p
 own:∀id,some id∈l->∃c,s.hp id=some (.ar false c)
 row:Lw s z
 sem:∀(fz:List Nat) A us,(∀i∈z,i∈fz)->Lw s fz->(∀b,A b->Cs (Ad s.hp fz) β Y b)->Ba (Bs w (Cs s.hp β Y) β) ps us->∀own j0,(∀j,j<l.length->own (j0+j)=Kz β l j)->Et w A own j0 cs us
theorem AL.nil:AL s β Y w [] [] [] []:=⟨rfl,rfl,by simp,by simp,by simp,(by intro i hi;cases hi),fun fz A us _ _ _ hu own j0 _=>by
 cases us with
 |nil=>trivial
 |cons u us=>exact hu.elim⟩
theorem AL.cons {c p:PV}{q:Option Nat}{z zs:List Nat}{cs ps:List PV}{l:List (Option Nat)} (Zg:∀x,c ≠ .agg x∧c ≠ .pbox x)(hF:GK p)(hq:∀id,q=some id->∃c,s.hp id=some (.ar false c)) (hz:Lw s z)
  (hv:∀(fz:List Nat) A u,(∀i∈z,i∈fz)->Lw s fz->(∀b,A b->Cs (Ad s.hp fz) β Y b)->Bs w (Cs s.hp β Y) β p u->Fz w A (q.bind β) c u) (H:AL s β Y w cs l zs ps):AL s β Y w (c::cs) (q::l) (z++zs) (p::ps):=by
 refine⟨by simp[H.len],by simp[H.pl],?_,?_,?_,?_,fun fz A us hz1 hz2 hA hu own j0 Hl=>?_⟩
 ·intro x hx;rcases List.mem_cons.1 hx with rfl|hx
  ·exact Zg
  ·exact H.na x hx
 ·intro x hx;rcases List.mem_cons.1 hx with rfl|hx
  ·exact hF
  ·exact H.fr x hx
 ·intro id Bb;rcases List.mem_cons.1 Bb with e|Bb
  ·exact hq id e.symm
  ·exact H.own id Bb
 ·intro i hi;rcases List.mem_append.1 hi with hi|hi
  ·exact hz i hi
  ·exact H.row i hi
 ·cases us with
  |nil=>exact hu.elim
  |cons u us=>
   have h0:=Hl 0 (by simp)
   rw[Nat.add_zero] at h0;refine⟨?_,H.sem fz A us (fun i hi=>hz1 i (by simp[hi])) hz2 hA hu.2 own (j0+1) fun j hj=>?_⟩
   ·rw[h0];exact hv fz A u (fun i hi=>hz1 i (by simp[hi])) hz2 hA hu.1
   ·have:=Hl (j+1) (by simp;omega)
    rw[show j0+1+j=j0+(j+1) by omega,this]
    simp[Kz]
theorem Qw (h:Cj N w0 X0 Y β s a w){shr:Bool}:∀{ts:List CT}{ps:List PV}{K:List PV->List Nat->List Nat->Option R},Yg shr s.hp ts ps K=some r ->
  ∃cs l z,K cs (l.filterMap id) z=some r∧AL s β Y w cs l z ps
 |[],[],K,hk=>⟨[],[],[],hk,AL.nil⟩
 |[],_::_,K,hk=>by cases hk
 |_::_,[],K,hk=>by cases hk
 |t::ts,p::ps,K,hk=>by
  unfold Yg at hk;obtain⟨c,q,z,Dw,Zg,hF,hq,hz,hv⟩:=IL h hk;obtain⟨cs,l,zs,Ex,H⟩:=Qw h Dw;refine⟨c::cs,q::l,z++zs,?_,AL.cons Zg hF hq hz hv H⟩;cases q<;>exact Ex
theorem Z5 (h:Cj N w0 X0 Y β s a w):∀{ts:List CT}{ws ps:List PV}{K:List PV->List Nat->List Nat->Option R},BG s.hp ts ws ps K=some r ->
  ∃cs l z,K cs (l.filterMap id) z=some r∧cs.length=ws.length∧AL s β Y w cs l z ps
 |[],[],[],K,hk=>⟨[],[],[],hk,rfl,AL.nil⟩
 |[],_::_,_,K,hk=>by cases hk
 |[],[],_::_,K,hk=>by cases hk
 |_::_,[],_,K,hk=>by cases hk
 |_::_,_::_,[],K,hk=>by cases hk
 |t::ts,x::ws,p::ps,K,hk=>by
  unfold BG at hk;obtain⟨c,q,z,Dw,Zg,hF,hq,hz,hv⟩:=IL h hk;obtain⟨cs,l,zs,Ex,hl,H⟩:=Z5 h Dw;refine⟨c::cs,q::l,z++zs,?_,by simp[hl],AL.cons Zg hF hq hz hv H⟩
  cases q<;>exact Ex
theorem UI {own:Bt}{zz j:Nat}{p:PV}{u:Value}(hp:∀x,p ≠ .agg x∧p ≠ .pbox x)(h:Et w A own j [p] [u]):Ai1 w A own zz j p u:=by
 cases p<;>first|exact h.1|exact absurd rfl (hp _).1|exact absurd rfl (hp _).2
theorem VH (h:Cj N w0 X0 Y β s a w){id b o:Nat}{c cs:List PV}{l:List (Option Nat)} {z:List Nat}(h0:s.hp id=some (.st c)) (hβ:β id=some (b,o)) (H:AL s β Y w cs l z c){fz:List Nat}{A:Nat->Prop}(h1:∀i∈z,i∈fz)(h2:Lw s fz)(hA:∀b,A b->Cs (Ad s.hp fz) β Y b)
  {own:Bt} {j0:Nat} (Hl:∀j,j<l.length->own (j0+j)=Kz β l j):Ajy w A own j0 b o cs:=by
 obtain⟨b',o',Fh,Kw,LE⟩:=h.box id _ h0;rw[hβ] at Fh;cases Fh;refine⟨c.mapIdx (fun j _=>(w.cell? ⟨b,o+j,none⟩).getD undef),H.sem fz A _ h1 h2 hA ?_ own j0 Hl,?_,fun k hk=>LE k (by have:=H.pl;omega)⟩
 ·refine Ba.of_at (by simp) fun j p v hp hv=>?_
  obtain⟨u,hu,ME⟩:=Kw j p hp;rw[List.getElem?_mapIdx,hp,Option.map_some,hu] at hv;simp at hv;subst hv;exact ME
 ·intro k v hkv;rw[List.getElem?_mapIdx] at hkv;cases hp:c[k]? with
  |none=>rw[hp] at hkv;cases hkv
  |some p=>
   obtain⟨u,hu,ME⟩:=Kw k p hp;rw[hp,Option.map_some,hu] at hkv;simp at hkv;subst hkv;exact hu
theorem Aa2 (h:Cj N w0 X0 Y β s a w){shr:Bool}{t:TypeId}{p:PV}{u:Value}(hp:D6 w (Cs s.hp β Y) β p u) {K:PV->List Nat->List Nat->Option R}(hk:Ack P shr s.hp t p K=some r):
  ∃v l z,K v (l.filterMap id) z=some r∧l.length=ZM v∧Ac1 s l∧Lw s z ∧
   ∀(fz:List Nat) A zz,(∀i∈z,i∈fz)->Lw s fz->(∀b,A b->Cs (Ad s.hp fz) β Y b)->(∀id c b o,some id∈l->s.hp id=some (.st c)->β id=some (b,o)->zz<=b) ->
    ∀own j0,(∀j,j<l.length->own (j0+j)=Kz β l j)->Ai1 w A own zz j0 v u:=by
 unfold Ack at hk;split at hk
 ·rename_i e he;split at hk
  ·rename_i id off;split at hk
   ·rename_i c h0;obtain⟨hof,Dw⟩:=Aj hk;have hof:=Nat.eq_of_beq_eq_true hof;subst hof;obtain⟨cs,l,z,Ex,H⟩:=Qw h Dw;obtain⟨b,o,hβ,hu⟩:=hp;refine⟨.pbox cs,some id::l,z,Ex,by simp only[ZM,List.length_cons,H.len];omega,?_,H.row,fun fz A zz h1 h2 hA hz own j0 Hl=>?_⟩
    ·intro i hi;rcases List.mem_cons.1 hi with e|hi
     ·cases e;rw[h0];trivial
     ·obtain⟨c',Rj⟩:=H.own i hi;rw[Rj];trivial
    ·have h3:=Hl 0 (by simp)
     rw[Nat.add_zero] at h3;refine⟨b,o,by rw[h3];exact hβ,hz id c b o (by simp) h0 hβ,by rw[hu,Nat.add_zero],VH h h0 hβ H h1 h2 hA fun j hj=>?_⟩
     have:=Hl (j+1) (by simp;omega)
     rw[show j0+1+j=j0+(j+1) by omega,this]
     simp[Kz]
   ·cases hk
  ·cases hk
 ·cases Fs:Bv P t<;>rw[Fs] at hk<;>simp only[cond_true,cond_false] at hk
  ·obtain⟨cs,l,z,Dw,H⟩:=Qw h hk;obtain⟨c,cs',Te,Ex⟩:=A3 Dw;subst Te;obtain⟨Vn,Qh⟩:=C5 Ex;subst Vn;have Zg:=H.na c (by simp)
   have Z9:ZM c=1:=by cases c<;>first|rfl|exact absurd rfl (Zg _).1|exact absurd rfl (Zg _).2
   have hF:=H.fr p (by simp)
   refine⟨c,l,z,Qh,by rw[Z9];exact H.len,fun i hi=>?_,H.row,fun fz A zz h1 h2 hA _ own j0 Hl=>UI Zg (H.sem fz A [u] h1 h2 hA ⟨?_,trivial⟩ own j0 Hl)⟩
   ·obtain⟨c',Rj⟩:=H.own i hi;rw[Rj];trivial
   ·cases p<;>first|exact hp|exact hF.elim
  ·obtain⟨ps,FK,Dw⟩:=Gw hk;subst FK;obtain⟨cs,l,z,Ex,H⟩:=Qw h Dw;obtain⟨vs,hu,Fq⟩:=hp;refine⟨.agg cs,l,z,Ex,H.len,fun i hi=>?_,H.row,fun fz A zz h1 h2 hA _ own j0 Hl=>⟨vs,hu,H.sem fz A vs h1 h2 hA Fq own j0 Hl⟩⟩
   obtain⟨c',Rj⟩:=H.own i hi;rw[Rj];trivial
def JT (P:Program)(tmps:Array Value)(w:World)(rv:ResultVar)(u:Value):Prop:=
  (match rv with
   |.tmp t=>(pure (tmps.getD t undef):Sem Value)
   |.cell a t=>do loadVar t (←asAddr (tmps.getD a undef))).run P w=.ok u w
theorem Acs (h:Cj N w0 X0 Y β s a w)(t:Nat):D6 w (Cs s.hp β Y) β (s.tm t) (a.tmps.getD t undef):=by
 rcases Nat.lt_or_ge t N with h'|h'
 ·exact h.tms t h'
 ·rw[h.tmo t h'];exact As.top _
theorem YD (h:Cj N w0 X0 Y β s a w){rv:ResultVar}{K:PV->Option R}(hk:Aex P s rv K=some r):∃p u,K p=some r∧JT P a.tmps w rv u∧D6 w (Cs s.hp β Y) β p u:=by
 unfold Aex at hk;split at hk
 ·rename_i t;exact⟨_,_,hk,rfl,Acs h t⟩
 ·rename_i x t;obtain⟨v,ad,val,Dw,Cx,hl,hv,_⟩:=QO h (Acs h x) hk;refine⟨v,val,Dw,?_,hv⟩;unfold JT;simp[Cx,asAddr,hl]
theorem Vh {l l':List (Option Nat)} {j:Nat}(h:j<l.length):Kz β (l++l') j=Kz β l j:=by
 unfold Kz;rw[List.getElem?_append_left h]
theorem Vj {l l':List (Option Nat)} {j:Nat}:Kz β (l++l') (l.length+j)=Kz β l' j:=by
 unfold Kz;rw[List.getElem?_append_right (by omega),Nat.add_sub_cancel_left]
theorem EZ (h:Cj N w0 X0 Y β s a w){shr:Bool}:∀{rs:List ResultVar}{ts:List TypeId}{K:List PV->List Nat->List Nat->Option R},MU P shr s rs ts K=some r ->
  ∃vs l z us,K vs (l.filterMap id) z=some r∧Ba (JT P a.tmps w) rs us∧l.length=Jd vs∧Ac1 s l∧Lw s z ∧
   ∀(fz:List Nat) A zz,(∀i∈z,i∈fz)->Lw s fz->(∀b,A b->Cs (Ad s.hp fz) β Y b)->(∀id c b o,some id∈l->s.hp id=some (.st c)->β id=some (b,o)->zz<=b) ->
    ∀own j0,(∀j,j<l.length->own (j0+j)=Kz β l j)->NS w A own zz j0 vs us
 |[],[],K,hk=>⟨[],[],[],[],hk,trivial,rfl,(by intro id Bb;cases Bb),(by intro id Bb;cases Bb),fun _ _ _ _ _ _ _ _ _ _=>trivial⟩
 |[],_::_,K,hk=>by cases hk
 |_::_,[],K,hk=>by cases hk
 |rv::rs,t::ts,K,hk=>by
  unfold MU at hk;obtain⟨p,u,Dw,hu,hp⟩:=YD h hk;obtain⟨v,l,z,Ex,hl,hL,hz,hv⟩:=Aa2 h hp Dw;obtain⟨vs,l',z',us,Qh,WW,Jt,hL',hz',Fq⟩:=EZ h Ex;refine⟨v::vs,l++l',z++z',u::us,?_,⟨hu,WW⟩,by simp only[List.length_append,Jd,List.map_cons,List.sum_cons,hl];rw[Jt];rfl,?_,?_,fun fz A zz h1 h2 hA Lx own j0 Hl=>⟨?_,?_⟩⟩
  ·rw[List.filterMap_append];exact Qh
  ·intro id Bb;rcases List.mem_append.1 Bb with Bb|Bb
   ·exact hL id Bb
   ·exact hL' id Bb
  ·intro id Bb;rcases List.mem_append.1 Bb with Bb|Bb
   ·exact hz id Bb
   ·exact hz' id Bb
  ·exact hv fz A zz (fun i hi=>h1 i (by simp[hi])) h2 hA (fun id c b o hi=>Lx id c b o (by simp[hi])) own j0 fun j hj=>by rw[Hl j (by simp;omega),Vh hj]
  ·refine Fq fz A zz (fun i hi=>h1 i (by simp[hi])) h2 hA (fun id c b o hi=>Lx id c b o (by simp[hi])) own (j0+ZM v) fun j hj=>?_
   rw[←hl,Nat.add_assoc,Hl (l.length+j) (by simp;omega),Vj]
theorem Re (h:Cj N w0 X0 Y β s a w){bt:V6}(hpt:∀i,X0.pt i=bt i 0):∀{ts:List TypeId}{i:Nat}{ps:List PV}{K:List (List PV)->List Nat->List Nat->List Nat->Option R},Yb P N s.hp i ts ps K=some r ->
  (∀k p,ps[k]?=some p->Xu p=true->X0.pn (i+k)) ->
  ∃os l z q,K os (l.filterMap id) z q=some r∧(∀id,some id∈l->∃c,s.hp id=some (.ar false c))∧Lw s z∧(∀id∈q,Cu (s.hp id))∧(∀k p,ps[k]?=some p->Xu p=true->C1 N (i+k)∈q) ∧
   ∀(fz:List Nat) A,(∀i∈z,i∈fz)->Lw s fz->(∀i∈q,i ∉ fz)->(∀b,A b->Cs (Ad s.hp fz) β Y b) ->
    ∀own j0,(∀j,j<l.length->own (j0+j)=Kz β l j)->Gz w A own bt j0 i ps os
 |[],i,ps,K,hk,_=>by
  obtain⟨FK,hk⟩:=C5 hk;subst FK;exact⟨[],[],[],[],hk,by simp,(by intro id Bb;cases Bb),by simp,by simp,fun _ _ _ _ _ _ _ _ _=>rfl⟩
 |t::ts,i,ps,K,hk,hpn=>by
  unfold Yb at hk;obtain⟨p,ps',FK,Dw⟩:=A3 hk;subst FK
  have Ann:∀k p,ps'[k]?=some p->Xu p=true->X0.pn (i+1+k):=fun k p' h1 h2=>by
   have:=hpn (k+1) p' (by simpa using h1) h2
   rw[show i+1+k=i+(k+1) by omega]
   exact this
  have hpq:∀{q:List Nat},(Xu p=true->C1 N i∈q)->(∀k p,ps'[k]?=some p->Xu p=true->C1 N (i+1+k)∈q)->∀k p',(p::ps')[k]?=some p'->Xu p'=true->C1 N (i+k)∈q:=by
   intro q h1 h2 k p' h3 h4;cases k with
   |zero=>
    simp only[List.getElem?_cons_zero,Option.some.injEq] at h3;subst h3;exact h1 h4
   |succ k=>
    have:=h2 k p' (by simpa using h3) h4
    rw[show i+1+k=i+(k+1) by omega] at this
    exact this
  split at Dw
  ·rename_i ws;obtain⟨e,he,Ex⟩:=B3 Dw;split at Ex
   ·rename_i c h0;obtain⟨cs,l,z,Qh,N1,H⟩:=Z5 h Ex;obtain⟨os,l',z',q,Yq,hL',hz',Fg,hpi,hv⟩:=Re h hpt Qh Ann;refine⟨cs::os,l++l',z++z',C1 N i::q,by rw[List.filterMap_append];exact Yq,?_,?_,?_,hpq (fun _=>List.mem_cons_self) (fun k p h1 h2=>List.mem_cons_of_mem _ (hpi k p h1 h2)),fun fz A h1 h2 h3 hA own j0 Hl=>?_⟩
    ·intro id Bb;rcases List.mem_append.1 Bb with Bb|Bb
     ·exact H.own id Bb
     ·exact hL' id Bb
    ·intro id Bb;rcases List.mem_append.1 Bb with Bb|Bb
     ·exact H.row id Bb
     ·exact hz' id Bb
    ·intro id Bb;rcases List.mem_cons.1 Bb with rfl|Bb
     ·rw[h0];trivial
     ·exact Fg id Bb
    ·have CY:=(h.pin i (by have:=hpn 0 _ rfl rfl;rwa [Nat.add_zero] at this)).2
     obtain⟨b,o,Fh,_,_⟩:=h.box _ _ h0;rw[Fh,hpt] at CY;refine⟨⟨b,o,CY.symm,N1,VH h h0 Fh H (fun i hi=>h1 i (by simp[hi])) h2 hA fun j hj=>by rw[Hl j (by simp;omega),Vh hj]⟩,?_⟩
     refine hv fz A (fun i hi=>h1 i (by simp[hi])) h2 (fun i hi=>h3 i (by simp[hi])) hA own (j0+cs.length) fun j hj=>?_
     rw[←H.len,Nat.add_assoc,Hl (l.length+j) (by simp;omega),Vj]
   ·cases Ex
  ·split at Dw
   ·rename_i c h0;obtain⟨os,l',z',q,Yq,hL',hz',Fg,hpi,hv⟩:=Re h hpt Dw Ann;refine⟨c::os,l',z',C1 N i::q,Yq,hL',hz',?_,hpq (fun _=>List.mem_cons_self) (fun k p h1 h2=>List.mem_cons_of_mem _ (hpi k p h1 h2)),fun fz A h1 h2 h3 hA own j0 Hl=>⟨?_,hv fz A h1 h2 (fun i hi=>h3 i (by simp[hi])) hA own j0 Hl⟩⟩
    ·intro id Bb;rcases List.mem_cons.1 Bb with rfl|Bb
     ·rw[h0];trivial
     ·exact Fg id Bb
    ·have CY:=(h.pin i (by have:=hpn 0 _ rfl rfl;rwa [Nat.add_zero] at this)).2
     rw[hpt] at CY;rcases h.box _ _ h0 with⟨h4,h5⟩|⟨b,o,h4,h5,h6,_⟩
     ·exact .inl ⟨by rw[←CY];exact h4,h5⟩
     ·exact .inr ⟨b,o,by rw[←CY];exact h4,h5.weak (fun b _ hb=>Ng (hA b hb)),h6 rfl⟩
   ·cases Dw
  ·rename_i CR RX;have hnL:Xu p=false:=by cases p<;>first|rfl|exact absurd rfl (CR _)|exact absurd rfl (RX _)
   obtain⟨os,l',z',q,Yq,hL',hz',Fg,hpi,hv⟩:=Re h hpt Dw Ann;refine⟨os,l',z',q,Yq,hL',hz',Fg,hpq (fun e=>by rw[hnL] at e;cases e) hpi,fun fz A h1 h2 h3 hA own j0 Hl=>?_⟩
   have:=hv fz A h1 h2 h3 hA own j0 Hl;cases p<;>first|exact this|cases hnL
theorem OW {f:ResultVar->Sem Value}:∀{rs:List ResultVar}{us:List Value},Ba (fun rv u=>(f rv).run P w=.ok u w) rs us->(rs.mapM f).run P w=.ok us w
 |[],[],_=>by simp
 |[],_::_,h=>h.elim
 |_::_,[],h=>h.elim
 |rv::rs,u::us,h=>by
  rw[List.mapM_cons];simp[h.1,OW h.2]
theorem RC {fn:Func}{us:List Value}(h:Ba (JT P a.tmps w) fn.results.toList us):(results fn a.tmps).run P w=.ok (Eo us) w:=by
 unfold results;rw[Array.mapM_eq_mapM_toList];simp only[map_eq_pure_bind,bind_assoc,pure_bind,Sem.run_bind];refine Eq.trans (congrArg (fun x=>Result.andThen x _) (OW h)) ?_
 simp only[Result.andThen_ok,Sem.run_pure]
 congr 1
 clear h
 match us with
 |[]=>rfl
 |[u]=>rfl
 |u::v::us=>exact dif_neg (by simp)
theorem RN:∀{l:List (Option Nat)},Du (l.filterMap id)=true->∀{j j' i:Nat},l[j]?=some (some i)->l[j']?=some (some i)->j=j'
 |[],_,j,j',i,h,_=>by simp at h
 |q::l,hn,j,j',i,h,h'=>by
  have hn':Du (l.filterMap id)=true:=by
   cases q with
   |none=>exact hn
   |some x=>
    simp only[List.filterMap_cons,id_eq,Du,Bool.and_eq_true] at hn;exact hn.2
  have hq:∀(x k:Nat),q=some x->l[k]?≠some (some x):=by
   intro x k e hk;subst e;simp only[List.filterMap_cons,id_eq,Du,Bool.and_eq_true,Bool.not_eq_true'] at hn;exact Rd hn.1 (List.mem_filterMap.2 ⟨some x,List.mem_of_getElem? hk,rfl⟩)
  cases j with
  |zero=>
   cases j' with
   |zero=>rfl
   |succ k'=>
    simp at h h';exact absurd h' (hq i k' h)
  |succ k=>
   cases j' with
   |zero=>
    simp at h h';exact absurd h (hq i k h')
   |succ k'=>
    simp at h h';rw[RN hn' h h']
theorem HN {C:Gt}{f:FuncId}{fn:Func}{args:List PV}{res:A2}{w:World}{Y:Nat->Prop}{bt:V6}{us:List Value}(U0:Ins w Y bt args us){h8:∀k p,args[k]?=some p->Xu p=true->k<8}
  {s':St} {a':Act} {w':World} {β':Bt} (hr:YV C P f fn args s'=some res) (h:Cj fn.ntmps w (TP bt args h8) Y β' s' a' w'):
  a'.defers=[]∧∃v,(results fn a'.tmps).run P w'=.ok v w'∧∃vs own,Ending.returned v=.returned (Eo vs)∧VY w w' Y bt args own res vs:=by
 unfold YV at hr;obtain⟨vs,l,z,us',hr1,WW,NR,hL,hz,hv⟩:=EZ h hr;obtain⟨os,l',z',q,hr2,hL',hz',hq,hpi,Nj⟩:=Re h (bt:=bt) (fun _=>rfl) hr1 (fun k p h1 h2=>by rw[Nat.zero_add];exact⟨p,h1,h2⟩)
 obtain⟨hnd,hr3⟩:=Aj hr2;cases hr3;simp only[Bool.and_eq_true] at hnd;obtain⟨hnd,Apm⟩:=hnd;obtain⟨CR,RX,hn3⟩:=H4 hnd
 have Rt:∀i∈z++z',i ∉ (l.filterMap id++l'.filterMap id)++q:=by
  intro i hi Mj;have:=List.all_eq_true.1 Apm i hi;have h2:((l.filterMap id++l'.filterMap id)++q).any (Nat.beq i)=true:=List.any_eq_true.2 ⟨i,Mj,Nat.beq_refl i⟩;rw[h2] at this;cases this
 have Aa1:Lw s' (z++z'):=by
  intro i hi;rcases List.mem_append.1 hi with hi|hi
  ·exact hz i hi
  ·exact hz' i hi
 refine⟨h.dfr,Eo us',RC WW,us',Kz β' (l++l'),rfl,?_⟩;have Bou:Du ((l++l').filterMap id)=true:=by rw[List.filterMap_append];exact CR
 have Hl:∀j b o,Kz β' (l++l') j=some (b,o)->∃id,(l++l')[j]?=some (some id)∧β' id=some (b,o):=by
  intro j b o hj;unfold Kz at hj;cases hlj:(l++l')[j]? with
  |none=>rw[hlj] at hj;cases hj
  |some q=>
   cases q with
   |none=>rw[hlj] at hj;cases hj
   |some id=>
    rw[hlj] at hj;exact⟨id,rfl,hj⟩
 have Km:∀(j i:Nat),(l++l')[j]?=some (some i)->i∈l.filterMap id++l'.filterMap id:=by
  intro j i hj;rw[←List.filterMap_append];exact List.mem_filterMap.2 ⟨some i,List.mem_of_getElem? hj,rfl⟩
 have F7:∀(j i:Nat),(l++l')[j]?=some (some i)->Cu (s'.hp i):=by
  intro j i hj;rcases List.mem_append.1 (List.mem_of_getElem? hj) with Mj|Mj
  ·exact hL i Mj
  ·obtain⟨c,hc⟩:=hL' i Mj;rw[hc];trivial
 have Alz:∀i,i∈(l.filterMap id++l'.filterMap id)++q->Ad s'.hp (z++z') i=s'.hp i:=by
  intro i hi;rw[Bq,if_neg (fun Mj=>Rt i Mj hi)]
 have Akl:∀i b o,bt i 0=some (b,o)->C1 fn.ntmps i∈q∧Cu (s'.hp (C1 fn.ntmps i))∧β' (C1 fn.ntmps i)=some (b,o):=by
  intro i b o PI;obtain⟨p,h1,h2⟩:=U0.l0 i _ PI;have h3:=hpi i p h1 h2;rw[Nat.zero_add] at h3;exact⟨h3,hq _ h3,(h.pin i ⟨p,h1,h2⟩).2.trans PI⟩
 have hAO:∀b,Nn bt (Kz β' (l++l')) Y b->Cs (Ad s'.hp (z++z')) β' Y b:=by
  rintro b (⟨j,o,hj⟩|⟨i,o,PI⟩|hY)
  ·obtain⟨id,h1,h2⟩:=Hl j b o hj;refine .inl ⟨id,o,?_,h2⟩;rw[Alz id (List.mem_append.2 (.inl (Km j id h1)))];exact F7 j id h1
  ·obtain⟨h1,h2,h3⟩:=Akl i b o PI;refine .inl ⟨_,o,?_,h3⟩;rw[Alz _ (List.mem_append.2 (.inr h1))];exact h2
  ·exact .inr hY
 have Va:∀(j id b o:Nat),(l++l')[j]?=some (some id)->β' id=some (b,o)->b<w.heap.size->∃i k o',bt i (k+1)=some (b,o'):=by
  intro j id b o hj hβ Bp;rcases h.ownd b ⟨id,o,F7 j id hj,hβ⟩ with⟨i,k,o',PI⟩|hge
  ·cases k with
   |zero=>
    obtain⟨h1,h2,h3⟩:=Akl i b o' PI;have:=h.inj id _ b o o' (F7 j id hj) h2 hβ h3;subst this;exact absurd h1 (hn3 _ (Km j _ hj))
   |succ k=>exact⟨i,k,o',PI⟩
  ·omega
 refine⟨h.fr.os,h.fr.tape,h.fr.output,h.fr.step,h.fr.rng,?_,?_,?_,?_⟩
 ·refine hv (z++z') _ _ (fun i hi=>List.mem_append.2 (.inl hi)) Aa1 hAO (fun id c b o hi hc hβ=>?_) _ 0 (fun j hj=>by rw[Nat.zero_add,Vh hj])
  rcases Nat.lt_or_ge b w.heap.size with Bp|hge
  ·obtain⟨k,Jo,p,h1,h2⟩:=h.stp id c b o hc hβ Bp;have h3:=hpi k p h1 h2;rw[Nat.zero_add,←Jo] at h3;obtain⟨j,hj⟩:=List.mem_iff_getElem?.1 hi;refine absurd h3 (hn3 id ?_);exact List.mem_append.2 (.inl (List.mem_filterMap.2 ⟨some id,hi,rfl⟩))
  ·exact hge
 ·refine Nj (z++z') _ (fun i hi=>List.mem_append.2 (.inr hi)) Aa1 (fun i hi Mj=>Rt i Mj (List.mem_append.2 (.inr hi))) hAO _ _ (fun j hj=>?_)
  rw[←NR,Vj]
 ·intro j b o hj;obtain⟨id,h1,h2⟩:=Hl j b o hj;refine⟨h.blt id b o (Cl (F7 j id h1)) h2,fun Bp=>⟨Va j id b o h1 h2 Bp,fun x hx=>?_⟩⟩
  cases Lm:s'.hp id with
  |none=>have:=F7 j id h1;rw[Lm] at this;exact this.elim
  |some bx=>
   have CI:=F7 j id h1;rw[Lm] at CI;cases bx with
   |st c=>
    obtain⟨k,Jo,p,h3,h4⟩:=h.stp id c b o Lm h2 Bp;have h5:=hpi k p h3 h4;rw[Nat.zero_add,←Jo] at h5;exact absurd h5 (hn3 _ (Km j _ h1))
   |ar fz c=>exact h.rngB id _ b o Lm CI h2 Bp x hx
   |mv=>exact CI.elim
 ·intro j j' b o o' hj Nk;obtain⟨id,h1,h2⟩:=Hl j b o hj;obtain⟨id',Tj,RP⟩:=Hl j' b o' Nk;have:=h.inj id id' b o o' (F7 j id h1) (F7 j' id' Tj) h2 RP;subst this;exact RN Bou h1 Tj
theorem TD {G:Glo}(J1:NoNG P)(hm:P.follows .mixedOrders=true){C:Gt}{fu:Nat}{call:Ai}(Dr:∀f args res,call f args=some res->Do G P f args res){f:FuncId}{fn:Func}{c:Code}(hf:P.funcs[f]?=some fn) (hb:fn.body=some c)
  {args:List PV} {res:A2} (hk:Aql C P fu call f fn c args=some res):Do G P f args res:=by
 refine⟨⟨fn,hf,by rw[hb];rfl⟩,fun w Y bt us U0 hG hGY=>?_⟩
 unfold Aql at hk;obtain⟨tms,bs,Dw,Lx⟩:=YG U0 hk;obtain⟨Fh,Ex⟩:=Aj Dw;simp only[Bool.and_eq_true] at Fh
 have Em:us.length<=fn.ntmps:=by
  rw[←U0.args.len];exact Nat.le_of_ble_eq_true Fh.1
 obtain⟨h8,β0,hs⟩:=Lx Fh.2 Em;refine calls_of_wp hf hb ?_;have hE:QR P G w (TP bt args h8):=⟨J1,fun w' hfr=>G.stable w w' (fun b hb Bp=>hfr.step.keep b Bp (hGY b hb).2) hG,hGY⟩
 refine VB hE Dr hm c hs Ex (fun s' a' w' β' hr h=>HN U0 hr h) (fun id s' a' w' β' hr h=>by cases hr) (fun s' a' w' β' hr h=>HN U0 hr h)
def ExtOk (G:Glo)(P:Program)(C:Gt):Prop:=∀f g args res,C.ext f=some g->g args=some res->Do G P f args res
theorem S8 {G:Glo}(J1:NoNG P)(hm:P.follows .mixedOrders=true){C:Gt}(hx:ExtOk G P C){fu:Nat}:∀(d:Nat)(f:FuncId)(args:List PV)(res:A2),Ag C P fu d f args=some res->Do G P f args res
 |0,_,_,_,h=>by cases h
 |d+1,f,args,res,h=>by
  unfold Ag at h;split at h
  ·rename_i g hg;exact hx f g args res hg h
  ·split at h
   ·cases h
   ·rename_i fn hf;split at h
    ·cases h
    ·rename_i c hb;exact TD J1 hm (S8 J1 hm hx d) hf hb h
end
open Go.ChangeShapes Go.WideShapes Go.ChangeAt Go.RowKit Go.Deep
def KS (P:Program):List Field->Nat->Nat->Bool
 |[],i,n=>Nat.beq i n
 |f::r,i,n=>Nat.beq f.offset i&&KS P r (i+P.cellsOf f.type) n
def Ma (P:Program):Nat->TypeId->Bool
 |0,_=>false
 |d+1,t=>
  match P.underlying t with
  |some .bool=>true
  |some (.int _)=>true
  |some .string=>true
  |some (.slice e)=>Ma P d e&&Nat.blt 0 (P.cellsOf e)
  |some (.struct fs)=>KS P fs.toList 0 (P.cellsOf t)&&fs.toList.all fun f=>Ma P d f.type
  |some (.array n e)=>Nat.beq (P.cellsOf t) (n*P.cellsOf e)&&Ma P d e
  |_=>false
def WT (P:Program):Nat->TypeId->List PV->Prop
 |0,_,_=>False
 |d+1,t,ps=>
  match P.underlying t with
  |some .bool=>∃b,ps=[.sc (.bool b)]
  |some (.int k)=>∃n,ps=[.sc (.int k n)]∧(Lit.int k n).wf=true
  |some .string=>∃s:ByteArray,ps=[.sc (.string s)]∧s.size<=maxLen
  |some (.slice e)=>∃rows:List (List PV),ps=[.lst false (P.cellsOf e) rows.length rows.flatten]∧rows.length<=maxLen∧∀r∈rows,r.length=P.cellsOf e∧WT P d e r
  |some (.struct fs)=>∃rows:List (List PV),ps=rows.flatten∧Ba (fun f r=>WT P d f.type r) fs.toList rows
  |some (.array n e)=>∃rows:List (List PV),ps=rows.flatten∧rows.length=n∧∀r∈rows,r.length=P.cellsOf e∧WT P d e r
  |_=>False
def WTv (P:Program)(t:TypeId)(p:PV):Prop:=
 match Bv P t with
 |true=>∃ps,p=.agg ps∧WT P 12 t ps
 |false=>WT P 12 t [p]
section
variable {P:Program} {d:Nat} {t e:TypeId} {ps:List PV}
theorem Aia (hu:P.underlying t=some .bool):WT P (d+1) t ps↔∃b,ps=[.sc (.bool b)]:=by
 show (match P.underlying t with|some .bool=>_|some (.int k)=>_|some .string=>_|some (.slice e)=>_|some (.struct fs)=>_|some (.array n e)=>_|_=>_)↔_
 rw[hu]
theorem Acq {k:IntKind}(hu:P.underlying t=some (.int k)):WT P (d+1) t ps↔∃n,ps=[.sc (.int k n)]∧(Lit.int k n).wf=true:=by
 show (match P.underlying t with|some .bool=>_|some (.int k)=>_|some .string=>_|some (.slice e)=>_|some (.struct fs)=>_|some (.array n e)=>_|_=>_)↔_
 rw[hu]
theorem Aao (hu:P.underlying t=some .string):WT P (d+1) t ps↔∃s:ByteArray,ps=[.sc (.string s)]∧s.size<=maxLen:=by
 show (match P.underlying t with|some .bool=>_|some (.int k)=>_|some .string=>_|some (.slice e)=>_|some (.struct fs)=>_|some (.array n e)=>_|_=>_)↔_
 rw[hu]
theorem QP (hu:P.underlying t=some (.slice e)):WT P (d+1) t ps↔∃rows:List (List PV),ps=[.lst false (P.cellsOf e) rows.length rows.flatten]∧rows.length<=maxLen∧∀r∈rows,r.length=P.cellsOf e∧WT P d e r:=by
 show (match P.underlying t with|some .bool=>_|some (.int k)=>_|some .string=>_|some (.slice e)=>_|some (.struct fs)=>_|some (.array n e)=>_|_=>_)↔_
 rw[hu]
theorem ZT {fs:Array Field}(hu:P.underlying t=some (.struct fs)):WT P (d+1) t ps↔∃rows:List (List PV),ps=rows.flatten∧Ba (fun f r=>WT P d f.type r) fs.toList rows:=by
 show (match P.underlying t with|some .bool=>_|some (.int k)=>_|some .string=>_|some (.slice e)=>_|some (.struct fs)=>_|some (.array n e)=>_|_=>_)↔_
 rw[hu]
theorem Agt {n:Nat}(hu:P.underlying t=some (.array n e)):WT P (d+1) t ps↔∃rows:List (List PV),ps=rows.flatten∧rows.length=n∧∀r∈rows,r.length=P.cellsOf e∧WT P d e r:=by
 show (match P.underlying t with|some .bool=>_|some (.int k)=>_|some .string=>_|some (.slice e)=>_|some (.struct fs)=>_|some (.array n e)=>_|_=>_)↔_
 rw[hu]
end
inductive Ki where
 |bool
 |int (k:IntKind)
 |str
 |sl (e:TypeId)
 |st (ts:List TypeId)
 |ar (n:Nat) (e:TypeId)
 |no
def Qy (P:Program)(t:TypeId):Ki:=
 match P.underlying t with
 |some .bool=>.bool
 |some (.int k)=>.int k
 |some .string=>.str
 |some (.slice e)=>.sl e
 |some (.struct fs)=>.st (fs.toList.map (·.type))
 |some (.array n e)=>.ar n e
 |_=>.no
section
variable {P:Program} {d:Nat} {t e:TypeId} {ps:List PV} {p:PV}
theorem Ba.cons_inv {α β:Type}{R:α->β->Prop}{a:α}{zs:List α}:∀{rs:List β},Ba R (a::zs) rs->∃r rs',rs=r::rs'∧R a r∧Ba R zs rs'
 |[],h=>h.elim
 |r::rs,h=>⟨r,rs,rfl,h.1,h.2⟩
theorem Ba.nil_inv {α β:Type}{R:α->β->Prop}:∀{rs:List β},Ba R ([]:List α) rs->rs=[]
 |[],_=>rfl
 |_::_,h=>h.elim
theorem Ahb {k:IntKind}(hk:Qy P t=.int k)(h:WT P d t ps):∃n,ps=[.sc (.int k n)]∧(Lit.int k n).wf=true:=by
 cases d with
 |zero=>exact h.elim
 |succ d=>
 unfold Qy at hk;split at hk<;>first|cases hk|skip
 rename_i hu;exact (Acq hu).1 h
theorem A7s (hk:Qy P t=.sl e)(h:WT P d t ps):∃rows:List (List PV),ps=[.lst false (P.cellsOf e) rows.length rows.flatten]∧rows.length<=maxLen∧∀r∈rows,r.length=P.cellsOf e∧WT P (d-1) e r:=by
 cases d with
 |zero=>exact h.elim
 |succ d=>
 rw[Nat.add_sub_cancel];unfold Qy at hk;split at hk<;>first|cases hk|skip
 rename_i hu;exact (QP hu).1 h
theorem XS (hk:Bv P t=false)(h:WTv P t p):WT P 12 t [p]:=by
 unfold WTv at h;rw[hk] at h;exact h
theorem Aj5 {k:IntKind}(ha:Bv P t=false)(hk:Qy P t=.int k)(h:WTv P t p):∃n,p=.sc (.int k n)∧(Lit.int k n).wf=true:=by
 obtain⟨b,e,h⟩:=Ahb hk (XS ha h);exact⟨b,by injection e,h⟩
theorem Zp {α:Type}(f:α->List PV)(Q:α->Prop):∀{rows:List (List PV)},(∀r∈rows,∃x,r=f x∧Q x)->∃xs:List α,rows.flatten=xs.flatMap f∧rows.length=xs.length∧∀x∈xs,Q x
 |[],_=>⟨[],rfl,rfl,by simp⟩
 |r::rows,h=>by
  obtain⟨x,h1,h2⟩:=h r (by simp)
  obtain⟨xs,h3,h4,h5⟩:=Zp (rows:=rows) f Q fun r hr=>h r (by simp[hr])
  refine⟨x::xs,by simp[h1,h3],by simp[h4],fun y hy=>?_⟩
  rcases List.mem_cons.1 hy with rfl|hy
  ·exact h2
  ·exact h5 y hy
end
abbrev No:Nat->Prop:=fun _=>False
section
variable {H:Type} {enc:TypeId × Value->H} {P:Program} {w:World} {base:Nat} {held:Bool}
theorem Ba.flat {α β:Type}{R:α->β->Prop}:∀{l:List Nat}{f:Nat->List α}{g:Nat->List β},(∀i∈l,Ba R (f i) (g i))->Ba R (l.map f).flatten (l.map g).flatten
 |[],_,_,_=>trivial
 |i::l,f,g,h=>by
  simp only[List.map_cons,List.flatten_cons];exact (h i (by simp)).app (Ba.flat fun j hj=>h j (by simp[hj]))
theorem Aat {a:Addr}{v:Value}(h:w.cell? a=some v):a.spot=none∧a.block<w.heap.size:=by
 unfold World.cell? at h;split at h
 ·rename_i c t f e;refine⟨?_,?_⟩
  ·cases hs:a.spot with
   |none=>rfl
   |some x=>rw[hs] at h;simp at h
  ·rcases Nat.lt_or_ge a.block w.heap.size with h1|h1
   ·exact h1
   ·rw[Array.getElem?_eq_none h1] at e;cases e
 ·cases h
theorem ES {α:Type}{g:Nat->List α}{es:Nat}:∀{n:Nat},(∀i,i<n->(g i).length=es)->((List.range n).map g).flatten.length=n*es
 |0,_=>by simp
 |n+1,h=>by
  rw[List.range_succ,List.map_append,List.flatten_append,List.length_append,ES (fun i hi=>h i (by omega))]
  simp[h n (by omega),Nat.succ_mul]
theorem DN {a:Addr}{g:Nat->List Value}{es:Nat}:∀{n:Nat},(∀i,i<n->(g i).length=es)->(∀i,i<n->∀k,k<es->w.cell? (a.add (i*es+k))=(g i)[k]?) ->
  ∀j,j<n*es->w.cell? (a.add j)=(((List.range n).map g).flatten)[j]?
 |0,_,_,j,hj=>by omega
 |n+1,hl,hc,j,hj=>by
  have IU:=ES (fun i (hi:i<n)=>hl i (by omega))
  rw[List.range_succ,List.map_append,List.flatten_append,List.getElem?_append,IU];rw[Nat.succ_mul] at hj;split
  ·rename_i h1;exact DN (fun i hi=>hl i (by omega)) (fun i hi=>hc i (by omega)) j h1
  ·rename_i h1;have:=hc n (by omega) (j-n*es) (by omega)
   rw[show n*es+(j-n*es)=j by omega] at this
   simpa using this
abbrev TR (w:World)(c:PV)(v:Value):Prop:=(M0 c∧As w No c v)∧v.oneCell'=true
theorem Zj {d:Nat}{cs:List Value}{n:Nat}(hn:cs.length=n):∀(l:List Field)(i:Nat),KS P l i n=true ->
  (∀f∈l,∃ps,WT P d f.type ps∧Ba (TR w) ps ((cs.drop f.offset).take (P.cellsOf f.type)))->∃rows:List (List PV),Ba (fun f r=>WT P d f.type r) l rows∧Ba (TR w) rows.flatten (cs.drop i)
 |[],i,ho,_=>by
  have:=Nat.eq_of_beq_eq_true ho;refine⟨[],trivial,?_⟩;rw[List.drop_of_length_le (by omega)]
  trivial
 |f::l,i,ho,h=>by
  simp only[KS,Bool.and_eq_true] at ho;have ho1:=Nat.eq_of_beq_eq_true ho.1;obtain⟨ps,h1,h2⟩:=h f (by simp)
  obtain⟨rows,h3,h4⟩:=Zj hn l _ ho.2 fun g hg=>h g (by simp[hg])
  refine⟨ps::rows,⟨h1,h3⟩,?_⟩;rw[ho1] at h2;have:cs.drop i=(cs.drop i).take (P.cellsOf f.type)++cs.drop (i+P.cellsOf f.type):=by rw[←List.drop_drop];exact (List.take_append_drop _ _).symm
  rw[this,List.flatten_cons];exact h2.app h4
theorem EV {d:Nat}{e:TypeId}{cs:List Value}{k:Nat}:∀(n:Nat),n*k<=cs.length ->
  (∀i,i<n->∃ps,(ps.length=k∧WT P d e ps)∧Ba (TR w) ps ((cs.drop (i*k)).take k))->∃rows:List (List PV),rows.length=n∧(∀r∈rows,r.length=k∧WT P d e r)∧Ba (TR w) rows.flatten (cs.take (n*k))
 |0,_,_=>⟨[],rfl,by simp,by simp[Ba]⟩
 |n+1,hl,h=>by
  rw[Nat.succ_mul] at hl;obtain⟨rows,h1,h2,h3⟩:=EV n (by omega) fun i hi=>h i (by omega)
  obtain⟨ps,h4,h5⟩:=h n (by omega)
  refine⟨rows++[ps],by simp[h1],?_,?_⟩
  ·intro r hr;rcases List.mem_append.1 hr with hr|hr
   ·exact h2 r hr
   ·rw[List.mem_singleton.1 hr];exact h4
  ·rw[List.flatten_append,Nat.succ_mul,List.take_add];refine h3.app ?_
   simpa using h5
theorem Tt:∀(d:Nat)(t:TypeId),Ma P d t=true->∀(fuel:Nat)(cs:List Value)(x:DataW H × List MemPlace),DataW.trod enc P w base (fun _=>true) held fuel t cs=some x ->
  ∃ps,WT P d t ps∧Ba (TR w) ps cs
 |0,_,h,_,_,_,_=>by cases h
 |d+1,t,hp,fuel,cs,x,h=>by
  unfold Ma at hp;split at hp
  ·rename_i hu;obtain⟨b,rfl,_⟩:=DataW.trod_bool hu h;simp only[Aia hu];exact⟨[.sc (.bool b)],⟨b,rfl⟩,⟨⟨trivial,As.sc _⟩,rfl⟩,trivial⟩
  ·rename_i k hu;obtain⟨n,rfl,_,hw⟩:=DataW.trod_int hu h;simp only[Acq hu];exact⟨[.sc (.int k n)],⟨n,rfl,hw⟩,⟨⟨trivial,As.sc _⟩,rfl⟩,trivial⟩
  ·rename_i hu;obtain⟨s,rfl,_,hw⟩:=DataW.trod_string hu h;simp only[Aao hu];exact⟨[.sc (.string s)],⟨s,rfl,hw⟩,⟨⟨trivial,As.sc _⟩,rfl⟩,trivial⟩
  ·rename_i e hu;simp only[Bool.and_eq_true] at hp;have Vy:0<P.cellsOf e:=Nat.lt_of_succ_le (Nat.le_of_ble_eq_true hp.2);simp only[QP hu];rcases open_slice hu h with⟨rfl,_⟩|⟨a,len,cap,m,n,D,Pl,rfl,_,hl,hm,hmm,_,hi⟩
   ·exact⟨[.lst false (P.cellsOf e) 0 []],⟨[],by simp,by simp,by simp⟩,⟨⟨trivial,As.lnil _ _⟩,rfl⟩,trivial⟩
   ·simp only[if_true] at hmm;subst hmm
    have FI:∀i,i<len->∃q:List PV × List Value,(q.2.length=P.cellsOf e∧(∀k,k<P.cellsOf e->w.cell? (a.add (i*P.cellsOf e+k))=q.2[k]?))∧WT P d e q.1∧Ba (TR w) q.1 q.2:=by
     intro i Bp;obtain⟨cs',hc,ht⟩:=hi i (by omega)
     obtain⟨_,N1,hat⟩:=World.cells?_some hc;obtain⟨ps,h1,h2⟩:=Tt d e hp.1 _ _ _ ht;exact⟨(ps,cs'),⟨N1,fun k hk=>by rw[←Pv.add_add];exact hat k hk⟩,h1,h2⟩
    obtain⟨F,hF⟩:=choose_lt FI;refine⟨[.lst false (P.cellsOf e) len ((List.range len).map fun i=>(F i).1).flatten],⟨(List.range len).map fun i=>(F i).1,by simp,by simp;omega,?_⟩,⟨⟨trivial,?_⟩,rfl⟩,trivial⟩
    ·intro r hr;obtain⟨i,hi1,rfl⟩:=List.mem_map.1 hr;have hi2:=List.mem_range.1 hi1;exact⟨by rw[(hF i hi2).2.2.len];exact (hF i hi2).1.1,(hF i hi2).2.1⟩
    ·rcases Nat.eq_zero_or_pos len with h0|h0
     ·subst h0;exact As.lemp _ _ _
     ·have L7:Ba (TR w) ((List.range len).map fun i=>(F i).1).flatten ((List.range len).map fun i=>(F i).2).flatten:=Ba.flat fun i hi=>(hF i (List.mem_range.1 hi)).2.2
      have hcell:=DN (w:=w) (a:=a) (g:=fun i=>(F i).2) (fun i hi=>(hF i hi).1.1) (fun i hi=>(hF i hi).1.2)
      have Em:=ES (g:=fun i=>(F i).2) (fun i (hi:i<len)=>(hF i hi).1.1)
      have h00:w.cell? a≠none:=by
       have:=hcell 0 (Nat.mul_pos h0 Vy);rw[show a.add 0=a by unfold Addr.add;simp] at this
       rw[this,List.getElem?_eq_getElem (by rw[Em];exact Nat.mul_pos h0 Vy)]
       simp
      obtain⟨v0,hv0⟩:=Option.ne_none_iff_exists'.1 h00;obtain⟨hs,hb⟩:=Aat hv0
      have key:∀j c,(((List.range len).map fun i=>(F i).1).flatten)[j]?=some c->∃v,w.cell? (a.add j)=some v∧TR w c v:=by
       intro j c hj
       have hlj:j<len*P.cellsOf e:=by
        rw[←Em,←L7.len];rcases Nat.lt_or_ge j (((List.range len).map fun i=>(F i).1).flatten).length with h1|h1
        ·exact h1
        ·rw[List.getElem?_eq_none h1] at hj;cases hj
       have h1:=hcell j hlj;rw[List.getElem?_eq_getElem (by rw[Em];exact hlj)] at h1
       exact⟨_,h1,L7.at_ hj (List.getElem?_eq_getElem (by rw[Em];exact hlj))⟩
      refine As.lst _ _ _ a _ (fun j=>(w.cell? (a.add j)).getD undef) hs hb (fun h=>h) hl (fun j c hj=>?_) (fun j c hj=>?_) (fun j c hj=>?_)
      ·obtain⟨v,hv,_⟩:=key j c hj;rw[hv];rfl
      ·obtain⟨v,hv,ht⟩:=key j c hj;rw[hv];exact ht.2
      ·obtain⟨v,hv,ht⟩:=key j c hj;rw[hv];exact ht.1.2
  ·rename_i fs hu;simp only[Bool.and_eq_true] at hp;simp only[ZT hu];obtain⟨xs,n,_,_,Em,hxl,hf⟩:=DataW.trod_struct hu h
   obtain⟨rows,h1,h2⟩:=Zj (P:=P) (w:=w) (d:=d) Em fs.toList 0 hp.1 fun f hf'=>by
    obtain⟨i,hi⟩:=List.mem_iff_getElem?.1 hf';have FI:fs[i]?=some f:=by simpa using hi
    have Bp:i<fs.size:=(Array.getElem?_eq_some_iff.1 FI).1;have h3:=hf i f FI;rw[List.getElem?_eq_getElem (by omega)] at h3
    exact Tt d f.type (List.all_eq_true.1 hp.2 f hf') _ _ _ h3
   exact⟨_,⟨rows,rfl,h1⟩,by simpa using h2⟩
  ·rename_i n e hu;simp only[Bool.and_eq_true] at hp;simp only[Agt hu];obtain⟨xs,m,_,_,Em,hxl,hf⟩:=DataW.trod_array hu h;have L8:=Nat.eq_of_beq_eq_true hp.1
   obtain⟨rows,h1,h2,h3⟩:=EV (P:=P) (w:=w) (d:=d) (e:=e) (cs:=cs) (k:=P.cellsOf e) n (by omega) fun i hi=>by
    have h3:=hf i hi;rw[List.getElem?_eq_getElem (by omega)] at h3
    obtain⟨ps,h4,h5⟩:=Tt d e hp.2 _ _ _ h3;refine⟨ps,⟨?_,h4⟩,h5⟩;rw[h5.len,List.length_take,List.length_drop,Em,L8];have:(i+1)*P.cellsOf e<=n*P.cellsOf e:=Nat.mul_le_mul_right _ hi;rw[Nat.succ_mul] at this;omega
   refine⟨_,⟨rows,rfl,h1,h2⟩,?_⟩;rw[List.take_of_length_le (by omega)] at h3
   exact h3
  ·cases hp
theorem Afx {r:Reach}{b0:Nat}{t:TypeId}{v:Value}{dd:DataW H}{p:List MemPlace}(hp:Ma P 12 t=true)(hv:Value.okWide P w r b0 t v)(h:DataW.Trod enc P w base (fun _=>true) held t v dd p):
  ∃q,WTv P t q∧Ke w No q v:=by
 obtain⟨fuel,hf⟩:=h;obtain⟨ps,h1,h2⟩:=Tt 12 t hp fuel _ _ hf;unfold WTv Bv
 have two:∀{cs:Array Value},v=.agg cs->∃q,(∃ps,q=.agg ps∧WT P 12 t ps)∧Ke w No q v:=by
  intro cs e;subst e;exact⟨.agg ps,⟨ps,rfl,h1⟩,cs.toList,by simp,h2.mono fun c v h=>h.1⟩
 have one:v.cells.toList=[v]->∃q,WT P 12 t [q]∧Ke w No q v:=by
  intro e;rw[e] at h2
  match ps,h2 with
  |[q],h2=>
   refine⟨q,h1,?_⟩;have h3:=h2.1.1;cases q<;>first|exact h3|exact h3.1.elim
  |[],h2=>exact h2.elim
  |_::_::_,h2=>exact h2.2.elim
 unfold Ma at hp;split at hp
 ·rename_i hu;simp only[hu];obtain⟨b,rfl,_⟩:=open_bool hu hv ⟨fuel,hf⟩;exact one rfl
 ·rename_i k hu;simp only[hu];obtain⟨b,rfl,_⟩:=open_int hu hv ⟨fuel,hf⟩;exact one rfl
 ·rename_i hu;simp only[hu];obtain⟨b,rfl,_⟩:=ChangeMaps.open_string hu hv ⟨fuel,hf⟩;exact one rfl
 ·rename_i e hu;simp only[hu];obtain⟨a,len,cap,rfl⟩:=okWide_slice hu hv;exact one rfl
 ·rename_i fs hu;simp only[hu];obtain⟨cs,rfl,_⟩:=okWide_struct hu hv;exact two rfl
 ·rename_i n e hu;simp only[hu];unfold Value.okWide at hv;simp only[hu] at hv;obtain⟨cs,rfl,_⟩:=hv;exact two rfl
 ·cases hp
theorem IV:∀{ts:List TypeId}{vs:List Value}{ds:List (DataW H)} {p:List MemPlace}{r:Reach}{b0:Nat},(ts.all fun t=>Ma P 12 t)=true->(∀(j:Nat) t v,ts[j]?=some t->vs[j]?=some v->Value.okWide P w r b0 t v) ->
  DataW.TrodAll enc P w base (fun _=>true) held ts vs ds p->∃qs,Ba (WTv P) ts qs∧Ba (Ke w No) qs vs
 |[],[],[],_,_,_,_,_,_=>⟨[],trivial,trivial⟩
 |t::ts,v::vs,d::ds,_,r,b0,hp,hv,⟨p,q,h1,h2,_⟩=>by
  simp only[List.all_cons,Bool.and_eq_true] at hp;obtain⟨x,h3,h4⟩:=Afx hp.1 (hv 0 t v rfl rfl) h1;obtain⟨xs,h5,h6⟩:=IV hp.2 (fun j t v ht Nj=>hv (j+1) t v ht Nj) h2
  exact⟨x::xs,⟨h3,h5⟩,h4,h6⟩
 |[],_::_,_,_,_,_,_,_,h=>by cases h
 |[],[],_::_,_,_,_,_,_,h=>by cases h
 |_::_,[],_,_,_,_,_,_,h=>by cases h
 |_::_,_::_,[],_,_,_,_,_,h=>by cases h
theorem Uu (hl:laidOutB P=true){W W':World}{sp:Nat->Bool}:∀{ts:List TypeId}{vs:List Value}{ds:List (DataW H)} {p:List MemPlace},(ts.all fun t=>P.readableRec t&&Nat.blt t P.types.size)=true ->
  DataW.TrodAll enc P W 0 (fun _=>true) true ts vs ds p->(∀x∈p,W.sameAt W' x)->(∀x∈p,sp x.block=true)->DataW.TrodAll enc P W' 0 sp true ts vs ds p
 |[],[],[],_,_,h,_,_=>h
 |t::ts,v::vs,d::ds,_,hr,⟨p,q,h1,h2,e⟩,hs,hsp=>by
  simp only[List.all_cons,Bool.and_eq_true] at hr;refine⟨p,q,WideElems.Trod_stays hl hr.1.1 (Nat.lt_of_succ_le (Nat.le_of_ble_eq_true hr.1.2)) h1 (fun x hx=>hs x ?_) (fun x hx=>hsp x ?_),Uu hl hr.2 h2 (fun x hx=>hs x ?_) (fun x hx=>hsp x ?_),e⟩
  all_goals rw[e,List.mem_append]
  ·exact .inl hx
  ·exact .inl hx
  ·exact .inr hx
  ·exact .inr hx
 |[],_::_,_,_,_,h,_,_=>by cases h
 |[],[],_::_,_,_,h,_,_=>by cases h
 |_::_,[],_,_,_,h,_,_=>by cases h
 |_::_,_::_,[],_,_,h,_,_=>by cases h
theorem GF {f:Func}{s:ChangeSpec}{apart fresh KV again:Bool}{W W':World}{args:Array Value}{v:Value}{ds gs:List (DataW H)} {before pa pv:List MemPlace}
  (hW:DataW.Whole enc P f.params.toList s.vars apart W args.toList ds gs before)
  (A32:∀(b:Nat)(sp:Nat->Bool)(hd:Bool),DataW.TrodAll enc P W' b sp hd f.resultTypes.toList (v.resultList f.resultTypes.size) (s.fn H (ds++gs)).results [])
  (Eg:∀sp:Nat->Bool,(∀p∈before,sp p.block=true)->DataW.TrodAll enc P W' 0 sp true f.params.toList args.toList (s.fn H (ds++gs)).args pa)
  (PC:∀sp:Nat->Bool,(∀p∈before,sp p.block=true)->DataW.TrodVars enc P W' sp s.vars (s.fn H (ds++gs)).vars pv)
  (FK:before=pa++pv)(hb:Below W.heap.size W W')
  (Kd:∀(j:Nat)(t:TypeId)(r:Value),f.resultTypes[j]?=some t->(v.resultList f.resultTypes.size)[j]?=some r->Value.okWide P W' .any 0 t r):
  s.post enc P f apart fresh KV again W args v W':=by
 have Bp:∀p∈before,p.block<W.heap.size:=fun p hp=>hW.lt p hp
 have hold:∀p∈before,(fun b=>decide (b<W.heap.size)) p.block=true:=fun p hp=>by simpa using Bp p hp
 refine⟨ds,gs,before,[],pa,pv,hW,A32 _ _ _,Eg _ hold,PC _ hold,World.keptBut_mono (fun p hp=>⟨hp,?_⟩) (hb.frame (· ∈ before)),fun _=>?_⟩
 ·rw[FK,List.mem_append] at hp;exact Or.inr hp
 ·obtain⟨_,_,_,_,_,hz,hn⟩:=hW;refine⟨Kd,_,_,([]++pa)++pv,⟨[]++pa,pv,trodAll_append (Eg _ (fun _ _=>rfl)) (A32 _ _ _),PC _ (fun _ _=>rfl),rfl,?_,?_⟩,?_⟩
  ·intro b off hp;have U0:MemPlace.cell b off∈before:=by rw[FK];simpa using hp
   rw[hb.frozen (Bp _ U0)];exact hz b off U0
  ·intro ha;have:=hn ha;rw[FK] at this
   simpa using this
  ·intro p hp _;rw[FK]
   simpa using hp
theorem law_contract {G:Glo}{C:Gt}(hx:ExtOk G P C)(J1:NoNG P)(hm:P.follows .mixedOrders=true)(hl:laidOutB P=true){f:FuncId}{fn:Func}{s:ChangeSpec}{tb:TypeId}(hfn:P.funcs[f]?=some fn)
  (PC:s.vars=[]) (A3w:∀ds:List (DataW H),ds.length=fn.params.size->s.fn H ds={ results:=[.lit (.bool true)],args:=ds }) (Ap8:(fn.params.toList.all fun t=>Ma P 12 t)=true)
  (A2o:(fn.params.toList.all fun t=>P.readableRec t&&Nat.blt t P.types.size)=true) (hrt:fn.resultTypes = #[tb]) (hub:P.underlying tb=some .bool)
  {apart fresh KV again:Bool} (W:World) (base:Nat) (args:Array Value) (ds gs:List (DataW H)) (before:List MemPlace)
  (hval:∀(j:Nat) t v,fn.params[j]?=some t->args[j]?=some v->Value.okWide P W .any base t v)
  (hW:DataW.Whole enc P fn.params.toList s.vars apart W args.toList ds gs before)
  (Brg:∀qs:List PV,Ba (WTv P) fn.params.toList qs->∃fu d,Ag C P fu d f qs=some ⟨[.sc (.bool true)],[]⟩) (hG:G.ok W)(hGY:∀b,G.bl b->b<W.heap.size):
  Calls P f args W fun e W'=>∃v,e=.returned v∧s.post enc P fn apart fresh KV again W args v W':=by
 have hW':=hW;obtain⟨p,q,hA,hV,rfl,Rt,hnd⟩:=hW;rw[PC] at hV;obtain⟨rfl,rfl⟩:=trodVars_none hV;obtain⟨qs,h1,h2⟩:=IV Ap8 (fun j t v ht hv=>hval j t v (by simpa using ht) (by simpa using hv)) hA
 obtain⟨fu,d,hc⟩:=Brg qs h1;have hS:=(S8 J1 hm hx d f qs _ hc).2 W No Nv args.toList (CE (fun b h=>h.elim) h2) hG (fun b hb=>⟨hGY b hb,V5 b⟩)
 rw[Array.toArray_toList] at hS;refine hS.mono fun e W' ⟨vs,own,he,ho⟩=>?_
 have hv:=ho.vals
 have Fq:vs=[.bool true]:=by
  match vs,hv with
  |[u],hv=>
   have:As W' _ (.sc (.bool true)) u:=hv.1;rw[this.val]
  |[],hv=>exact hv.elim
  |_::_::_,hv=>exact hv.2.elim
 subst Fq;subst he;have hb:Below W.heap.size W W':=⟨ho.os,ho.tape,ho.output,ho.ext.size,fun k hk=>ho.ext.keep k hk (V5 k)⟩
 have Bp:∀x∈p,x.block<W.heap.size:=fun x hx=>hW'.lt x (by simpa using hx)
 have Em:ds.length=fn.params.size:=by
  have:∀{ts:List TypeId} {vs:List Value} {ds:List (DataW H)} {p:List MemPlace},DataW.TrodAll enc P W 0 (fun _=>true) true ts vs ds p->ds.length=ts.length:=by
   intro ts
   induction ts with
   |nil=>intro vs ds p h;cases vs<;>cases ds<;>first|rfl|cases h
   |cons t ts ih=>
    intro vs ds p h;cases vs with
    |nil=>cases h
    |cons v vs=>
     cases ds with
     |nil=>cases h
     |cons d ds=>obtain⟨_,_,_,h2,_⟩:=h;simp[ih h2]
  simpa using this hA
 have hsp:=A3w (ds++[]) (by simpa using Em)
 refine⟨_,rfl,GF (pa:=p) (pv:=[]) hW' ?_ ?_ ?_ rfl hb ?_⟩
 ·intro b sp hd;rw[hsp,hrt];exact trodAll_mk1 (shut_bool hub _)
 ·intro sp Bs3;rw[hsp];simp only[List.append_nil];exact Uu hl A2o hA (fun x hx=>hb.same (Bp x hx)) (fun x hx=>Bs3 x (by simpa using hx))
 ·intro sp _;rw[hsp,PC];rfl
 ·exact ok_one hrt rfl (okWide_bool_mk hub _)
end
end
section
open Go.Proofs.Try (prog)
set_option maxRecDepth 100000
theorem Ajh {d:Nat}{ps:List PV}{k:IntKind}{t e:TypeId}(hk:Qy prog t=.sl e)(hc:prog.cellsOf e=1)(he:Qy prog e=.int k)(h:WT prog d t ps):
  ∃l:List Int,ps=[.lst false 1 l.length (Am k l)]∧l.length<=maxLen∧∀n∈l,(Lit.int k n).wf=true:=by
 obtain⟨rows,rfl,hl,hr⟩:=A7s hk h;obtain⟨l,h1,h2,h3⟩:=Zp (Aqe k) (fun n=>(Lit.int k n).wf=true) fun r hrr=>Ahb he (hr r hrr).2
 refine⟨l,?_,by omega,h3⟩
 rw[h1,h2,hc]
theorem Af8 {p:PV}{k:IntKind}{t e:TypeId}(ha:Bv prog t=false)(hk:Qy prog t=.sl e)(hc:prog.cellsOf e=1)(he:Qy prog e=.int k)(h:WTv prog t p):
  ∃l:List Int,p=.lst false 1 l.length (Am k l)∧l.length<=maxLen∧∀n∈l,(Lit.int k n).wf=true:=by
 have h':=XS (P:=prog) (t:=t) (p:=p) ha h;obtain⟨l,h1,h2,h3⟩:=Ajh hk hc he h';exact⟨l,by injection h1,h2,h3⟩
end
section
open Go.IntKind (wrap)
theorem Rv:type_of% @Bool.not_true:=@Bool.not_true
theorem O0:type_of% @Bool.not_false:=@Bool.not_false
theorem Ch:type_of% @Nat.mul_one:=@Nat.mul_one
theorem Cn:type_of% @Nat.zero_add:=@Nat.zero_add
theorem Cm:type_of% @List.drop_zero.{0}:=@List.drop_zero
theorem G9:type_of% @List.take_of_length_le.{0}:=@List.take_of_length_le
theorem AV:type_of% @List.length_append.{0}:=@List.length_append
theorem Dh:type_of% @List.length_nil.{0}:=@List.length_nil
theorem TW:type_of% @List.length_cons.{0}:=@List.length_cons
theorem Rq:type_of% @Int.toNat_natCast:=@Int.toNat_natCast
theorem Mr:type_of% @if_neg.{1}:=@if_neg
theorem J8:type_of% @if_pos.{1}:=@if_pos
theorem Zzq:type_of% @List.nil_append.{0}:=@List.nil_append
theorem Zzv:type_of% @List.append_assoc.{0}:=@List.append_assoc
end
section
open Go.Proofs.Try (prog)
open Go.IntKind (wrap)
set_option maxRecDepth 100000
abbrev Lz:FuncId:=75
theorem Ug {xs:FuncId->Option (List PV->Option A2)} (fu d:Nat)(a0 a1:Int):Ag (CX xs) prog fu (d+1) Lz [.sc (.int .u64 a0),.sc (.int .i64 a1)]=(fun (call:Ai)=>Ab (wrap .u64 a1) fun x1=>Ab (Abi .u64 x1 63) fun x2=>An (decide (0<=x2))<|Ab (Jv .u64 a0 x2) fun x3=>Ab (wrap .u64 (64-x2)) fun x4=>An (decide (0<=x4))<|Ab (GN .u64 a0 x4) fun x5=>Ab (BH .u64 x3 x5) fun x6=>some (A2.mk [.sc (.int .u64 x6)] [])) (Ag (CX xs) prog fu d):=by kernel_rfl
abbrev I4:FuncId:=50
noncomputable def F6 (fu:Nat)(call:Ai)(Ap:Nat)(a0:List PV)(nn y0 y1:Nat)(y2:List PV)(y3 y4:Int)(y5:List PV):Option A2:=Ct CB prog fu call 50 Try.f50 (Bz Try.f50) [.lst false 1 Ap a0] [.r,.r,.l,.r,.l] nn ⟨lk [(3,(.view 3 1 0 y0)),(11,(.lst false 1 y1 y2)),(12,(.sc (.int .i64 y3))),(13,(.sc (.int .i64 y4)))],Fx [(3,(.ar false y5))]⟩
noncomputable def Hy (fu:Nat)(call:Ai)(Ap:Nat)(a0:List PV)(m0 nn y0:Nat)(y1:Int)(y2:Nat)(y3:List PV)(y4 y5 y6:Int)(y7:List PV):Option A2:=Ct CB prog fu call 50 Try.f50 (Bz Try.f50) [.lst false 1 Ap a0] [.r,.r,.l,.r,.l,.i m0,.r,.r,.l,.l,.r,.r,.l] nn ⟨lk [(3,(.view 3 1 0 y0)),(5,(.sc (.int .u64 y1))),(11,(.lst false 1 y2 y3)),(12,(.sc (.int .i64 y4))),(13,(.sc (.int .i64 y5))),(17,(.sc (.int .i64 y6)))],Fx [(3,(.ar false y7))]⟩
theorem Oh (fu:Nat)(call:Ai)(Ap:Nat)(a0:List PV)(nn y0 y1:Nat)(y2:List PV)(y3 y4:Int)(y5:List PV):F6 fu call Ap a0 (nn+1) y0 y1 y2 y3 y4 y5=(Bd (decide (y4<y3)) (An (decide (0<=y4)&&decide (y4<(↑y1:Int)))<|Ae .u64 (List.getD y2 (Int.toNat y4*1) .top) fun x2=>Hy fu call Ap a0 nn (fu) (y0) x2 (y1) (y2) (y3) (y4) 0 (y5)) (An (decide (y0*1<=y5.length))<|some (A2.mk [.own 1 y0 (List.take (y0*1) y5)] []))):=by kernel_rfl
theorem N6 (fu:Nat)(call:Ai)(Ap:Nat)(a0:List PV)(m0 nn y0:Nat)(y1:Int)(y2:Nat)(y3:List PV)(y4 y5 y6:Int)(y7:List PV):Hy fu call Ap a0 m0 (nn+1) y0 y1 y2 y3 y4 y5 y6 y7=(Bd (decide (y6<8)) (Ab (wrap .i64 (8*y6)) fun x3=>Ab (wrap .i64 (56-x3)) fun x4=>An (decide (0<=x4))<|Ab (GN .u64 y1 x4) fun x5=>Ab (wrap .u8 x5) fun x6=>An (decide (y0*1<=y7.length)&&true&&decide ((y0+1)*1<=1099511627776)&&decide (y0+1<=1099511627776))<|Ab (y0+1) fun x7=>Ab (List.take (y0*1) y7++[.sc (.int .u8 x6)]) fun x8=>Ab (wrap .i64 (y6+1)) fun x9=>Hy fu call Ap a0 m0 (nn) x7 (y1) (y2) (y3) (y4) (y5) x9 x8) (Ab (wrap .i64 (y5+1)) fun H5=>F6 fu call Ap a0 (m0) (y0) (y2) (y3) (y4) H5 (y7))):=by kernel_rfl
theorem CU {xs:FuncId->Option (List PV->Option A2)} (fu d Ap:Nat)(a0:List PV):Ag (CX xs) prog fu (d+1) I4 [.lst false 1 Ap a0]=(fun (call:Ai)=>Ab (wrap .i64 (8*(↑Ap:Int))) fun x1=>An (decide (0<=x1)&&decide (x1*1<=1099511627776)&&decide (x1<=1099511627776))<|F6 fu call Ap a0 (fu) 0 (Ap) (a0) ((↑Ap:Int)) 0 ([])) (Ag (CX xs) prog fu d):=by kernel_rfl
abbrev Rx:FuncId:=60
noncomputable def Hb (fu:Nat)(call:Ai)(Ap:Nat)(a0:List PV)(nn:Nat)(y0:Int)(y1:Nat)(y2:List PV)(y3 y4:Int):Option A2:=Ct CB prog fu call 60 Try.f60 (Bz Try.f60) [.lst false 1 Ap a0] [.r,.r,.l,.r,.l] nn ⟨lk [(3,(.sc (.int .u64 y0))),(6,(.lst false 1 y1 y2)),(7,(.sc (.int .i64 y3))),(8,(.sc (.int .i64 y4)))],Fx []⟩
theorem M9 (fu:Nat)(call:Ai)(Ap:Nat)(a0:List PV)(nn:Nat)(y0:Int)(y1:Nat)(y2:List PV)(y3 y4:Int):Hb fu call Ap a0 (nn+1) y0 y1 y2 y3 y4=(Bd (decide (y4<y3)) (An (decide (0<=y4)&&decide (y4<(↑y1:Int)))<|Ae .u8 (List.getD y2 (Int.toNat y4*1) .top) fun x1=>Ab (wrap .u64 x1) fun x2=>Ab (wrap .i64 (8*y4)) fun x3=>An (decide (0<=x3))<|Ab (Jv .u64 x2 x3) fun x4=>Ab (BH .u64 y0 x4) fun x5=>Ab (wrap .i64 (y4+1)) fun x6=>Hb fu call Ap a0 (nn) x5 (y1) (y2) (y3) x6) (some (A2.mk [.sc (.int .u64 y0)] []))):=by kernel_rfl
theorem BE {xs:FuncId->Option (List PV->Option A2)} (fu d Ap:Nat)(a0:List PV):Ag (CX xs) prog fu (d+1) Rx [.lst false 1 Ap a0]=(fun (call:Ai)=>Hb fu call Ap a0 (fu) 0 (Ap) (a0) ((↑Ap:Int)) 0) (Ag (CX xs) prog fu d):=by kernel_rfl
abbrev J9:FuncId:=61
noncomputable def Ei (fu:Nat)(call:Ai)(Di De:Int)(D9 G1 a1:Int)(nn:Nat)(y0 y1:Int)(y2 y3:Int)(y4 y5:Int):Option A2:=Ct CB prog fu call 61 Try.f61 (Bz Try.f61) [.pbox [.sc (.int .u64 Di),.sc (.int .u64 De),.sc (.int .u64 D9),.sc (.int .u64 G1)],.sc (.int .i64 a1)] [.r,.l] nn ⟨lk [(0,(.ptr 288000 0)),(4,(.sc (.int .i64 y0))),(5,(.sc (.int .i64 y1)))],Fx [(288000,(.st [(.sc (.int .u64 y2)),(.sc (.int .u64 y3)),(.sc (.int .u64 y4)),(.sc (.int .u64 y5))]))]⟩
theorem Hv (fu:Nat)(call:Ai)(Di De:Int)(D9 G1 a1:Int)(nn:Nat)(y0 y1:Int)(y2 y3:Int)(y4 y5:Int):Ei fu call Di De D9 G1 a1 (nn+1) y0 y1 y2 y3 y4 y5=(Bd (decide (y1<y0)) (Ab (wrap .u64 (y2+y3)) fun x1=>Af (call 75 [.sc (.int .u64 y3),.sc (.int .i64 13)]) fun x2 x3=>Ac x3<|Aa x2 fun x4 x5=>Ae .u64 x4 fun x6=>Ac x5<|Ab (Dv .u64 x6 x1) fun x7=>Af (call 75 [.sc (.int .u64 x1),.sc (.int .i64 32)]) fun x8 x9=>Ac x9<|Aa x8 fun H5 Ib=>Ae .u64 H5 fun H6=>Ac Ib<|Ab (wrap .u64 (y4+y5)) fun L9=>Af (call 75 [.sc (.int .u64 y5),.sc (.int .i64 16)]) fun K7 K8=>Ac K8<|Aa K7 fun Nl Pz=>Ae .u64 Nl fun M3=>Ac Pz<|Ab (Dv .u64 M3 L9) fun Hx=>Ab (wrap .u64 (H6+Hx)) fun Mt=>Af (call 75 [.sc (.int .u64 Hx),.sc (.int .i64 21)]) fun Mm Qg=>Ac Qg<|Aa Mm fun Ro P3=>Ae .u64 Ro fun Y5=>Ac P3<|Ab (Dv .u64 Y5 Mt) fun X7=>Ab (wrap .u64 (L9+x7)) fun Ub=>Af (call 75 [.sc (.int .u64 x7),.sc (.int .i64 17)]) fun FC Ul=>Ac Ul<|Aa FC fun O2 Sq=>Ae .u64 O2 fun Zq=>Ac Sq<|Ab (Dv .u64 Zq Ub) fun V2=>Af (call 75 [.sc (.int .u64 Ub),.sc (.int .i64 32)]) fun X3 DR=>Ac DR<|Aa X3 fun AJ Yt=>Ae .u64 AJ fun HE=>Ac Yt<|Ab (wrap .i64 (y1+1)) fun LY=>Ei fu call Di De D9 G1 a1 (nn) (y0) LY Mt V2 HE X7) (some (A2.mk [] [[.sc (.int .u64 y2),.sc (.int .u64 y3),.sc (.int .u64 y4),.sc (.int .u64 y5)]]))):=by kernel_rfl
theorem R7 {xs:FuncId->Option (List PV->Option A2)} (fu d:Nat)(Di De:Int)(D9 G1 a1:Int):Ag (CX xs) prog fu (d+1) J9 [.pbox [.sc (.int .u64 Di),.sc (.int .u64 De),.sc (.int .u64 D9),.sc (.int .u64 G1)],.sc (.int .i64 a1)]=(fun (call:Ai)=>Ei fu call Di De D9 G1 a1 (fu) (a1) 0 (Di) (De) (D9) (G1)) (Ag (CX xs) prog fu d):=by kernel_rfl
abbrev Kb:FuncId:=59
theorem R6 {xs:FuncId->Option (List PV->Option A2)} (fu d:Nat)(Di De:Int)(D9 G1 a1:Int):Ag (CX xs) prog fu (d+1) Kb [.pbox [.sc (.int .u64 Di),.sc (.int .u64 De),.sc (.int .u64 D9),.sc (.int .u64 G1)],.sc (.int .u64 a1)]=(fun (call:Ai)=>Ab (Dv .u64 G1 a1) fun x1=>Af (call 61 [.pbox [.sc (.int .u64 Di),.sc (.int .u64 De),.sc (.int .u64 D9),.sc (.int .u64 x1)],.sc (.int .i64 2)]) fun x2 x3=>Ac x2<|Aa x3 fun x4 x5=>Aa x4 fun x6 x7=>Ae .u64 x6 fun x8=>Aa x7 fun x9 H5=>Ae .u64 x9 fun Ib=>Aa H5 fun H6 L9=>Ae .u64 H6 fun K7=>Aa L9 fun K8 Nl=>Ae .u64 K8 fun Pz=>Ac Nl<|Ac x5<|Ab (Dv .u64 x8 a1) fun M3=>some (A2.mk [] [[.sc (.int .u64 M3),.sc (.int .u64 Ib),.sc (.int .u64 K7),.sc (.int .u64 Pz)]])) (Ag (CX xs) prog fu d):=by kernel_rfl
abbrev Wo:FuncId:=49
noncomputable def Hs (fu:Nat)(call:Ai)(a0 a1:Int)(Py:Nat)(a2:List PV)(nn y0:Nat)(y1:List PV)(y2 y3:Int)(y4 y5:Int)(y6 y7 y8:Int):Option A2:=Ct CB prog fu call 49 Try.f49 (Bz Try.f49) [.sc (.int .u64 a0),.sc (.int .u64 a1),.lst false 1 Py a2] [.r,.r,.r,.l,.r,.l] nn ⟨lk [(2,(.lst false 1 y0 y1)),(7,(.ptr 7 0)),(8,(.sc (.int .i64 y2))),(22,(.sc (.int .i64 y3))),(23,(.sc (.int .i64 y4)))],Fx [(7,(.st [(.sc (.int .u64 y5)),(.sc (.int .u64 y6)),(.sc (.int .u64 y7)),(.sc (.int .u64 y8))]))]⟩
theorem Ry (fu:Nat)(call:Ai)(a0 a1:Int)(Py:Nat)(a2:List PV)(nn y0:Nat)(y1:List PV)(y2 y3:Int)(y4 y5:Int)(y6 y7 y8:Int):Hs fu call a0 a1 Py a2 (nn+1) y0 y1 y2 y3 y4 y5 y6 y7 y8=(Bd (decide (y4<y3)) (Ab (wrap .i64 (8*y4)) fun x6=>Ab (wrap .i64 (8*y4)) fun x7=>Ab (wrap .i64 (x7+8)) fun x8=>An (decide (0<=x6))<|An (decide (0<=x8))<|An (decide (Int.toNat x6<=Int.toNat x8)&&decide (Int.toNat x8<=y0))<|Ab (Int.toNat x8-Int.toNat x6) fun x9=>Ab (List.take (x9*1) (List.drop (Int.toNat x6*1) y1)) fun H5=>Af (call 60 [.lst false 1 x9 H5]) fun Ib H6=>Ac H6<|Aa Ib fun L9 K7=>Ae .u64 L9 fun K8=>Ac K7<|Af (call 59 [.pbox [.sc (.int .u64 y5),.sc (.int .u64 y6),.sc (.int .u64 y7),.sc (.int .u64 y8)],.sc (.int .u64 K8)]) fun Nl Pz=>Ac Nl<|Aa Pz fun M3 Hx=>Aa M3 fun Mt Mm=>Ae .u64 Mt fun Qg=>Aa Mm fun Ro P3=>Ae .u64 Ro fun Y5=>Aa P3 fun X7 Ub=>Ae .u64 X7 fun FC=>Aa Ub fun Ul O2=>Ae .u64 Ul fun Sq=>Ac O2<|Ac Hx<|Ab (wrap .i64 (y4+1)) fun Zq=>Hs fu call a0 a1 Py a2 (nn) (y0) (y1) (y2) (y3) Zq Qg Y5 FC Sq) (Ab (wrap .i64 (8*y2)) fun V2=>An (decide (0<=V2))<|An (decide (Int.toNat V2<=y0)&&decide (y0<=y0))<|Ab (y0-Int.toNat V2) fun X3=>Ab (List.take (X3*1) (List.drop (Int.toNat V2*1) y1)) fun DR=>Af (call 60 [.lst false 1 X3 DR]) fun AJ Yt=>Ac Yt<|Aa AJ fun HE LY=>Ae .u64 HE fun BV=>Ac LY<|Ab (wrap .u64 (↑y0:Int)) fun NB=>Ab (Jv .u64 NB 56) fun PW=>Ab (BH .u64 BV PW) fun BW=>Af (call 59 [.pbox [.sc (.int .u64 y5),.sc (.int .u64 y6),.sc (.int .u64 y7),.sc (.int .u64 y8)],.sc (.int .u64 BW)]) fun Oz MF=>Ac Oz<|Aa MF fun NF PZ=>Aa NF fun OG RG=>Ae .u64 OG fun EI=>Aa RG fun RB RQ=>Ae .u64 RB fun ND=>Aa RQ fun X9 FV=>Ae .u64 X9 fun RV=>Aa FV fun BN GT=>Ae .u64 BN fun MA=>Ac GT<|Ac PZ<|Ab (Dv .u64 RV 255) fun NA=>Af (call 61 [.pbox [.sc (.int .u64 EI),.sc (.int .u64 ND),.sc (.int .u64 NA),.sc (.int .u64 MA)],.sc (.int .i64 4)]) fun GJ HL=>Ac GJ<|Aa HL fun WY ID=>Aa WY fun TN UD=>Ae .u64 TN fun WO=>Aa UD fun Zw FD=>Ae .u64 Zw fun x70=>Aa FD fun HT To=>Ae .u64 HT fun VJ=>Aa To fun NY Td=>Ae .u64 NY fun x76=>Ac Td<|Ac ID<|Ab (Dv .u64 WO x70) fun x77=>Ab (Dv .u64 x77 VJ) fun U7=>Ab (Dv .u64 U7 x76) fun x79=>some (A2.mk [.sc (.int .u64 x79)] []))):=by kernel_rfl
theorem MJ {xs:FuncId->Option (List PV->Option A2)} (fu d:Nat)(a0 a1:Int)(Py:Nat)(a2:List PV):Ag (CX xs) prog fu (d+1) Wo [.sc (.int .u64 a0),.sc (.int .u64 a1),.lst false 1 Py a2]=(fun (call:Ai)=>Ab (Dv .u64 a0 8317987319222330741) fun x1=>Ab (Dv .u64 a1 7237128888997146477) fun x2=>Ab (Dv .u64 a0 7816392313619706465) fun x3=>Ab (Dv .u64 a1 8387220255154660723) fun x4=>Ab (wrap .i64 (Int.tdiv (↑Py:Int) 8)) fun x5=>Hs fu call a0 a1 Py a2 (fu) (Py) (a2) x5 x5 0 x1 x2 x3 x4) (Ag (CX xs) prog fu d):=by kernel_rfl
abbrev Xb:FuncId:=33
theorem JZ {xs:FuncId->Option (List PV->Option A2)} (fu d:Nat)(a0 a1:Int)(Py:Nat)(a2:List PV):Ag (CX xs) prog fu (d+1) Xb [.sc (.int .u64 a0),.sc (.int .i64 a1),.lst false 1 Py a2]=(fun (call:Ai)=>Ab (wrap .u64 a1) fun x1=>Ab (wrap .u64 (1+x1)) fun x2=>Af (call 49 [.sc (.int .u64 a0),.sc (.int .u64 x2),.lst false 1 Py a2]) fun x3 x4=>Ac x4<|Aa x3 fun x5 x6=>Ae .u64 x5 fun x7=>Ac x6<|some (A2.mk [.sc (.int .u64 x7)] [])) (Ag (CX xs) prog fu d):=by kernel_rfl
abbrev Mw:FuncId:=81
theorem Vc {xs:FuncId->Option (List PV->Option A2)} (fu d:Nat)(a0 a1:Int):Ag (CX xs) prog fu (d+1) Mw [.sc (.int .u64 a0),.sc (.int .u64 a1)]=(fun (call:Ai)=>An (decide (0<=a1))<|Ab (Jv .u64 a0 a1) fun x1=>Ab (wrap .u64 (64-a1)) fun x2=>An (decide (0<=x2))<|Ab (GN .u64 a0 x2) fun x3=>Ab (BH .u64 x1 x3) fun x4=>some (A2.mk [.sc (.int .u64 x4)] [])) (Ag (CX xs) prog fu d):=by kernel_rfl
abbrev Lt:FuncId:=73
theorem T7 {xs:FuncId->Option (List PV->Option A2)} (fu d:Nat)(Di De:Int)(D9 G1:Int):Ag (CX xs) prog fu (d+1) Lt [.agg [.sc (.int .u64 Di),.sc (.int .u64 De),.sc (.int .u64 D9),.sc (.int .u64 G1)]]=(fun (call:Ai)=>Ab (wrap .u64 (Di+De)) fun x1=>Af (call 81 [.sc (.int .u64 De),.sc (.int .u64 13)]) fun x2 x3=>Ac x3<|Aa x2 fun x4 x5=>Ae .u64 x4 fun x6=>Ac x5<|Ab (Dv .u64 x6 x1) fun x7=>Af (call 81 [.sc (.int .u64 x1),.sc (.int .u64 32)]) fun x8 x9=>Ac x9<|Aa x8 fun H5 Ib=>Ae .u64 H5 fun H6=>Ac Ib<|Ab (wrap .u64 (D9+G1)) fun L9=>Af (call 81 [.sc (.int .u64 G1),.sc (.int .u64 16)]) fun K7 K8=>Ac K8<|Aa K7 fun Nl Pz=>Ae .u64 Nl fun M3=>Ac Pz<|Ab (Dv .u64 M3 L9) fun Hx=>Ab (wrap .u64 (H6+Hx)) fun Mt=>Af (call 81 [.sc (.int .u64 Hx),.sc (.int .u64 21)]) fun Mm Qg=>Ac Qg<|Aa Mm fun Ro P3=>Ae .u64 Ro fun Y5=>Ac P3<|Ab (Dv .u64 Y5 Mt) fun X7=>Ab (wrap .u64 (L9+x7)) fun Ub=>Af (call 81 [.sc (.int .u64 x7),.sc (.int .u64 17)]) fun FC Ul=>Ac Ul<|Aa FC fun O2 Sq=>Ae .u64 O2 fun Zq=>Ac Sq<|Ab (Dv .u64 Zq Ub) fun V2=>Af (call 81 [.sc (.int .u64 Ub),.sc (.int .u64 32)]) fun X3 DR=>Ac DR<|Aa X3 fun AJ Yt=>Ae .u64 AJ fun HE=>Ac Yt<|some (A2.mk [.agg [.sc (.int .u64 Mt),.sc (.int .u64 V2),.sc (.int .u64 HE),.sc (.int .u64 X7)]] [])) (Ag (CX xs) prog fu d):=by kernel_rfl
abbrev Od:FuncId:=56
noncomputable def En (fu:Nat)(call:Ai)(a0 a1:Int)(Py:Nat)(a2:List PV)(nn y0:Nat)(y1:List PV)(y2:Int)(y3:List PV):Option A2:=Ct CB prog fu call 56 Try.f56 (Bz Try.f56) [.sc (.int .u64 a0),.sc (.int .u64 a1),.lst false 1 Py a2] [.r,.r,.l,.r,.l] nn ⟨lk [(2,(.lst false 1 y0 y1)),(7,(.ptr 7 0)),(8,(.sc (.int .i64 y2)))],Fx [(7,(.ar false y3))]⟩
noncomputable def D0 (fu:Nat)(call:Ai)(a0 a1:Int)(Py:Nat)(a2:List PV)(m0 nn y0:Nat)(y1:List PV)(y2 y3 y4:Int)(y5:List PV):Option A2:=Ct CB prog fu call 56 Try.f56 (Bz Try.f56) [.sc (.int .u64 a0),.sc (.int .u64 a1),.lst false 1 Py a2] [.r,.r,.l,.r,.l,.i m0,.r,.l,.l,.r,.l,.r,.l] nn ⟨lk [(2,(.lst false 1 y0 y1)),(7,(.ptr 7 0)),(8,(.sc (.int .i64 y2))),(9,(.sc (.int .u64 y3))),(10,(.sc (.int .i64 y4)))],Fx [(7,(.ar false y5))]⟩
theorem Li (fu:Nat)(call:Ai)(a0 a1:Int)(Py:Nat)(a2:List PV)(nn y0:Nat)(y1:List PV)(y2:Int)(y3:List PV):En fu call a0 a1 Py a2 (nn+1) y0 y1 y2 y3=(Bd (decide (y2<=(↑y0:Int))) (D0 fu call a0 a1 Py a2 nn (fu) (y0) (y1) (y2) 0 7 (y3)) (Ae .u64 (List.getD y3 2 .top) fun x5=>Ab (Dv .u64 x5 255) fun x6=>An (decide (3<=y3.length))<|Ab (Bl y3 [.sc (.int .u64 x6)] 2) fun x7=>Ae .u64 (List.getD x7 0 .top) fun x8=>Ae .u64 (List.getD x7 1 .top) fun x9=>Ae .u64 (List.getD x7 2 .top) fun H5=>Ae .u64 (List.getD x7 3 .top) fun Ib=>Af (call 73 [.agg [.sc (.int .u64 x8),.sc (.int .u64 x9),.sc (.int .u64 H5),.sc (.int .u64 Ib)]]) fun H6 L9=>Ac L9<|Aa H6 fun K7 K8=>Gd K7 fun Nl=>Aa Nl fun Pz M3=>Ae .u64 Pz fun Hx=>Aa M3 fun Mt Mm=>Ae .u64 Mt fun Qg=>Aa Mm fun Ro P3=>Ae .u64 Ro fun Y5=>Aa P3 fun X7 Ub=>Ae .u64 X7 fun FC=>Ac Ub<|Ac K8<|Af (call 73 [.agg [.sc (.int .u64 Hx),.sc (.int .u64 Qg),.sc (.int .u64 Y5),.sc (.int .u64 FC)]]) fun Ul O2=>Ac O2<|Aa Ul fun Sq Zq=>Gd Sq fun V2=>Aa V2 fun X3 DR=>Ae .u64 X3 fun AJ=>Aa DR fun Yt HE=>Ae .u64 Yt fun LY=>Aa HE fun BV NB=>Ae .u64 BV fun PW=>Aa NB fun BW Oz=>Ae .u64 BW fun MF=>Ac Oz<|Ac Zq<|Af (call 73 [.agg [.sc (.int .u64 AJ),.sc (.int .u64 LY),.sc (.int .u64 PW),.sc (.int .u64 MF)]]) fun NF PZ=>Ac PZ<|Aa NF fun OG RG=>Gd OG fun EI=>Aa EI fun RB RQ=>Ae .u64 RB fun ND=>Aa RQ fun X9 FV=>Ae .u64 X9 fun RV=>Aa FV fun BN GT=>Ae .u64 BN fun MA=>Aa GT fun NA GJ=>Ae .u64 NA fun HL=>Ac GJ<|Ac RG<|Af (call 73 [.agg [.sc (.int .u64 ND),.sc (.int .u64 RV),.sc (.int .u64 MA),.sc (.int .u64 HL)]]) fun WY ID=>Ac ID<|Aa WY fun TN UD=>Gd TN fun WO=>Aa WO fun Zw FD=>Ae .u64 Zw fun x70=>Aa FD fun HT To=>Ae .u64 HT fun VJ=>Aa To fun NY Td=>Ae .u64 NY fun x76=>Aa Td fun x77 U7=>Ae .u64 x77 fun x79=>Ac U7<|Ac UD<|An (decide (4<=x7.length))<|Ab (Bl x7 [.sc (.int .u64 x70),.sc (.int .u64 VJ),.sc (.int .u64 x76),.sc (.int .u64 x79)] 0) fun x80=>Ae .u64 (List.getD x80 0 .top) fun X5=>Ae .u64 (List.getD x80 1 .top) fun x82=>Ab (Dv .u64 X5 x82) fun x83=>Ae .u64 (List.getD x80 2 .top) fun AA=>Ab (Dv .u64 x83 AA) fun x85=>Ae .u64 (List.getD x80 3 .top) fun x86=>Ab (Dv .u64 x85 x86) fun AS=>some (A2.mk [.sc (.int .u64 AS)] []))):=by kernel_rfl
theorem K0 (fu:Nat)(call:Ai)(a0 a1:Int)(Py:Nat)(a2:List PV)(m0 nn y0:Nat)(y1:List PV)(y2 y3 y4:Int)(y5:List PV):D0 fu call a0 a1 Py a2 m0 (nn+1) y0 y1 y2 y3 y4 y5=(Bd (decide (y4>=0)) (Ab (wrap .i64 (y2+y4)) fun x88=>Bd (decide (x88<(↑y0:Int))) (Ab (wrap .i64 (y2+y4)) fun x89=>An (decide (0<=x89)&&decide (x89<(↑y0:Int)))<|Ae .u8 (List.getD y1 (Int.toNat x89*1) .top) fun x90=>Ab (Jv .u64 y3 8) fun Zs=>Ab (wrap .u64 x90) fun Y0=>Ab (BH .u64 Zs Y0) fun x93=>Ab (wrap .i64 (y4-1)) fun x94=>D0 fu call a0 a1 Py a2 m0 (nn) (y0) (y1) (y2) x93 x94 (y5)) (Bd (y4==7) (Ab (wrap .u8 (↑y0:Int)) fun x95=>Ab (Jv .u64 y3 8) fun x96=>Ab (wrap .u64 x95) fun x97=>Ab (BH .u64 x96 x97) fun BF=>Ab (wrap .i64 (y4-1)) fun x99=>D0 fu call a0 a1 Py a2 m0 (nn) (y0) (y1) (y2) BF x99 (y5)) (Ab (Jv .u64 y3 8) fun Ae8=>Ab (BH .u64 Ae8 0) fun Mc=>Ab (wrap .i64 (y4-1)) fun Adg=>D0 fu call a0 a1 Py a2 m0 (nn) (y0) (y1) (y2) Mc Adg (y5)))) (Ae .u64 (List.getD y5 3 .top) fun Ac9=>Ab (Dv .u64 Ac9 y3) fun Ace=>An (decide (4<=y5.length))<|Ab (Bl y5 [.sc (.int .u64 Ace)] 3) fun GD=>Ae .u64 (List.getD GD 0 .top) fun Mf=>Ae .u64 (List.getD GD 1 .top) fun Age=>Ae .u64 (List.getD GD 2 .top) fun Ac4=>Ae .u64 (List.getD GD 3 .top) fun Ado=>Af (call 73 [.agg [.sc (.int .u64 Mf),.sc (.int .u64 Age),.sc (.int .u64 Ac4),.sc (.int .u64 Ado)]]) fun Ag7 Ah2=>Ac Ah2<|Aa Ag7 fun Acv Acj=>Gd Acv fun Adp=>Aa Adp fun Agn Acn=>Ae .u64 Agn fun Ags=>Aa Acn fun Air Aco=>Ae .u64 Air fun Aei=>Aa Aco fun Adb Adw=>Ae .u64 Adb fun Aep=>Aa Adw fun Acg Adz=>Ae .u64 Acg fun Akb=>Ac Adz<|Ac Acj<|Af (call 73 [.agg [.sc (.int .u64 Ags),.sc (.int .u64 Aei),.sc (.int .u64 Aep),.sc (.int .u64 Akb)]]) fun Abe YT=>Ac YT<|Aa Abe fun Aek Afs=>Gd Aek fun Aar=>Aa Aar fun Afz Af7=>Ae .u64 Afz fun Aec=>Aa Af7 fun Agw UR=>Ae .u64 Agw fun Afl=>Aa UR fun Add Afq=>Ae .u64 Add fun Ahv=>Aa Afq fun Aja Agh=>Ae .u64 Aja fun Ac8=>Ac Agh<|Ac Afs<|An (decide (4<=GD.length))<|Ab (Bl GD [.sc (.int .u64 Aec),.sc (.int .u64 Afl),.sc (.int .u64 Ahv),.sc (.int .u64 Ac8)] 0) fun VF=>Ae .u64 (List.getD VF 0 .top) fun Aev=>Ab (Dv .u64 Aev y3) fun Acf=>An (decide (1<=VF.length))<|Ab (Bl VF [.sc (.int .u64 Acf)] 0) fun Xp=>Ab (wrap .i64 (y2+8)) fun Ya=>En fu call a0 a1 Py a2 (m0) (y0) (y1) Ya Xp)):=by kernel_rfl
theorem X2 {xs:FuncId->Option (List PV->Option A2)} (fu d:Nat)(a0 a1:Int)(Py:Nat)(a2:List PV):Ag (CX xs) prog fu (d+1) Od [.sc (.int .u64 a0),.sc (.int .u64 a1),.lst false 1 Py a2]=(fun (call:Ai)=>Ab (Dv .u64 a0 8317987319222330741) fun x1=>Ab (Dv .u64 a1 7237128888997146477) fun x2=>Ab (Dv .u64 a0 7816392313619706465) fun x3=>Ab (Dv .u64 a1 8387220255154660723) fun x4=>En fu call a0 a1 Py a2 (fu) (Py) (a2) 0 ([.sc (.int .u64 x1),.sc (.int .u64 x2),.sc (.int .u64 x3),.sc (.int .u64 x4)])) (Ag (CX xs) prog fu d):=by kernel_rfl
abbrev Ok:FuncId:=45
theorem Wl {xs:FuncId->Option (List PV->Option A2)} (fu d:Nat)(a0 a1:Int)(Py:Nat)(a2:List PV):Ag (CX xs) prog fu (d+1) Ok [.sc (.int .u64 a0),.sc (.int .i64 a1),.lst false 1 Py a2]=(fun (call:Ai)=>Ab (wrap .u64 a1) fun x1=>Ab (wrap .u64 (1+x1)) fun x2=>Af (call 56 [.sc (.int .u64 a0),.sc (.int .u64 x2),.lst false 1 Py a2]) fun x3 x4=>Ac x4<|Aa x3 fun x5 x6=>Ae .u64 x5 fun x7=>Ac x6<|some (A2.mk [.sc (.int .u64 x7)] [])) (Ag (CX xs) prog fu d):=by kernel_rfl
abbrev Fj:FuncId:=47
noncomputable def D5 (fu:Nat)(call:Ai)(Ap:Nat)(a0:List PV)(nn y0:Nat)(y1:List PV)(y2:Nat)(y3:Int)(y4:List PV):Option A2:=Ct CB prog fu call 47 Try.f47 (Bz Try.f47) [.lst false 1 Ap a0] [.r,.r,.l,.r,.l] nn ⟨lk [(0,(.lst false 1 y0 y1)),(3,(.view 3 1 0 y2)),(4,(.sc (.int .i64 y3)))],Fx [(3,(.ar false y4))]⟩
noncomputable def E9 (fu:Nat)(call:Ai)(Ap:Nat)(a0:List PV)(m0 nn y0:Nat)(y1:List PV)(y2:Nat)(y3 y4:Int)(y5:List PV):Option A2:=Ct CB prog fu call 47 Try.f47 (Bz Try.f47) [.lst false 1 Ap a0] [.r,.r,.l,.r,.l,.i m0,.r,.l,.l,.r,.l] nn ⟨lk [(0,(.lst false 1 y0 y1)),(3,(.view 3 1 0 y2)),(4,(.sc (.int .i64 y3))),(5,(.sc (.int .i64 y4)))],Fx [(3,(.ar false y5))]⟩
theorem Jg (fu:Nat)(call:Ai)(Ap:Nat)(a0:List PV)(nn y0:Nat)(y1:List PV)(y2:Nat)(y3:Int)(y4:List PV):D5 fu call Ap a0 (nn+1) y0 y1 y2 y3 y4=(Bd (decide (y3<(↑y0:Int))) (E9 fu call Ap a0 nn (fu) (y0) (y1) (y2) (y3) 7 (y4)) (An (decide (y2*1<=y4.length))<|some (A2.mk [.own 1 y2 (List.take (y2*1) y4)] []))):=by kernel_rfl
theorem Jl (fu:Nat)(call:Ai)(Ap:Nat)(a0:List PV)(m0 nn y0:Nat)(y1:List PV)(y2:Nat)(y3 y4:Int)(y5:List PV):E9 fu call Ap a0 m0 (nn+1) y0 y1 y2 y3 y4 y5=(Bd (decide (y4>=0)) (An (decide (0<=y3)&&decide (y3<(↑y0:Int)))<|Ae .u64 (List.getD y1 (Int.toNat y3*1) .top) fun x1=>Ab (wrap .i64 (8*y4)) fun x2=>Ab (wrap .u64 x2) fun x3=>An (decide (0<=x3))<|Ab (GN .u64 x1 x3) fun x4=>Ab (wrap .u8 x4) fun x5=>An (decide (y2*1<=y5.length)&&true&&decide ((y2+1)*1<=1099511627776)&&decide (y2+1<=1099511627776))<|Ab (y2+1) fun x6=>Ab (List.take (y2*1) y5++[.sc (.int .u8 x5)]) fun x7=>Ab (wrap .i64 (y4-1)) fun x8=>E9 fu call Ap a0 m0 (nn) (y0) (y1) x6 (y3) x8 x7) (Ab (wrap .i64 (y3+1)) fun x9=>D5 fu call Ap a0 (m0) (y0) (y1) (y2) x9 (y5))):=by kernel_rfl
theorem Uc {xs:FuncId->Option (List PV->Option A2)} (fu d Ap:Nat)(a0:List PV):Ag (CX xs) prog fu (d+1) Fj [.lst false 1 Ap a0]=(fun (call:Ai)=>D5 fu call Ap a0 (fu) (Ap) (a0) 0 0 ([])) (Ag (CX xs) prog fu d):=by kernel_rfl
end
section
open Go.IntKind (wrap)
def rot (x k:Int):Int:=BH .u64 (Jv .u64 x k) (GN .u64 x (64-k))
structure W4 where
 a:Int
 b:Int
 c:Int
 d:Int
def W4.cells (v:W4):List PV:=[.sc (.int .u64 v.a),.sc (.int .u64 v.b),.sc (.int .u64 v.c),.sc (.int .u64 v.d)]
def Bdq (v:W4):W4:=⟨rot (wrap .u64 (v.a+v.b)) 32,Dv .u64 (rot v.b 13) (wrap .u64 (v.a+v.b)),wrap .u64 (v.c+v.d),Dv .u64 (rot v.d 16) (wrap .u64 (v.c+v.d))⟩
def Bu5 (v:W4):W4:=⟨wrap .u64 (v.a+v.d),Dv .u64 (rot v.b 17) (wrap .u64 (v.c+v.b)),rot (wrap .u64 (v.c+v.b)) 32,Dv .u64 (rot v.d 21) (wrap .u64 (v.a+v.d))⟩
def FO (v:W4):W4:=Bu5 (Bdq v)
def TY:Nat->W4->W4
 |0,v=>v
 |n+1,v=>TY n (FO v)
def Atu (r:W4)(m:Int):W4:=⟨Dv .u64 r.a m,r.b,r.c,r.d⟩
def Pi (v:W4)(m:Int):W4:=Atu (TY 2 ⟨v.a,v.b,v.c,Dv .u64 v.d m⟩) m
def Pq:List Int->Int
 |[]=>0
 |b::r=>b+256*Pq r
def GI:Nat->W4->List Int->W4
 |0,v,_=>v
 |n+1,v,l=>GI n (Pi v (Pq (l.take 8))) (l.drop 8)
def Amm (k0 k1:Int):W4:=⟨Dv .u64 k0 8317987319222330741,Dv .u64 k1 7237128888997146477,Dv .u64 k0 7816392313619706465,Dv .u64 k1 8387220255154660723⟩
def YE (v:W4):W4:=TY 4 ⟨v.a,v.b,Dv .u64 v.c 255,v.d⟩
def Aae (v:W4):Int:=Dv .u64 (Dv .u64 (Dv .u64 v.a v.b) v.c) v.d
def L4 (l:List Int):Int:=Pq (l.drop (8*(l.length / 8)))+72057594037927936*((l.length:Int) % 256)
def Aon (k0 k1:Int)(l:List Int):Int:=Aae (YE (Pi (GI (l.length / 8) (Amm k0 k1) l) (L4 l)))
def BC (key dom:Int)(l:List Int):Int:=Aon key (wrap .u64 (1+wrap .u64 dom)) l
def T8 (l:List Int):Prop:=∀b∈l,0<=b∧b<=255
theorem Qm:∀{l:List Int},T8 l->0<=Pq l∧Pq l<256 ^ l.length
 |[],_=>by simp[Pq]
 |b::r,h=>by
  have h1:=h b (by simp)
  have h2:=Qm (l:=r) fun x hx=>h x (by simp[hx])
  have h3:(256:Int) ^ (b::r).length=256 ^ r.length*256:=by rw[TW,Int.pow_succ]
  simp only[Pq];omega
theorem Ve:∀(l r:List Int),Pq (l++r)=Pq l+256 ^ l.length*Pq r
 |[],r=>by simp[Pq]
 |b::l,r=>by
  have ih:=Ve l r;simp only[List.cons_append,Pq,TW,Int.pow_succ];rw[ih,Int.mul_add];have:(256:Int)*(256 ^ l.length*Pq r)=256 ^ l.length*256*Pq r:=by rw[←Int.mul_assoc,Int.mul_comm 256]
  omega
theorem LD {a c:Int}(k b:Nat)(h0:0<=a)(h1:a<((2 ^ k:Nat):Int)) (hc:c=((b*2 ^ k:Nat):Int)) (h:a+c<=18446744073709551615):BH .u64 a c=a+c∧BH .u64 c a=a+c:=by
 obtain⟨n,rfl⟩:=Int.eq_ofNat_of_zero_le h0;subst hc;have hn:n<2 ^ k:=by omega
 generalize hB:b*2 ^ k=m at h
 have e4:(BitVec.ofInt 64 (n:Int)).toNat=n:=by
  rw[BitVec.toNat_ofInt];omega
 have e5:(BitVec.ofInt 64 (m:Int)).toNat=m:=by
  rw[BitVec.toNat_ofInt];omega
 have e6:m ||| n=m+n:=by
  have:=Nat.shiftLeft_add_eq_or_of_lt hn b;rw[Nat.shiftLeft_eq,hB] at this;exact this.symm
 constructor
 ·show wrap .u64 ((BitVec.ofInt 64 (n:Int) ||| BitVec.ofInt 64 (m:Int)).toNat:Int)=_;rw[BitVec.toNat_or,e4,e5,Nat.or_comm,e6,D8 (by omega) (by omega)]
  omega
 ·show wrap .u64 ((BitVec.ofInt 64 (m:Int) ||| BitVec.ofInt 64 (n:Int)).toNat:Int)=_;rw[BitVec.toNat_or,e4,e5,e6,D8 (by omega) (by omega)]
  omega
theorem XG {a k:Int}(h0:0<=a)(hk:0<=k)(Jo:k<=64)(h:a*((2 ^ k.toNat:Nat):Int)<=18446744073709551615):Jv .u64 a k=a*((2 ^ k.toNat:Nat):Int):=by
 show wrap .u64 (a*2 ^ (min k.toNat IntKind.u64.bits))=_;have e:min k.toNat IntKind.u64.bits=k.toNat:=Nat.min_eq_left (by show k.toNat<=64;omega)
 have e2:(2:Int) ^ k.toNat=((2 ^ k.toNat:Nat):Int):=by simp
 rw[e,e2,D8 (Int.mul_nonneg h0 (Int.natCast_nonneg _)) h]
end
end Go.Proofs.Ytcgfahlefkfghaa.Pv
