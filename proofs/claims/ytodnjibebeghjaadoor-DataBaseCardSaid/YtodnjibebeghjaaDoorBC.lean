/-
  The proof of DataBase, part 3.
-/
import Derived.Test.YtodnjibebeghjaaDoorBB
import Derived.StillTail
import Derived.WalkKit
import Derived.ProofKit
import Derived.OpenShut
import Derived.ShutString
import Derived.ChangeOld
import Derived.Below
import Derived.Deep.Slices
import Derived.ChangeSame
import Derived.WideKeyArgs
import Derived.Carry
import Derived.Test.YtodnjibebeghjaaDoorRows
import Derived.Lib.RuneBytes
import Derived.Lib.SlTrimSet
import Derived.Lib.BytesEntry
import Derived.Lib.Bytealg
import Derived.Lib.Walk
import Derived.WalkMore
set_option linter.unusedSimpArgs false
set_option linter.unusedVariables false
namespace Go.Proofs.YtodnjibebeghjaaDoor.Pv
section
section
variable {R R':Type} {Rel:Option R->Option R'->Prop}
theorem G2 (hn:Rel none none){k:IntKind}{p:PV}{K:Int->Option R}{K':Int->Option R'}(hK:∀n,Rel (K n) (K' n)):Rel (Aw k p K) (Aw k p K'):=by
 unfold Aw;split
 ·split<;>first|exact hK _|exact hn
 ·exact hn
theorem Ds (hn:Rel none none){p:PV}{K:IntKind->Int->Option R}{K':IntKind->Int->Option R'}(hK:∀k n,Rel (K k n) (K' k n)):Rel (Df p K) (Df p K'):=by
 unfold Df;split<;>first|exact hK _ _|exact hn
theorem Ft (hn:Rel none none){p:PV}{K:Bool->Option R}{K':Bool->Option R'}(hK:∀n,Rel (K n) (K' n)):Rel (Am p K) (Am p K'):=by
 unfold Am;split<;>first|exact hK _|exact hn
theorem Es (hn:Rel none none){p:PV}{K:ByteArray->Option R}{K':ByteArray->Option R'}(hK:∀n,Rel (K n) (K' n)):Rel (A0 p K) (A0 p K'):=by
 unfold A0;split<;>first|exact hK _|exact hn
theorem Ez (hn:Rel none none){es:Nat}{p:PV}{K:Bool->Nat->List PV->Option R}{K':Bool->Nat->List PV->Option R'}(hK:∀z n c,Rel (K z n c) (K' z n c)):Rel (Po es p K) (Po es p K'):=by
 unfold Po;split
 ·rename_i es' _ _;cases Nat.beq es' es
  ·exact hn
  ·exact hK _ _ _
 ·exact hK _ _ _
 ·exact hn
theorem Aen (hn:Rel none none){es:Nat}{p:PV}{K:PV->Option R}{K':PV->Option R'}(hK:∀p,Rel (K p) (K' p)):Rel (fsK es p K) (fsK es p K'):=by
 unfold fsK;split
 ·rename_i es' _ _;cases Nat.beq es' es
  ·exact hn
  ·exact hK _
 ·exact Ez hn fun _ _ _=>hK _
theorem QE (hn:Rel none none){es:Nat}{p:PV}{K:Nat->List PV->Option R}{K':Nat->List PV->Option R'}(hK:∀n c,Rel (K n c) (K' n c)):Rel (HR es p K) (HR es p K'):=by
 unfold HR;split
 ·rename_i es' _ _;cases Nat.beq es' es
  ·exact hn
  ·exact hK _ _
 ·exact hn
theorem As (hn:Rel none none){b:Bool}{K:Option R}{K':Option R'}(hK:b=true->Rel K K'):Rel (Bj b K) (Bj b K'):=by
 cases b
 ·exact hn
 ·exact hK rfl
theorem Xa {b:Bool}{x y:Option R}{x' y':Option R'}(hx:Rel x x')(hy:Rel y y'):Rel (Bh b x y) (Bh b x' y'):=by
 cases b
 ·exact hy
 ·exact hx
theorem Cz (hn:Rel none none){α:Type}{o:Option α}{K:α->Option R}{K':α->Option R'}(hK:∀a,o=some a->Rel (K a) (K' a)):Rel (Dh o K) (Dh o K'):=by
 cases o
 ·exact hn
 ·exact hK _ rfl
theorem Bg (hn:Rel none none){α:Type}{l:List α}{K:α->List α->Option R}{K':α->List α->Option R'}(hK:∀a r,l=a::r->Rel (K a r) (K' a r)):Rel (Aa l K) (Aa l K'):=by
 cases l
 ·exact hn
 ·exact hK _ _ rfl
theorem Ei (hn:Rel none none){α:Type}{l:List α}{K:Option R}{K':Option R'}(hK:Rel K K'):Rel (Ad l K) (Ad l K'):=by
 cases l
 ·exact hK
 ·exact hn
theorem Hu (hn:Rel none none){p:PV}{K:List PV->Option R}{K':List PV->Option R'}(hK:∀c,p=.agg c->Rel (K c) (K' c)):Rel (G7 p K) (G7 p K'):=by
 unfold G7;split
 ·exact hK _ rfl
 ·exact hn
theorem UC (hn:Rel none none){p:PV}{K:List PV->Option R}{K':List PV->Option R'}(hK:∀c,Rel (K c) (K' c)):Rel (Qx p K) (Qx p K'):=by
 unfold Qx;split
 ·exact hK _
 ·exact hn
theorem DC (hn:Rel none none){r:Option Ay}{K:List PV->List (List PV)->Option R} {K':List PV->List (List PV)->Option R'} (hK:∀v o,Rel (K v o) (K' v o)):Rel (Ai r K) (Ai r K'):=by
 unfold Ai;split
 ·exact hK _ _
 ·exact hn
theorem QU (hn:Rel none none){p:PV}{K:Value->Option R}{K':Value->Option R'}(hK:∀v,Rel (K v) (K' v)):Rel (WH p K) (WH p K'):=by
 unfold WH;split
 ·exact hK _
 ·exact hK _
 ·exact hn
theorem Ac2 (hn:Rel none none){p:PV}{K:FuncId->Option R}{K':FuncId->Option R'}(hK:∀v,Rel (K v) (K' v)):Rel (fvK p K) (fvK p K'):=by
 unfold fvK;split
 ·rename_i f a b;cases (a.isEmpty&&b.isEmpty)
  ·exact hn
  ·exact hK _
 ·exact hn
theorem Lr (hn:Rel none none){t:CT}{p:PV}{K:PV->Option R}{K':PV->Option R'}(hK:∀p,Rel (K p) (K' p)):Rel (Uu t p K) (Uu t p K'):=by
 unfold Uu;split
 ·exact G2 hn fun _=>hK _
 ·exact Ft hn fun _=>hK _
 ·exact Es hn fun _=>hK _
 ·exact Ez hn fun _ _ _=>hK _
 ·exact QU hn fun _=>hK _
theorem Afj (hn:Rel none none){t:CT}{p:PV}{K:PV->Option R}{K':PV->Option R'}(hK:∀p,Rel (K p) (K' p)):Rel (fcK t p K) (fcK t p K'):=by
 unfold fcK;split
 ·exact Aen hn hK
 ·exact Lr hn hK
theorem Ma (hn:Rel none none):∀{ts:List CT}{cells:List PV}{off:Nat}{K:List PV->Option R}{K':List PV->Option R'},(∀c,Rel (K c) (K' c))->Rel (Oa ts cells off K) (Oa ts cells off K')
 |[],_,_,_,_,hK=>hK _
 |_::_,_,_,_,_,hK=>Lr hn fun _=>Ma hn fun _=>hK _
theorem Kq (hn:Rel none none):∀{ts:List CT}{cells:List PV}{off:Nat}{K:List PV->Option R}{K':List PV->Option R'},(∀c,Rel (K c) (K' c))->Rel (Li ts cells off K) (Li ts cells off K')
 |[],_,_,_,_,hK=>hK _
 |_::_,_,_,_,_,hK=>Afj hn fun _=>Kq hn fun _=>hK _
theorem S8 (hn:Rel none none){g:Bool}{cells:List PV}{K:PV->Option R}{K':PV->Option R'}(hK:∀p,Rel (K p) (K' p)):Rel (SE g cells K) (SE g cells K'):=by
 cases g
 ·exact Bg hn fun _ _ _=>Ei hn (hK _)
 ·exact hK _
theorem RM (hn:Rel none none){P:Program}{t:TypeId}{v:Value}{K:PV->Option R}{K':PV->Option R'}(hK:∀p,Bq p=[]->Rel (K p) (K' p)) (hK':∀c,Rel (K (.agg c)) (K' (.agg c))):Rel (cvK P t v K) (cvK P t v K'):=by
 unfold cvK;split
 ·exact As hn fun _=>Ma hn fun _=>hK' _
 ·split
  ·exact hK _ rfl
  ·exact hn
 ·exact hK _ rfl
theorem YZ (hn:Rel none none){op:BinOp}{x y:Int}{K:Bool->Option R}{K':Bool->Option R'}(hK:∀n,Rel (K n) (K' n)):Rel (Ads op x y K) (Ads op x y K'):=by
 unfold Ads;split<;>first|exact hK _|exact hn
theorem NB (hn:Rel none none){op:BinOp}{k:IntKind}{x y:Int}{K:PV->Option R}{K':PV->Option R'}(hK:∀n,Rel (K n) (K' n)):Rel (Zy op k x y K) (Zy op k x y K'):=by
 unfold Zy;split<;>first|exact hK _|exact As hn fun _=>hK _|exact YZ hn fun _=>hK _
theorem OE (hn:Rel none none){op:BinOp}{x y:ByteArray}{K:PV->Option R}{K':PV->Option R'}(hK:∀n,Rel (K n) (K' n)):Rel (Zd op x y K) (Zd op x y K'):=by
 unfold Zd;split<;>first|exact hK _|exact As hn fun _=>hK _|exact hn
theorem CC (hn:Rel none none){e:Bool}{p:PV}{K:PV->Option R}{K':PV->Option R'}(hK:∀n,Rel (K n) (K' n)):Rel (Xn e p K) (Xn e p K'):=by
 unfold Xn;split<;>first|exact hK _|exact Xa (hK _) (Xa (hK _) (hK _))|exact Xa (hK _) (hK _)|exact hn
theorem MK (hn:Rel none none):∀{ts:List CT}{ps qs:List PV}{K:Bool->Option R}{K':Bool->Option R'},(∀b,Rel (K b) (K' b))->Rel (Ja ts ps qs K) (Ja ts ps qs K'):=by
 intro ts
 induction ts with
 |nil=>
  intro ps qs K K' hK;cases ps<;>cases qs<;>first|exact hK _|exact hn
 |cons t ts ih=>
  intro ps qs K K' hK;cases ps with
  |nil=>cases t<;>cases qs<;>exact hn
  |cons p ps=>
   cases qs with
   |nil=>cases t<;>exact hn
   |cons q qs=>
    cases t
    ·exact G2 hn fun _=>G2 hn fun _=>ih fun _=>hK _
    ·exact Ft hn fun _=>Ft hn fun _=>ih fun _=>hK _
    ·exact Es hn fun _=>Es hn fun _=>ih fun _=>hK _
    ·exact hn
    ·exact hn
theorem Aao (hn:Rel none none){P:Program}{op:BinOp}{t:TypeId}{x y:PV}{K:PV->Option R}{K':PV->Option R'}(hK:∀p,Rel (K p) (K' p)):Rel (Abi P op t x y K) (Abi P op t x y K'):=by
 unfold Abi;split
 ·split
  ·exact G2 hn fun _=>Ds hn fun _ _=>As hn fun _=>hK _
  ·exact G2 hn fun _=>Ds hn fun _ _=>As hn fun _=>hK _
  ·exact G2 hn fun _=>G2 hn fun _=>NB hn hK
 ·exact Es hn fun _=>Es hn fun _=>OE hn hK
 ·split
  ·exact Ft hn fun _=>Ft hn fun _=>hK _
  ·exact Ft hn fun _=>Ft hn fun _=>hK _
  ·exact hn
 ·split
  ·exact CC hn fun _=>hK _
  ·exact CC hn fun _=>hK _
  ·exact hn
 ·split
  ·exact hK _
  ·exact hK _
  ·exact hn
 ·exact hn
theorem IX (hn:Rel none none){P:Program}{op:BinOp}{t:TypeId}{x y:PV}{K:PV->Option R}{K':PV->Option R'}(hK:∀p,Rel (K p) (K' p)):Rel (Py P op t x y K) (Py P op t x y K'):=by
 unfold Py;split
 ·split
  ·exact As hn fun _=>Hu hn fun _ _=>Hu hn fun _ _=>MK hn fun _=>hK _
  ·exact As hn fun _=>Hu hn fun _ _=>Hu hn fun _ _=>MK hn fun _=>hK _
  ·exact hn
 ·exact Aao hn hK
theorem Aew (hn:Rel none none){op:UnOp}{x:PV}{K:PV->Option R}{K':PV->Option R'}(hK:∀p,Rel (K p) (K' p)):Rel (unK op x K) (unK op x K'):=by
 unfold unK;split<;>first|exact Ft hn fun _=>hK _|exact Ds hn fun _ _=>hK _|exact hn
theorem Dm (hn:Rel none none){p:Option PV}{d:Nat}{K:Nat->Option R}{K':Nat->Option R'}(hK:∀n,Rel (K n) (K' n)):Rel (Fw p d K) (Fw p d K'):=by
 unfold Fw;split
 ·exact hK _
 ·exact Ds hn fun _ _=>As hn fun _=>hK _
theorem Ug (hn:Rel none none){x:PV}{d:Nat}{K:PV->Option R}{K':PV->Option R'}(hK:∀n,Rel (K n) (K' n)):Rel (Oj x d K) (Oj x d K'):=by
 unfold Oj;split<;>first|exact hK _|exact hn
theorem Yz (hn:Rel none none){P:Program}{t:TypeId}{x:PV}{i:Int}{K:PV->Option R}{K':PV->Option R'}(hK:∀p,Rel (K p) (K' p)):Rel (Ic P t x i K) (Ic P t x i K'):=by
 unfold Ic;split
 ·exact As hn fun _=>As hn fun _=>Ug hn hK
 ·refine As hn fun _=>?_
  split
  ·exact As hn fun _=>As hn fun _=>hK _
  ·exact Ez hn fun _ _ _=>As hn fun _=>hK _
 ·exact hn
theorem U0 (hn:Rel none none){F5:Nat->Option (Nat × Nat)}:∀{ps:List (Nat × PV)} {cells:List PV}{K:List PV->Option R}{K':List PV->Option R'},(∀c,Rel (K c) (K' c))->Rel (Pk F5 ps cells K) (Pk F5 ps cells K')
 |[],_,_,_,hK=>hK _
 |(_,_)::_,_,_,_,hK=>Cz hn fun _ _=>As hn fun _=>U0 hn hK
theorem Ol (hn:Rel none none){P:Program}{t:TypeId}{K:List PV->Option R}{K':List PV->Option R'}(hK:∀p,Rel (K p) (K' p)):Rel (F4 P t K) (F4 P t K'):=
 Cz hn fun _ _=>As hn fun _=>Ma hn hK
theorem YS (hn:Rel none none){x y:PV}{K:PV->Option R}{K':PV->Option R'}(hK:∀p,Rel (K p) (K' p)):Rel (Ac3 x y K) (Ac3 x y K'):=
 Ds hn fun _ _=>G2 hn fun _=>hK _
theorem Abh (hn:Rel none none){x y:PV}{K:PV->Option R}{K':PV->Option R'}(hK:∀p,Rel (K p) (K' p)):Rel (Aff x y K) (Aff x y K'):=
 Ds hn fun _ _=>G2 hn fun _=>hK _
theorem Aad (hn:Rel none none){P:Program}{t:TypeId}{x:PV}{K:Nat->Option R}{K':Nat->Option R'}(hK:∀p,Rel (K p) (K' p)):Rel (UK P t x K) (UK P t x K'):=by
 unfold UK;split
 ·exact Es hn fun _=>hK _
 ·exact hK _
 ·split
  ·exact As hn fun _=>hK _
  ·exact Ez hn fun _ _ _=>hK _
 ·exact hn
def HO (Rel:Option R->Option R'->Prop)(f f':Nat->Option (List PV)) (l:List Nat):Prop:=∀i∈l,f i=f' i∨(f i=none∧∀b,Rel none b)
variable {f f':Nat->Option (List PV)}
theorem HO.sub {l l':List Nat}(h:HO Rel f f' l)(hs:∀i∈l',i∈l):HO Rel f f' l':=fun i hi=>h i (hs i hi)
theorem S7 (hn:Rel none none){l:List Nat}{id:Nat}(hf:HO Rel f f' l)(hi:id∈l){K:List PV->Option R}{K':List PV->Option R'}(hK:∀c,f id=some c->Rel (K c) (K' c)):Rel (Dh (f id) K) (Dh (f' id) K'):=by
 rcases hf id hi with h|⟨h,hb⟩
 ·rw[←h];exact Cz hn hK
 ·rw[h];exact hb _
theorem Mn (hn:Rel none none){es:Nat}{p:PV}{K:Nat->List PV->Option R}{K':Nat->List PV->Option R'}(hf:HO Rel f f' (Al p)) (hK:∀n c,Rel (K n c) (K' n c)):Rel (KB f es p K) (KB f' es p K'):=by
 unfold KB;split
 ·rename_i id es' off n;cases Nat.beq es' es
  ·exact hn
  ·exact S7 hn hf (by simp[Al]) fun _ _=>As hn fun _=>hK _ _
 ·exact Ez hn fun _ _ _=>hK _ _
theorem XX (hn:Rel none none){t:CT}{p:PV}{K:PV->List Nat->Option R}{K':PV->List Nat->Option R'}(hf:HO Rel f f' (Al p)) (hK:∀c m,(∀i∈m,f i≠none)->Rel (K c m) (K' c m)):Rel (Lc f t p K) (Lc f' t p K'):=by
 unfold Lc;split
 ·split
  ·rename_i id es' off n;cases Nat.beq es' _
   ·exact hn
   ·exact S7 hn hf (by simp[Al]) fun c hc=>As hn fun _=>hK _ _ (by simp[hc])
  ·exact Ez hn fun _ _ _=>hK _ _ (by simp)
 ·exact Lr hn fun _=>hK _ _ (by simp)
theorem Pw (hn:Rel none none):∀{ts:List CT}{ps:List PV}{K:List PV->List Nat->Option R}{K':List PV->List Nat->Option R'},HO Rel f f' (ps.flatMap Al)->(∀c m,(∀i∈m,f i≠none)->Rel (K c m) (K' c m))->Rel (Ky f ts ps K) (Ky f' ts ps K')
 |[],[],_,_,_,hK=>hK _ _ (by simp)
 |[],_::_,_,_,_,_=>hn
 |_::_,[],_,_,_,_=>hn
 |_::_,p::ps,_,_,hf,hK=>XX hn (fun i hi=>hf i (by simp only[List.flatMap_cons,List.mem_append];exact .inl hi)) fun _ m hm=>Pw hn (fun i hi=>hf i (by simp only[List.flatMap_cons,List.mem_append];exact .inr hi)) fun _ ms Xv=>hK _ _ fun i hi=>by
   rcases List.mem_append.1 hi with h|h
   ·exact hm i h
   ·exact Xv i h
theorem XU (hn:Rel none none){P:Program}{t:TypeId}{p:PV}{K:PV->List Nat->Option R}{K':PV->List Nat->Option R'}(hf:HO Rel f f' (B8 p)) (hK:∀c m,(∀i∈m,f i≠none)->Rel (K c m) (K' c m)):Rel (OZ P f t p K) (OZ P f' t p K'):=by
 unfold OZ
 have h1:∀i,i∈[p].flatMap Al->i∈B8 p:=by
  intro i hi;simp only[List.flatMap_cons,List.flatMap_nil,List.append_nil] at hi;cases p<;>first|exact hi|simp[Al] at hi
 cases Bx P t
 ·exact Pw hn (fun i hi=>hf i (h1 i hi)) fun _ _ hm=>Bg hn fun _ _ _=>Ei hn (hK _ _ hm)
 ·refine Hu hn fun c hc=>?_
  subst hc;exact Pw hn (fun i hi=>hf i hi) fun _ _ hm=>hK _ _ hm
theorem DM (hn:Rel none none){P:Program}:∀{ts:List TypeId}{ps:List PV}{K:List PV->List Nat->Option R}{K':List PV->List Nat->Option R'},HO Rel f f' (ps.flatMap B8)->(∀c m,(∀i∈m,f i≠none)->Rel (K c m) (K' c m))->Rel (Ze P f ts ps K) (Ze P f' ts ps K')
 |[],[],_,_,_,hK=>hK _ _ (by simp)
 |[],_::_,_,_,_,_=>hn
 |_::_,[],_,_,_,_=>hn
 |_::_,p::ps,_,_,hf,hK=>XU hn (fun i hi=>hf i (by simp only[List.flatMap_cons,List.mem_append];exact .inl hi)) fun _ m hm=>DM hn (fun i hi=>hf i (by simp only[List.flatMap_cons,List.mem_append];exact .inr hi)) fun _ ms Xv=>hK _ _ fun i hi=>by
   rcases List.mem_append.1 hi with h|h
   ·exact hm i h
   ·exact Xv i h
theorem NY (hn:Rel none none){P:Program}{t:TypeId}{x:PV}{lo hi:Option PV}{K:PV->Option R}{K':PV->Option R'}(hf:(∃n e,P.underlying t=some (.array n e))->HO Rel f f' (Al x)) (hK:∀c,Rel (K c) (K' c)):Rel (Ue P f t x lo hi K) (Ue P f' t x lo hi K'):=by
 unfold Ue;split
 ·exact Es hn fun _=>Dm hn fun _=>Dm hn fun _=>As hn fun _=>hK _
 ·refine As hn fun _=>?_
  split
  ·exact As hn fun _=>Dm hn fun _=>Dm hn fun _=>As hn fun _=>hK _
  ·exact Ez hn fun _ _ _=>Dm hn fun _=>Dm hn fun _=>As hn fun _=>hK _
 ·rename_i n e hu;refine As hn fun _=>?_
  split
  ·rename_i id off;exact S7 hn (hf ⟨_,_,hu⟩) (by simp[Al]) fun _ _=>As hn fun _=>Dm hn fun _=>Dm hn fun _=>As hn fun _=>hK _
  ·exact hn
 ·exact hn
theorem KX (hn:Rel none none){P:Program}{d:Nat}{t:TypeId}{x:PV}{lo hi mx:Option PV}{K:PV->List (Nat × Bm)->Option R} {K':PV->List (Nat × Bm)->Option R'} (hK:∀c,Rel (K c [(d,.ar false [])]) (K' c [(d,.ar false [])])):Rel (P6 P d t x lo hi mx K) (P6 P d t x lo hi mx K'):=by
 unfold P6;split
 ·refine As hn fun _=>?_
  split
  ·exact As hn fun _=>Dm hn fun _=>Dm hn fun _=>Dm hn fun _=>As hn fun _=>hK _
  ·exact Ez hn fun _ _ _=>Dm hn fun _=>Dm hn fun _=>Dm hn fun _=>As hn fun _=>hK _
 ·exact hn
theorem DP {nz:Bool}{g g':Nat->Option (List PV)} (hn:Rel none none){P:Program}{t:TypeId}{x:PV}{K:PV->Option R}{K':PV->Option R'}(hf:∀i∈Al x,(f i=f' i∧g i=g' i)∨(f i=none∧g i=none∧∀b,Rel none b)) (hK:∀c,Rel (K c) (K' c)):Rel (Tn nz P f g t x K) (Tn nz P f' g' t x K'):=by
 unfold Tn;split
 ·rename_i id off;refine As hn fun _=>?_
  rcases hf id (by simp[Al]) with⟨h1,h2⟩|⟨h1,h2,h3⟩
  ·rw[←h1,←h2];split
   ·exact Ma hn fun _=>S8 hn fun _=>hK _
   ·exact Cz hn fun _ _=>Kq hn fun _=>S8 hn hK
  ·rw[h1,h2];exact h3 _
 ·exact As hn fun _=>Ma hn fun _=>S8 hn fun _=>hK _
 ·exact hn
theorem WC (hn:Rel none none){P:Program}{d:Nat}{src dst:TypeId}{x:PV}{K:PV->List (Nat × Bm)->Option R} {K':PV->List (Nat × Bm)->Option R'} (hf:P.underlying dst=some .string->HO Rel f f' (Al x)) (hK:∀v b,(∀q∈b,q.1=d)->Rel (K v b) (K' v b)):Rel (Y2 P f d src dst x K) (Y2 P f' d src dst x K'):=by
 unfold Y2;split
 ·exact As hn fun _=>Ds hn fun _ _=>hK _ _ (by simp)
 ·rename_i hds;split
  ·exact Es hn fun _=>hK _ _ (by simp)
  ·split
   ·exact Mn hn (hf hds) fun _ _=>As hn fun _=>Cz hn fun _ _=>hK _ _ (by simp)
   ·exact Mn hn (hf hds) fun _ _=>As hn fun _=>Cz hn fun _ _=>hK _ _ (by simp)
   ·exact hn
  ·exact hn
 ·split
  ·exact Es hn fun _=>As hn fun _=>hK _ _ (by simp)
  ·exact hn
 ·exact hn
theorem YC (hn:Rel none none){shr:Bool}{id:Nat}{t:CT}{p:PV}{K:PV->List (Nat × Bm)->Option R} {K':PV->List (Nat × Bm)->Option R'} (hK:∀c b,(∀q∈b,q.1=id)->Rel (K c b) (K' c b)):Rel (YY shr id t p K) (YY shr id t p K'):=by
 unfold YY;split
 ·cases shr
  ·exact QE hn fun _ _=>hK _ _ (by simp)
  ·exact Ez hn fun _ _ _=>hK _ _ (by simp)
 ·exact Lr hn fun _=>hK _ _ (by simp)
theorem Pz (hn:Rel none none){shr:Bool}{N:Nat}:∀{ts:List CT}{id:Nat}{ps:List PV}{K:List PV->List (Nat × Bm)->Option R} {K':List PV->List (Nat × Bm)->Option R'},(∀c b,(∀q∈b,∃j,q.1=id+N*j)->Rel (K c b) (K' c b))->Rel (My shr N id ts ps K) (My shr N id ts ps K')
 |[],_,_,_,_,hK=>Ei hn (hK _ _ (by simp))
 |_::_,id,_,_,_,hK=>Bg hn fun _ _ _=>YC hn fun _ b hb=>Pz hn fun _ bs AF=>hK _ _ fun q hq=>by
   rcases List.mem_append.1 hq with h|h
   ·exact⟨0,by rw[hb q h];simp⟩
   ·obtain⟨j,hj⟩:=AF q h;exact⟨j+1,by rw[hj,Nat.mul_add];omega⟩
theorem Abk (hn:Rel none none){P:Program}{shr:Bool}{N id:Nat}{t:TypeId}{p:PV}{K:PV->List (Nat × Bm)->Option R} {K':PV->List (Nat × Bm)->Option R'} (hK:∀c b,(∀q∈b,∃j,q.1=id+N*j)->Rel (K c b) (K' c b)):Rel (VW P shr N id t p K) (VW P shr N id t p K'):=by
 unfold VW;split
 ·refine UC hn fun ps=>Pz hn fun _ _ hb=>hK _ _ fun q hq=>?_
  rcases List.mem_cons.1 hq with rfl|hq
  ·exact⟨0,by simp⟩
  ·obtain⟨j,hj⟩:=hb q hq;exact⟨j+1,by rw[hj,Nat.mul_add];omega⟩
 cases Bx P t
 ·exact Pz hn fun _ _ hb=>Bg hn fun _ _ _=>Ei hn (hK _ _ hb)
 ·exact Hu hn fun _ _=>Pz hn fun _ _ hb=>hK _ _ hb
theorem Ud (hn:Rel none none){P:Program}{shr:Bool}{N:Nat}:∀{ts:List TypeId}{id:Nat}{ps:List PV}{K:List PV->List (Nat × Bm)->Option R} {K':List PV->List (Nat × Bm)->Option R'},(∀c b,(∀q∈b,∃j,q.1=id+N*j)->Rel (K c b) (K' c b))->Rel (Vh P shr N id ts ps K) (Vh P shr N id ts ps K')
 |[],_,_,_,_,hK=>Ei hn (hK _ _ (by simp))
 |t::_,id,_,_,_,hK=>Bg hn fun _ _ _=>Abk hn fun _ b hb=>Ud hn fun _ bs AF=>hK _ _ fun q hq=>by
   rcases List.mem_append.1 hq with h|h
   ·exact hb q h
   ·obtain⟨j,hj⟩:=AF q h;exact⟨IP P t+j,by rw[hj,Nat.mul_add];omega⟩
end
theorem Pm {p:PV}{i:Nat}(h:i∈Al p):i∈B8 p:=by cases p<;>first|exact h|simp[Al] at h
theorem E1 {p:PV}{i:Nat}(h:i∈B8 p):i∈Bq p:=by cases p<;>first|exact h|simp[B8,Al] at h
theorem Ij {p:PV}{i:Nat}(h:i∈Al p):i∈Bq p:=E1 (Pm h)
section
variable {R R':Type} {Rel:Option R->Option R'->Prop} {P:Program} {N:Nat} {tm tm':Nat->PV} {f f' g g':Nat->Option (List PV)} {o:Oper}
theorem Zq (hn:Rel none none){t:TypeId}{x:Operand}{K:PV->Option R}{K':PV->Option R'}(hx:Bw tm x=Bw tm' x)(hK:∀p,Rel (K p) (K' p)):Rel (T7 P t tm x K) (T7 P t tm' x K'):=by
 unfold T7;split
 ·exact RM hn (fun _ _=>hK _) (fun _=>hK _)
 ·rw[hx];exact hK _
theorem XM (hn:Rel none none){t:CT}{p:PV}{K:PV->Option R}{K':PV->Option R'}(hK:∀p,Al p=[]->Rel (K p) (K' p)):Rel (Uu t p K) (Uu t p K'):=by
 unfold Uu;split
 ·exact G2 hn fun _=>hK _ rfl
 ·exact Ft hn fun _=>hK _ rfl
 ·exact Es hn fun _=>hK _ rfl
 ·exact Ez hn fun _ _ _=>hK _ rfl
 ·exact QU hn fun _=>hK _ rfl
theorem BU (hn:Rel none none):∀{ts:List CT}{cells:List PV}{off:Nat}{K:List PV->Option R}{K':List PV->Option R'},(∀c,(∀p∈c,Al p=[])->Rel (K c) (K' c))->Rel (Oa ts cells off K) (Oa ts cells off K')
 |[],_,_,_,_,hK=>hK _ (by simp)
 |_::_,_,_,_,_,hK=>XM hn fun c hc=>BU hn fun cs Xd=>hK _ (by
   intro p hp;rcases List.mem_cons.1 hp with h|h
   ·rw[h];exact hc
   ·exact Xd p h)
theorem Tr (hn:Rel none none){t:TypeId}{K:List PV->Option R}{K':List PV->Option R'}(hK:∀c,(∀p∈c,Al p=[])->Rel (K c) (K' c)):Rel (F4 P t K) (F4 P t K'):=
 Cz hn fun _ _=>As hn fun _=>BU hn hK
theorem Ot {p c:PV}(h:c∈cellsOf p){i:Nat}(hi:i∈Al c):i∈B8 p:=by
 unfold cellsOf at h;split at h
 ·exact List.mem_flatMap.2 ⟨c,h,hi⟩
 ·simp at h;subst h;exact Pm hi
theorem OX {cells new:List PV}{off:Nat}{c:PV}(h:c∈Cs cells new off):c∈cells∨c∈new:=by
 unfold Cs at h;rcases List.mem_append.1 h with h|h
 ·rcases List.mem_append.1 h with h|h
  ·exact .inl (List.mem_of_mem_take h)
  ·exact .inr h
 ·exact .inl (List.mem_of_mem_drop h)
theorem Z1 (hn:Rel none none){F5:Nat->Option (Nat × Nat)} {S:Nat->Prop}:∀{ps:List (Nat × PV)} {cells:List PV}{K:List PV->Option R}{K':List PV->Option R'},(∀c∈cells,∀i∈Al c,S i)->(∀q∈ps,∀i∈B8 q.2,S i) ->
  (∀cs,(∀c∈cs,∀i∈Al c,S i)->Rel (K cs) (K' cs))->Rel (Pk F5 ps cells K) (Pk F5 ps cells K')
 |[],_,_,_,h1,_,hK=>hK _ h1
 |(_,p)::_,_,_,_,h1,h2,hK=>Cz hn fun _ _=>As hn fun _=>Z1 hn (fun c hc i hi=>by
   rcases OX hc with h|h
   ·exact h1 c h i hi
   ·exact h2 (_,p) List.mem_cons_self i (Ot h hi)) (fun q hq=>h2 q (List.mem_cons_of_mem _ hq)) hK
theorem Vv (hn:Rel none none):∀{ts:List CT}{ps:List PV}{K:List PV->List Nat->Option R}{K':List PV->List Nat->Option R'},(∀t∈ts,∀es,t ≠ .sl es)->(∀c,Rel (K c []) (K' c []))->Rel (Ky g ts ps K) (Ky g' ts ps K')
 |[],[],_,_,_,hK=>hK _
 |[],_::_,_,_,_,_=>hn
 |_::_,[],_,_,_,_=>hn
 |t::ts,p::ps,K,K',ht,hK=>by
  show Rel (Lc g t p _) (Lc g' t p _)
  have:∀{g:Nat->Option (List PV)} {S:Type} {L:PV->List Nat->Option S},Lc g t p L=Uu t p fun c=>L c []:=by
   intro g S L;cases t with
   |sl es=>exact absurd rfl (ht _ (by simp) es)
   |_=>rfl
  rw[this,this];exact Lr hn fun c=>Vv hn (fun t h=>ht t (by simp[h])) fun cs=>hK _
theorem Aak (hn:Rel none none){es:Nat}{t:TypeId}{x:PV}{K:Nat->List PV->Option R}{K':Nat->List PV->Option R'}(hx:HO Rel g g' (Al x)) (hK:∀m c,Rel (K m c) (K' m c)):Rel (OH P g es t x K) (OH P g' es t x K'):=by
 unfold OH;split
 ·exact As hn fun _=>Es hn fun _=>hK _ _
 ·exact Mn hn hx hK
 ·exact hn
theorem Acd (hn:Rel none none){t:TypeId}{x:PV}{K:Nat->Option R}{K':Nat->Option R'}(hK:∀n,Rel (K n) (K' n)):Rel (WE P t x K) (WE P t x K'):=by
 unfold WE;split
 ·exact Ez hn fun _ _ _=>As hn fun _=>hK _
 ·exact hn
theorem LU (hn:Rel none none){d:Nat}{t tx:TypeId}{x:PV}{K:PV->List (Nat × Bm)->Option R} {K':PV->List (Nat × Bm)->Option R'} (hx:HO Rel g g' (Al x)) (hK:∀v nw,Rel (K v nw) (K' v nw)):Rel (P4 P g d t tx x K) (P4 P g' d t tx x K'):=by
 unfold P4;split
 ·exact As hn fun _=>Aak hn hx fun _ _=>As hn fun _=>hK _ _
 ·exact hn
theorem Zx (hn:Rel none none){C:F3}{call:Ax}{K:PV->List Nat->List (Nat × Bm)->Option R} {K':PV->List Nat->List (Nat × Bm)->Option R'}
  (H3:∀x∈o.op.operands.toList,Bw tm x=Bw tm' x)
  (hfg:Gm P o.op=true->∀x∈o.op.operands.toList,∀i∈Bq (Bw tm' x),(f i=f' i∧g i=g' i)∨(f i=none∧g i=none∧∀b,Rel none b))
  (hK:∀v fz nw,(Gm P o.op=false->fz=[]∧∀q∈nw,o.dst=some q.1)->(∀i∈fz,g i≠none)->Rel (K v fz nw) (K' v fz nw)):
  Rel (Xx C P N call tm f g o K) (Xx C P N call tm' f' g' o K'):=by
 have h0:∀v,Rel (K v [] []) (K' v [] []):=fun v=>hK v [] [] (fun _=>⟨rfl,by simp⟩) (by simp)
 have hf:Gm P o.op=true->∀x∈o.op.operands.toList,HO Rel f f' (Bq (Bw tm' x)):=fun h x hx i hi=>(hfg h x hx i hi).imp (·.1) fun h=>⟨h.1,h.2.2⟩
 have hg:Gm P o.op=true->∀x∈o.op.operands.toList,HO Rel g g' (Bq (Bw tm' x)):=fun h x hx i hi=>(hfg h x hx i hi).imp (·.2) fun h=>⟨h.2.1,h.2.2⟩
 unfold Xx;generalize hop:o.op=op at *
 split
 ·exact Zq hn (H3 _ (by simp[Op.operands])) h0
 ·exact Zq hn (H3 _ (by simp[Op.operands])) h0
 ·rename_i c x y;rw[H3 c (by simp[Op.operands]),H3 x (by simp[Op.operands]),H3 y (by simp[Op.operands])]
  exact Ft hn fun _=>Xa (h0 _) (h0 _)
 ·exact Cz hn fun d hd=>Ol hn fun _=>hK _ _ _ (fun _=>⟨rfl,by simp[hd]⟩) (by simp)
 ·rename_i t x;rw[H3 x (by simp[Op.operands])]
  refine Cz hn fun d hd=>As hn fun _=>?_
  cases Pe P t
  ·exact Kq hn fun _=>hK _ _ _ (fun _=>⟨rfl,by simp[hd]⟩) (by simp)
  ·exact Ma hn fun _=>hK _ _ _ (fun _=>⟨rfl,by simp[hd]⟩) (by simp)
 ·rename_i t ps
  have:(ps.toList.map fun q=>(q.1,Bw tm q.2))=ps.toList.map fun q=>(q.1,Bw tm' q.2):=by
   apply List.map_congr_left;intro q hq;rw[H3 q.2 (by simp only[Op.operands];exact List.mem_map_of_mem hq)]
  rw[this];exact As hn fun _=>Ol hn fun _=>U0 hn fun _=>Kq hn fun _=>h0 _
 ·rename_i t n ps
  have:(ps.toList.map fun q=>(q.1,Bw tm q.2))=ps.toList.map fun q=>(q.1,Bw tm' q.2):=by
   apply List.map_congr_left;intro q hq;rw[H3 q.2 (by simp only[Op.operands];exact List.mem_map_of_mem hq)]
  rw[this];refine Cz hn fun d hd=>?_
  split
  ·rename_i e hu;cases LD:Hz P [e]
   ·refine As hn fun _=>Tr hn fun z hz=>U0 hn fun cs=>Vv hn ?_ fun cs'=>hK _ _ _ (fun _=>⟨rfl,by simp[hd]⟩) (by simp)
    intro c hc es he;obtain⟨l,hl,hc⟩:=List.mem_flatten.1 hc;rw[List.eq_of_mem_replicate hl] at hc;subst he
    have:Hz P [e]=true:=by
     unfold Hz;simp only[List.any_cons,List.any_nil,Bool.or_false,Bool.or_eq_true];exact .inr (List.any_eq_true.2 ⟨_,hc,rfl⟩)
    rw[this] at LD;cases LD
   refine As hn fun _=>Tr hn fun z hz=>Z1 (S:=fun i=>∃x∈(Op.buildSlice t n ps).operands.toList,i∈Bq (Bw tm' x)) hn ?_ ?_ fun cs Xd=>?_
   ·intro c hc i hi;obtain⟨l,hl,hc⟩:=List.mem_flatten.1 hc;rw[List.eq_of_mem_replicate hl] at hc;rw[hz c hc] at hi;simp at hi
   ·intro q hq i hi;obtain⟨q',E2,rfl⟩:=List.mem_map.1 hq;exact⟨q'.2,by simp only[Op.operands];exact List.mem_map_of_mem E2,E1 hi⟩
   ·refine Pw hn (fun i hi=>?_) fun cs' m hm=>hK _ _ _ (fun h=>by simp[Gm,hu,LD] at h) hm
    obtain⟨c,hc,hi⟩:=List.mem_flatMap.1 hi;obtain⟨x,hx,hxi⟩:=Xd c hc i hi;exact hg (by simp[Gm,hu,LD]) x hx i hxi
  ·exact hn
 ·rename_i t x;rw[H3 x (by simp[Op.operands])]
  exact DP hn (fun i hi=>hfg (by simp[Gm]) x (by simp[Op.operands]) i (Ij hi)) h0
 ·rename_i x;rw[H3 x (by simp[Op.operands])]
  exact Ug hn h0
 ·rename_i op' t x y _;rw[H3 x (by simp[Op.operands]),H3 y (by simp[Op.operands])]
  exact IX hn h0
 ·rename_i op' t x;rw[H3 x (by simp[Op.operands])]
  exact Aew hn h0
 ·rename_i src dst x;rw[H3 x (by simp[Op.operands])]
  exact WC hn (fun hds i hi=>hg (by simp[Gm,hds]) x (by simp[Op.operands]) i (Ij hi)) fun v b hb=>Cz hn fun d hd=>hK _ _ _ (fun _=>⟨rfl,fun q hq=>by rw[hd,hb q hq,hd];rfl⟩) (by simp)
 ·rename_i t x y;rw[H3 x (by simp[Op.operands]),H3 y (by simp[Op.operands])]
  refine Cz hn fun d hd=>?_
  split
  ·exact Ds hn fun _ _=>Ds hn fun _ _=>As hn fun _=>Ol hn fun _=>hK _ _ _ (fun _=>⟨rfl,by simp[hd]⟩) (by simp)
  ·exact hn
 ·rename_i t x lo hi mx;split
  ·rw[H3 x (by simp[Op.operands])]
   have h1:lo.map (Bw tm)=lo.map (Bw tm'):=by
    cases lo with
    |none=>rfl
    |some y=>simp only[Option.map_some];rw[H3 y (by simp[Op.operands])]
   have h2:hi.map (Bw tm)=hi.map (Bw tm'):=by
    cases hi with
    |none=>rfl
    |some y=>simp only[Option.map_some];rw[H3 y (by simp[Op.operands])]
   rw[h1,h2];exact NY hn (fun ⟨n,e,he⟩ i hi=>hf (by simp[Gm,he]) x (by simp[Op.operands]) i (Ij hi)) h0
  ·rename_i m;rw[H3 x (by simp[Op.operands])]
   have h1:lo.map (Bw tm)=lo.map (Bw tm'):=by
    cases lo with
    |none=>rfl
    |some y=>simp only[Option.map_some];rw[H3 y (by simp[Op.operands])]
   have h2:hi.map (Bw tm)=hi.map (Bw tm'):=by
    cases hi with
    |none=>rfl
    |some y=>simp only[Option.map_some];rw[H3 y (by simp[Op.operands])]
   rw[h1,h2,H3 m (by simp[Op.operands])]
   exact Cz hn fun d hd=>KX hn fun c=>hK _ _ _ (fun _=>⟨rfl,by simp[hd]⟩) (by simp)
 ·rename_i t x fl;rw[H3 x (by simp[Op.operands])]
  exact Cz hn fun _ _=>As hn fun _=>Ug hn h0
 ·rename_i t x fl;rw[H3 x (by simp[Op.operands])]
  exact Cz hn fun _ _=>As hn fun _=>Hu hn fun _ _=>Kq hn fun _=>S8 hn h0
 ·rename_i t x i;rw[H3 x (by simp[Op.operands]),H3 i (by simp[Op.operands])]
  exact Ds hn fun _ _=>Yz hn h0
 ·rename_i t x i;rw[H3 x (by simp[Op.operands]),H3 i (by simp[Op.operands])]
  refine Ds hn fun _ _=>?_
  split
  ·exact Es hn fun _=>As hn fun _=>Cz hn fun _ _=>h0 _
  ·exact Hu hn fun _ _=>As hn fun _=>Kq hn fun _=>S8 hn h0
  ·exact hn
 ·rename_i t x k ok;rw[H3 x (by simp[Op.operands]),H3 k (by simp[Op.operands])]
  split
  ·refine As hn fun _=>?_
   split
   ·exact Es hn fun _=>Cz hn fun _ _=>RM hn (fun _ _=>As hn fun _=>h0 _) (fun _=>As hn fun _=>h0 _)
   ·exact hn
  ·exact hn
 ·rename_i x i;rw[H3 x (by simp[Op.operands])]
  split
  ·exact Cz hn fun _ _=>h0 _
  ·exact hn
 ·rename_i c
  have Il:∀x∈c.args.toList,x∈(Op.call c).operands.toList:=by
   intro x hx;simp only[Op.operands,Call.operands,Array.toList_append,List.mem_append];exact .inr hx
  have rc:∀fn,Gm P (.call c)=true->Rel (Xu C P N call tm g o c fn K) (Xu C P N call tm' g' o c fn K'):=by
   intro fn MN;unfold Xu;have:c.args.toList.map (Bw tm)=c.args.toList.map (Bw tm'):=List.map_congr_left fun x hx=>H3 x (Il x hx)
   rw[this];refine DM hn (fun i hi=>?_) fun vs m hm=>DC hn fun rv ro=>Ei hn (As hn fun _=>Ud hn fun ws bs AF=>As hn fun _=>hK _ _ _ (fun h=>by rw[MN] at h;cases h) (fun i hi=>?_))
   ·obtain⟨p,hp,hi⟩:=List.mem_flatMap.1 hi;obtain⟨x,hx,rfl⟩:=List.mem_map.1 hp;exact hg MN x (Il x hx) i (E1 hi)
   ·have MO:i∈m:=by
     cases hq:Hz P (K3 P o.type)<;>rw[hq] at hi
     ·simp at hi
     ·exact hi
    exact hm i MO
  split
  ·refine Bg hn fun x _ hx=>Bg hn fun _ _ _=>?_
   rw[H3 x (Il x (by rw[hx];simp))]
   exact Aad hn fun _=>h0 _
  ·refine Bg hn fun x _ hx=>Bg hn fun _ _ _=>?_
   rw[H3 x (Il x (by rw[hx];simp))]
   exact Acd hn fun _=>h0 _
  ·refine Bg hn fun x _ hx=>Bg hn fun y _ hy=>Ei hn ?_
   subst hy;rw[H3 x (Il x (by rw[hx];simp)),H3 y (Il y (by rw[hx];simp))]
   exact YS hn h0
  ·refine Bg hn fun x _ hx=>Bg hn fun y _ hy=>Ei hn ?_
   subst hy;rw[H3 x (Il x (by rw[hx];simp)),H3 y (Il y (by rw[hx];simp))]
   exact Abh hn h0
  ·rename_i hc;have MN:Gm P (.call c)=true:=by simp[Gm,hc]
   refine As hn fun _=>Cz hn fun d hd=>Bg hn fun _ _ hb=>Bg hn fun x _ hx=>Ei hn (Bg hn fun _ _ _=>Bg hn fun _ _ _=>?_)
   have TD:x∈c.args.toList:=by rw[hb,hx];simp
   rw[H3 x (Il x TD)];exact LU hn (fun i hi=>hg MN x (Il x TD) i (Ij hi)) fun v nw=>hK _ _ _ (fun h=>by rw[MN] at h;cases h) (by simp)
  ·rename_i fn hc;have MN:Gm P (.call c)=true:=by simp[Gm,hc]
   exact rc fn MN
  ·rename_i t hc;have MN:Gm P (.call c)=true:=by simp[Gm,hc]
   have ht:=H3 (.tmp t) (by simp[Op.operands,Call.operands,hc])
   change tm t=tm' t at ht;rw[ht];exact Ac2 hn fun fn=>rc fn MN
  ·exact hn
 ·exact hn
variable {hp:Nat->Option Bm}
end
open Go.RowKit
abbrev Pi:=PV × List Nat × List (Nat × Bm)
def F2 (ops:Array Oper)(o:Oper)(tm:Nat->PV):Option Bool:=
 match o.guard with
 |none=>some true
 |some (j,want)=>
  match (ops[j]?).bind (·.dst) with
  |none=>none
  |some d=>
   match tm d with
   |.sc (.bool b)=>some (b==want)
   |.sc (.tuple _)=>some false
   |_=>none
section
variable {R:Type} {r:R} {C:F3} {P:Program} {N:Nat} {call:Ax} {ops:Array Oper} {o x:Oper} {s:St} {K:St->Option R}
theorem EP:De C P N call ops o s K=match F2 ops o s.tm with
  |none=>none
  |some true=>LK C P N call o s K
  |some false=>Bj (Fi N o.dst) (K ⟨Bl s.tm o.dst (.sc undef),s.hp⟩):=by
 unfold De F2;cases o.guard with
 |none=>rfl
 |some q=>
  obtain⟨j,want⟩:=q;cases hd:(ops[j]?).bind (·.dst) with
  |none=>simp[hd]
  |some d=>
   simp only[hd];cases ht:s.tm d with
   |sc v=>
    cases v with
    |bool b=>
     cases b<;>cases want<;>simp only[Bh,cond_true,cond_false,Td s.tm ht]<;>rfl
    |_=>rfl
   |_=>rfl
def UE (C:F3)(P:Program)(N:Nat)(call:Ax)(o:Oper)(s:St):Option Pi:=
 Xx C P N call s.tm (rd s.hp) (Hx s.hp) o fun v fz nw=>some (v,fz,nw)
theorem Ad0 {K:PV->List Nat->List (Nat × Bm)->Option R}:Xx C P N call s.tm (rd s.hp) (Hx s.hp) o K=(UE C P N call o s).bind fun q=>K q.1 q.2.1 q.2.2:=by
 refine Zx (Rel:=fun (a:Option R) (b:Option Pi)=>a=b.bind fun q=>K q.1 q.2.1 q.2.2) (K:=K) (K':=fun v fz nw=>some (v,fz,nw)) rfl (fun _ _=>rfl) (fun _ _ _ _ _=>.inl ⟨rfl,rfl⟩) fun v fz nw _ _=>rfl
theorem PB {q:Pi}(h:UE C P N call o s=some q):(Gm P o.op=false->q.2.1=[]∧∀p∈q.2.2,o.dst=some p.1)∧∀i∈q.2.1,Hx s.hp i≠none:=by
 have:=Zx (C:=C) (P:=P) (N:=N) (call:=call) (o:=o) (tm:=s.tm) (tm':=s.tm) (f:=rd s.hp) (f':=rd s.hp) (g:=Hx s.hp) (g':=Hx s.hp)
  (Rel:=fun (a:Option Pi)(_:Option Pi)=>∀q,a=some q->(Gm P o.op=false->q.2.1=[]∧∀p∈q.2.2,o.dst=some p.1)∧∀i∈q.2.1,Hx s.hp i≠none)
  (K:=fun v fz nw=>some (v,fz,nw)) (K':=fun v fz nw=>some (v,fz,nw)) (fun _ h=>by cases h) (fun _ _=>rfl) (fun _ _ _ _ _=>.inl ⟨rfl,rfl⟩) (fun v fz nw h1 h2 q hq=>by cases hq;exact⟨h1,h2⟩)
 exact this q h
def gE (C:F3)(P:Program)(N:Nat)(call:Ax)(ops:Array Oper)(o:Oper)(s:St):Option Pi:=
 match F2 ops o s.tm with
 |none=>none
 |some true=>bif M7 C P o.op then none else UE C P N call o s
 |some false=>some (.sc undef,[],[])
def Fx (C:F3)(P:Program)(ops:Array Oper)(o:Oper)(tm:Nat->PV):Bool:=M7 C P o.op&&(F2 ops o tm==some true)
theorem Ir (h:Fx C P ops o s.tm=false):De C P N call ops o s K=(gE C P N call ops o s).bind fun q=>Uq N s o.dst q.1 q.2.1 q.2.2 K:=by
 rw[EP];unfold gE;unfold Fx at h;cases hv:F2 ops o s.tm with
 |none=>rfl
 |some b=>
  rw[hv] at h;cases b with
  |false=>
   show Bj _ _=Uq N s o.dst (.sc undef) [] [] K;unfold Uq;have h1:Bo s.hp []=true:=rfl;have h2:Ao (Af s.hp []) []=s.hp:=rfl;rw[h1,h2,Bool.and_true]
  |true=>
   have hm:M7 C P o.op=false:=by simpa using h
   simp only[LK,hm,cond_false];exact Ad0
theorem Ha (h:Fx C P ops o s.tm=true):De C P N call ops o s K=Qg C P N call s o K:=by
 rw[EP];unfold Fx at h;simp only[Bool.and_eq_true,beq_iff_eq] at h;rw[h.2];simp only[LK,h.1,cond_true]
theorem Oz {q:Pi}(h:gE C P N call ops o s=some q):(Gm P o.op=false->q.2.1=[]∧∀p∈q.2.2,o.dst=some p.1)∧∀i∈q.2.1,Hx s.hp i≠none:=by
 unfold gE at h;split at h
 ·cases h
 ·cases hm:M7 C P o.op<;>rw[hm] at h
  ·exact PB h
  ·cases h
 ·cases h;exact⟨fun _=>⟨rfl,by simp⟩,by simp⟩
theorem Er {tm tm':Nat->PV}(h:∀t∈looks ops o,tm t=tm' t):∀y∈o.op.operands.toList,Bw tm y=Bw tm' y:=by
 intro y hy;cases y with
 |tmp t=>
  refine h t ?_;unfold looks YU;refine List.mem_append.2 (.inl (List.mem_filterMap.2 ⟨.tmp t,hy,rfl⟩))
 |const v=>cases v<;>rfl
 |func f=>rfl
 |«global» g=>rfl
theorem Iv {tm tm':Nat->PV}(h:∀t∈looks ops o,tm t=tm' t):F2 ops o tm=F2 ops o tm':=by
 unfold F2;cases hg:o.guard with
 |none=>rfl
 |some q=>
  obtain⟨j,want⟩:=q;cases hd:(ops[j]?).bind (·.dst) with
  |none=>simp[hd]
  |some d=>
   have:tm d=tm' d:=h d (by
    unfold looks;rw[hg];refine List.mem_append.2 (.inr ?_);simp only[hd];simp)
   simp only[hd,this]
theorem Tl {s':St}{q:Pi}(ht:∀t∈looks ops o,s.tm t=s'.tm t)
  (hm:Gm P o.op=true->∀y∈o.op.operands.toList,∀i∈Bq (Bw s'.tm y),(rd s.hp i=rd s'.hp i∧Hx s.hp i=Hx s'.hp i)∨(rd s.hp i=none∧Hx s.hp i=none))
  (h:gE C P N call ops o s=some q):gE C P N call ops o s'=some q:=by
 unfold gE at h ⊢;rw[←Iv ht];split at h
 ·cases h
 ·cases hM:M7 C P o.op<;>rw[hM] at h
  ·have:=Zx (C:=C) (P:=P) (N:=N) (call:=call) (o:=o) (tm:=s.tm) (tm':=s'.tm) (f:=rd s.hp) (f':=rd s'.hp) (g:=Hx s.hp) (g':=Hx s'.hp)
    (Rel:=fun (a b:Option Pi)=>a=some q->b=some q)
    (K:=fun v fz nw=>some (v,fz,nw)) (K':=fun v fz nw=>some (v,fz,nw)) (fun h=>h) (Er ht)
    (fun H8 y hy i hi=>(hm H8 y hy i hi).imp id fun h=>⟨h.1,h.2,fun _ h=>by cases h⟩) (fun v fz nw _ _ h=>h)
   exact this h
  ·cases h
 ·exact h
end
open Go.RowKit
theorem Mk:∀{nw:List (Nat × Bm)} {hp Cn:Nat->Option Bm},Bo hp nw=true->(∀i b,(i,b)∈nw->Cn i=none)->Bo Cn nw=true
 |[],_,_,_,_=>rfl
 |(i,b)::nw,hp,Cn,h,h'=>by
  simp only[Bo,Bool.and_eq_true,Option.isNone_iff_eq_none] at h ⊢;exact⟨⟨h' i b (by simp),h.1.2⟩,Mk h.2 fun j c hj=>h' j c (by simp[hj])⟩
section
variable {hp:Nat->Option Bm} {fz:List Nat} {nw:List (Nat × Bm)}
theorem E8 (ha:Bo hp nw=true){i:Nat}(hi:hp i≠none):Ao (Af hp fz) nw i=if i∈fz then (hp i).map Pg else hp i:=by
 obtain⟨h1,h2⟩:=Bk ha;rw[(Dx h2).2 i (fun bx hb=>hi (h1 i bx hb)),Br]
theorem Ho (ha:Bo hp nw=true){i:Nat}{b:Bm}(hi:(i,b)∈nw):Ao (Af hp fz) nw i=some b:=
 (Dx (Bk ha).2).1 i b hi
theorem Kl (ha:Bo hp nw=true){i:Nat}(hi:hp i=none)(hn:∀b,(i,b) ∉ nw):Ao (Af hp fz) nw i=none:=by
 rw[(Dx (Bk ha).2).2 i hn,Br,hi];simp
theorem K1 (ha:Bo hp nw=true){i:Nat}(hi:hp i≠none):Ao (Af hp fz) nw i≠none:=by
 rw[E8 ha hi];cases h:hp i with
 |none=>exact absurd h hi
 |some b=>split<;>simp
theorem Afc (b:Option Bm):(match b.map Pg with|some (.st c)=>some c|some (.ar _ c)=>some c|_=>none)=(match b with|some (.st c)=>some c|some (.ar _ c)=>some c|_=>none):=by
 cases b with
 |none=>rfl
 |some b=>cases b<;>rfl
theorem YP (b:Option Bm):(match b.map Pg with|some (.ar _ c)=>some c|_=>none)=(match b with|some (.ar _ c)=>some c|_=>none):=by
 cases b with
 |none=>rfl
 |some b=>cases b<;>rfl
theorem IA (ha:Bo hp nw=true){i:Nat}(hi:hp i≠none):rd (Ao (Af hp fz) nw) i=rd hp i:=by
 unfold rd;rw[E8 ha hi];by_cases h:i∈fz
 ·rw[if_pos h];exact Afc _
 ·rw[if_neg h]
theorem EC (ha:Bo hp nw=true){i:Nat}(hi:hp i≠none):Hx (Ao (Af hp fz) nw) i=Hx hp i:=by
 unfold Hx;rw[E8 ha hi];by_cases h:i∈fz
 ·rw[if_pos h];exact YP _
 ·rw[if_neg h]
theorem SR {i:Nat}(hi:hp i=none):rd hp i=none:=by unfold rd;rw[hi]
theorem I8 {i:Nat}(hi:hp i=none):Hx hp i=none:=by unfold Hx;rw[hi]
theorem Apx (b:Option Bm):(b.map Pg).map Pg=b.map Pg:=by
 cases b with
 |none=>rfl
 |some b=>cases b<;>rfl
theorem MY {fx fo:List Nat}{nx no:List (Nat × Bm)} (hx:Bo hp nx=true)(ho:Bo (Ao (Af hp fx) nx) no=true) (KD:Bo hp no=true)
  (Ph:Bo (Ao (Af hp fo) no) nx=true) (h1:∀i∈fx,hp i≠none)(h2:∀i∈fo,hp i≠none):
  Ao (Af (Ao (Af hp fx) nx) fo) no=Ao (Af (Ao (Af hp fo) no) fx) nx:=by
 funext i
 by_cases hi:hp i=none
 ·by_cases GC:∃b,(i,b)∈no
  ·obtain⟨b,hb⟩:=GC
   have hnx:∀b',(i,b') ∉ nx:=fun b' G1=>by
    have:=(Bk ho).1 i b hb;rw[Ho hx G1] at this;cases this
   rw[Ho ho hb,E8 Ph (by rw[Ho KD hb];simp),Ho KD hb,if_neg (fun h=>h1 i h hi)]
  ·have GC:∀b,(i,b) ∉ no:=fun b hb=>GC ⟨b,hb⟩
   by_cases hnx:∃b,(i,b)∈nx
   ·obtain⟨b,hb⟩:=hnx;rw[Ho Ph hb,E8 ho (by rw[Ho hx hb];simp),Ho hx hb,if_neg (fun h=>h2 i h hi)]
   ·have hnx:∀b,(i,b) ∉ nx:=fun b hb=>hnx ⟨b,hb⟩
    rw[Kl ho (Kl hx hi hnx) GC,Kl Ph (Kl KD hi GC) hnx]
 ·rw[E8 ho (K1 hx hi),E8 hx hi,E8 Ph (K1 KD hi),E8 KD hi];split<;>split<;>first|rfl|rw[Apx]
end
section
variable {R:Type} {r:R} {C:F3} {P:Program} {N:Nat} {call:Ax} {ops:Array Oper} {o x:Oper} {s:St} {K:St->Option R}
structure Tf (C:F3) (P:Program) (ops:Array Oper) (x o:Oper):Prop where
 xo:∀d,x.dst=some d->d ∉ looks ops o
 ne:∀d,x.dst=some d->o.dst≠some d
 ox:∀d,o.dst=some d->d ∉ looks ops x
 mx:M7 C P x.op=true->Gm P o.op=false
 mo:M7 C P o.op=true->Gm P x.op=false
theorem Ng {l:List Nat}{d:Nat}(h:l.any (Nat.beq d)=false):d ∉ l:=by
 intro hm;have:l.any (Nat.beq d)=true:=List.any_eq_true.2 ⟨d,hm,Nat.beq_refl d⟩;rw[this] at h;cases h
theorem Abp (h:Zu C P ops x o=false):Tf C P ops x o:=by
 unfold Zu at h;simp only[Bool.or_eq_false_iff,Bool.and_eq_false_iff] at h;obtain⟨⟨⟨h1,h2⟩,h3⟩,h4⟩:=h;refine⟨fun d hd=>?_,fun d hd he=>?_,fun d hd=>?_,fun hm=>?_,fun hm=>?_⟩
 ·simp only[hd,Bool.or_eq_false_iff] at h1;exact Ng h1.1
 ·simp only[hd,he,Bool.or_eq_false_iff] at h1;rw[Nat.beq_refl] at h1;cases h1.2
 ·simp only[hd] at h2;exact Ng h2
 ·rw[hm] at h3;rcases h3 with h|h
  ·cases h
  ·exact h
 ·rw[hm] at h4;rcases h4 with h|h
  ·cases h
  ·exact h
theorem D6 {tm:Nat->PV}{d:Option Tmp}{v:PV}{l:List Nat}(h:∀i,d=some i->i ∉ l):∀t∈l,Bl tm d v t=tm t:=by
 intro t ht;cases d with
 |none=>rfl
 |some d=>exact Ah _ _ (by rintro rfl;exact h _ rfl ht)
theorem Ii {tm:Nat->PV}{d e:Option Tmp}{u v:PV}(h:∀i,d=some i->e≠some i):Bl (Bl tm d u) e v=Bl (Bl tm e v) d u:=by
 cases d with
 |none=>rfl
 |some d=>
  cases e with
  |none=>rfl
  |some e=>exact IF _ _ _ (by rintro rfl;exact h _ rfl rfl)
def MS (C:F3)(P:Program)(o:Oper)(s:St):Prop:=(∀y∈o.op.operands.toList,∀i∈Bq (Bw s.tm y),s.hp i≠none) ∧
 (M7 C P o.op=true->Kx o.op=false->∀y∈o.op.operands.toList,∀i∈Bq (Bw s.tm y),∀c,s.hp i=some (.st c)->∀p∈c,∀k∈Al p,s.hp k≠none)
theorem Ge {tm tm':Nat->PV}(h:∀t∈looks ops o,tm t=tm' t):Fx C P ops o tm=Fx C P ops o tm':=by
 unfold Fx;rw[Iv h]
theorem QH (hw:MS C P o s)(xo:∀d,x.dst=some d->d ∉ looks ops o)(ne:∀d,x.dst=some d->o.dst≠some d)(ox:∀d,o.dst=some d->d ∉ looks ops x)(hx:Fx C P ops x s.tm=false)(ho:Fx C P ops o s.tm=false)
  (h:De C P N call ops x s (fun s1=>De C P N call ops o s1 K)=some r):De C P N call ops o s (fun s1=>De C P N call ops x s1 K)=some r:=by
 rw[Ir hx] at h;cases ex:gE C P N call ops x s with
 |none=>rw[ex] at h;cases h
 |some q=>
 obtain⟨vx,fx,nx⟩:=q;rw[ex] at h;obtain⟨hb,h1⟩:=Aj h;simp only[Bool.and_eq_true] at hb;have t1:∀t∈looks ops o,Bl s.tm x.dst vx t=s.tm t:=D6 xo;change De C P N call ops o ⟨Bl s.tm x.dst vx,Ao (Af s.hp fx) nx⟩ K=some r at h1;rw[Ir (by rw[Ge t1];exact ho)] at h1
 cases eo:gE C P N call ops o ⟨Bl s.tm x.dst vx,Ao (Af s.hp fx) nx⟩ with
 |none=>rw[eo] at h1;cases h1
 |some q=>
 obtain⟨vo,fo,no⟩:=q;rw[eo] at h1;obtain⟨hc,h2⟩:=Aj h1;change K ⟨Bl (Bl s.tm x.dst vx) o.dst vo,Ao (Af (Ao (Af s.hp fx) nx) fo) no⟩=some r at h2;simp only[Bool.and_eq_true] at hc
 have eo':gE C P N call ops o s=some (vo,fo,no):=by
  refine Tl t1 (fun _ y hy i hi=>?_) eo
  have:=hw.1 y hy i hi;exact .inl ⟨IA hb.2 this,EC hb.2 this⟩
 have KD:Bo s.hp no=true:=Mk hc.2 fun i b hi=>by
  cases hs:s.hp i with
  |none=>rfl
  |some c=>exact absurd ((Bk hc.2).1 i b hi) (K1 hb.2 (by rw[hs];simp))
 rw[Ir ho,eo']
 have Ph:Bo (Ao (Af s.hp fo) no) nx=true:=Mk hb.2 fun i b hi=>by
  refine Kl KD ((Bk hb.2).1 i b hi) fun c M6=>?_
  have:=(Bk hc.2).1 i c M6;rw[Ho hb.2 hi] at this;cases this
 have t2:∀t∈looks ops x,s.tm t=Bl s.tm o.dst vo t:=fun t ht=>(D6 ox t ht).symm
 have ex':gE C P N call ops x ⟨Bl s.tm o.dst vo,Ao (Af s.hp fo) no⟩=some (vx,fx,nx):=by
  refine Tl t2 (fun _ y hy i hi=>?_) ex
  by_cases hs:s.hp i=none
  ·exact .inr ⟨SR hs,I8 hs⟩
  ·exact .inl ⟨(IA KD hs).symm,(EC KD hs).symm⟩
 show Bj _ _=_;rw[hc.1,KD];show De C P N call ops x ⟨Bl s.tm o.dst vo,Ao (Af s.hp fo) no⟩ K=some r;rw[Ir (by rw[←Ge t2];exact hx),ex']
 show Bj _ _=_;rw[hb.1,Ph];rw[←h2];have hfx:∀i∈fx,s.hp i≠none:=fun i hi hs=>(Oz ex).2 i hi (I8 hs)
 have hfo:∀i∈fo,s.hp i≠none:=fun i hi hs=>(Oz eo').2 i hi (I8 hs)
 show K ⟨Bl (Bl s.tm o.dst vo) x.dst vx,Ao (Af (Ao (Af s.hp fo) no) fx) nx⟩=K _;rw[Ii ne,MY hb.2 hc.2 KD Ph hfx hfo]
end
open Go.RowKit
theorem Sf {C:F3}{P:Program}{o:Op}(h:M7 C P o=true):Gm P o=true:=by
 unfold M7 at h;split at h
 ·rfl
 ·rename_i c;unfold Gm;simp only;split at h<;>rename_i hc
  ·rw[hc]
  ·rw[hc]
  ·cases h
  ·rw[hc]
  ·cases h
 ·cases h
structure AG (N:Nat) (S:Nat->Prop) (dst:Option Nat) (hp Cc Cn Eo:Nat->Option Bm):Prop where
 keep:∀i,hp i≠none->Cn i≠none
 off:∀i,i<N->dst≠some i->(¬S i∨hp i=none)->Cn i=hp i∧Eo i=Cc i
 same:∀i,hp i=Cc i->Cn i=Eo i
 far:∀i,¬S i->hp i≠none->Cn i=hp i
section
variable {R R':Type} {Rel:Option R->Option R'->Prop} {P:Program} {N:Nat} {tm tm':Nat->PV} {hp Cc:Nat->Option Bm} {f f':Nat->Option (List PV)} {o:Oper}
theorem EF (hn:Rel none none){t:CT}{p:PV}{K:PV->List Nat->Option R}{K':PV->List Nat->Option R'}(hf:HO Rel f f' (Al p)) (hK:∀c m,(∀i∈m,f i≠none∧i∈Al p)->Rel (K c m) (K' c m)):Rel (Lc f t p K) (Lc f' t p K'):=by
 unfold Lc;split
 ·split
  ·rename_i id es' off n;cases Nat.beq es' _
   ·exact hn
   ·exact S7 hn hf (by simp[Al]) fun c hc=>As hn fun _=>hK _ _ (by simp[hc,Al])
  ·exact Ez hn fun _ _ _=>hK _ _ (by simp)
 ·exact Lr hn fun _=>hK _ _ (by simp)
theorem Zz (hn:Rel none none):∀{ts:List CT}{ps:List PV}{K:List PV->List Nat->Option R}{K':List PV->List Nat->Option R'},HO Rel f f' (ps.flatMap Al)->(∀c m,(∀i∈m,f i≠none∧i∈ps.flatMap Al)->Rel (K c m) (K' c m))->Rel (Ky f ts ps K) (Ky f' ts ps K')
 |[],[],_,_,_,hK=>hK _ _ (by simp)
 |[],_::_,_,_,_,_=>hn
 |_::_,[],_,_,_,_=>hn
 |_::_,p::ps,_,_,hf,hK=>EF hn (fun i hi=>hf i (by simp only[List.flatMap_cons,List.mem_append];exact .inl hi)) fun _ m hm=>Zz hn (fun i hi=>hf i (by simp only[List.flatMap_cons,List.mem_append];exact .inr hi)) fun _ ms Xv=>hK _ _ fun i hi=>by
   simp only[List.flatMap_cons,List.mem_append];rcases List.mem_append.1 hi with h|h
   ·exact⟨(hm i h).1,.inl (hm i h).2⟩
   ·exact⟨(Xv i h).1,.inr (Xv i h).2⟩
theorem Qa {S:Nat->Prop}{dst:Option Nat}{id:Nat}{b:Bm}{h0 h1:Nat->Option Bm}(hS:S id)(Bi:hp id≠none)(h:AG N S dst hp Cc h0 h1):AG N S dst hp Cc (Ci h0 id (some b)) (Ci h1 id (some b)):=by
 refine⟨fun i hi=>?_,fun i hN hd hi=>?_,fun i hi=>?_,fun i hn hi=>?_⟩
 ·by_cases e:i=id
  ·subst e;rw[Ak];simp
  ·rw[Ah _ _ e];exact h.keep i hi
 ·have e:i≠id:=by
   rintro rfl
   rcases hi with hi|hi
   ·exact hi hS
   ·exact Bi hi
  rw[Ah _ _ e,Ah _ _ e];exact h.off i hN hd hi
 ·by_cases e:i=id
  ·subst e;rw[Ak,Ak]
  ·rw[Ah _ _ e,Ah _ _ e];exact h.same i hi
 ·rw[Ah _ _ (by rintro rfl;exact hn hS)];exact h.far i hn hi
theorem GM {S:Nat->Prop}{d:Nat}{b:Bm}{h0 h1:Nat->Option Bm}(hz:hp d=none)(h:AG N S (some d) hp Cc h0 h1):AG N S (some d) hp Cc (Ci h0 d (some b)) (Ci h1 d (some b)):=by
 refine⟨fun i hi=>?_,fun i hN hd hi=>?_,fun i hi=>?_,fun i hn hi=>?_⟩
 ·by_cases e:i=d
  ·subst e;rw[Ak];simp
  ·rw[Ah _ _ e];exact h.keep i hi
 ·have e:i≠d:=by rintro rfl;exact hd rfl
  rw[Ah _ _ e,Ah _ _ e];exact h.off i hN hd hi
 ·by_cases e:i=d
  ·subst e;rw[Ak,Ak]
  ·rw[Ah _ _ e,Ah _ _ e];exact h.same i hi
 ·rw[Ah _ _ (by rintro rfl;exact hi hz)];exact h.far i hn hi
theorem Pj (S:Nat->Prop)(dst:Option Nat):AG N S dst hp Cc hp Cc:=⟨fun _ h=>h,fun _ _ _ _=>⟨rfl,rfl⟩,fun _ h=>h,fun _ _ _=>rfl⟩
theorem NV {S:Nat->Prop}{dst:Option Nat}{m:List Nat}(hm:∀i∈m,hp i≠none∧S i):AG N S dst hp Cc (Af hp m) (Af Cc m):=by
 refine⟨fun i hi=>fun h=>hi (Dq.1 h),fun i hN hd hi=>?_,fun i hi=>?_,fun i hn hi=>?_⟩
 ·have e:i ∉ m:=by
   intro h;rcases hi with hi|hi
   ·exact hi (hm i h).2
   ·exact (hm i h).1 hi
  rw[Br,Br,if_neg e,if_neg e];exact⟨rfl,rfl⟩
 ·rw[Br,Br,hi]
 ·rw[Br,if_neg (fun h=>hn (hm i h).2)]
theorem HG {S:Nat->Prop}(h:∀i,S i->hp i=Cc i∨(hp i=none∧∀b,Rel none b)) {l:List Nat}(hl:∀i∈l,S i):HO Rel (Hx hp) (Hx Cc) l:=by
 intro i hi;rcases h i (hl i hi) with h|⟨h,h'⟩
 ·left;unfold Hx;rw[h]
 ·exact .inr ⟨I8 h,h'⟩
theorem ID (hn:Rel none none){t:TypeId}{a x:PV}{K:St->Option R}{K':St->Option R'}{S:Nat->Prop}(hS:∀i,S i->hp i=Cc i∨(hp i=none∧∀b,Rel none b)) (ha:∀i∈Al a,S i)(hx:∀i∈B8 x,S i)
  (hK:∀Cn Eo,AG N S none hp Cc Cn Eo->Rel (K ⟨tm,Cn⟩) (K' ⟨tm',Eo⟩)):Rel (Uo P ⟨tm,hp⟩ t a x K) (Uo P ⟨tm',Cc⟩ t a x K'):=by
 unfold Uo;split
 ·rename_i id off;show Rel (match hp id with|some (.st c)=>_|some (.ar false c)=>_|_=>none) (match Cc id with|some (.st c)=>_|some (.ar false c)=>_|_=>none)
  have Bi:S id:=ha id (by simp[Al])
  rcases hS id Bi with h|⟨h,hb⟩
  ·rw[←h];split
   ·rename_i c hc;exact As hn fun _=>Kq hn fun _=>hK _ _ (Qa Bi (by rw[hc];simp) (Pj _ _))
   ·rename_i c hc;refine As hn fun _=>Zz hn (HG hS fun i hi=>hx i ?_) fun _ m hm=>As hn fun _=>hK _ _ (Qa Bi (by rw[hc];simp) (NV fun i hi=>⟨fun h=>(hm i hi).1 (I8 h),hx i ?_⟩))
    ·obtain⟨c,hc,hi⟩:=List.mem_flatMap.1 hi;exact Ot hc hi
    ·obtain⟨c,hc,hi⟩:=List.mem_flatMap.1 (hm i hi).2;exact Ot hc hi
   ·exact hn
  ·rw[h];exact hb _
 ·exact hn
theorem U1 (hn:Rel none none){es:Nat}{t:TypeId}{x:PV}{K:Nat->List PV->Option R}{K':Nat->List PV->Option R'}{S:Nat->Prop}(hS:∀i,S i->hp i=Cc i∨(hp i=none∧∀b,Rel none b)) (hx:∀i∈B8 x,S i)(hK:∀m c,Rel (K m c) (K' m c)):Rel (OO P ⟨tm,hp⟩ es t x K) (OO P ⟨tm',Cc⟩ es t x K'):=by
 unfold OO OH;split
 ·exact As hn fun _=>Es hn fun _=>hK _ _
 ·exact Mn hn (HG hS fun i hi=>hx i (Pm hi)) hK
 ·exact hn
theorem Sq (hn:Rel none none){d:Nat}{t tx:TypeId}{b x:PV}{K:St->Option R}{K':St->Option R'}{S:Nat->Prop}(hS:∀i,S i->hp i=Cc i∨(hp i=none∧∀b,Rel none b)) (BX:hp d=Cc d)(hb:∀i∈B8 b,S i)(hx:∀i∈B8 x,S i)
  (hK:∀v Cn Eo,(∀M,AG M S (some d) hp Cc Cn Eo)->Rel (K ⟨Ci tm d v,Cn⟩) (K' ⟨Ci tm' d v,Eo⟩)):Rel (Ls P N ⟨tm,hp⟩ d t tx b x K) (Ls P N ⟨tm',Cc⟩ d t tx b x K'):=by
 unfold Ls;split
 ·refine As hn fun _=>?_
  cases Se P tx
  rotate_left
  ·show Rel (Pn P N ⟨tm,hp⟩ d _ b x K) (Pn P N ⟨tm',Cc⟩ d _ b x K');refine Ds hn fun _ n=>Ez hn fun z _ _=>?_
   show Rel (Bj (z&&Nat.blt d N&&(hp d).isNone&&_&&_&&_) _) (Bj (z&&Nat.blt d N&&(Cc d).isNone&&_&&_&&_) _);rw[←BX];exact As hn fun hb=>hK _ _ _ (fun M=>GM (by simp only[Bool.and_eq_true,Option.isNone_iff_eq_none] at hb;simp only[hb]) (Pj _ _))
  rw[cond_false,cond_false];refine U1 hn hS hx fun m new=>?_
  split
  ·rename_i id es off n;show Rel (match hp id with|some (.ar false c)=>Bj (Nat.beq es _&&Nat.beq off 0&&Nat.blt d N&&(hp d).isNone&&_&&_&&_&&_) _|_=>none) (match Cc id with|some (.ar false c)=>Bj (Nat.beq es _&&Nat.beq off 0&&Nat.blt d N&&(Cc d).isNone&&_&&_&&_&&_) _|_=>none)
   have Bi:S id:=hb id (by simp[B8,Al])
   rw[←BX];rcases hS id Bi with h|⟨h,hbb⟩
   ·rw[←h];split
    ·rename_i c hc;exact As hn fun hb=>hK _ _ _ (fun M=>GM (by simp only[Bool.and_eq_true,Option.isNone_iff_eq_none] at hb;simp only[hb]) (Qa Bi (by rw[hc];simp) (Pj _ _)))
    ·exact hn
   ·rw[h];exact hbb _
  ·refine Ez hn fun z _ _=>?_
   show Rel (Bj (z&&Nat.blt d N&&(hp d).isNone&&_&&_&&_) _) (Bj (z&&Nat.blt d N&&(Cc d).isNone&&_&&_&&_) _);rw[←BX];exact As hn fun hb=>hK _ _ _ (fun M=>GM (by simp only[Bool.and_eq_true,Option.isNone_iff_eq_none] at hb;simp only[hb]) (Pj _ _))
 ·exact hn
theorem PX (hn:Rel none none){d:Option Tmp}{t tx:TypeId}{b x:PV}{K:St->Option R}{K':St->Option R'}{S:Nat->Prop}(hS:∀i,S i->hp i=Cc i∨(hp i=none∧∀b,Rel none b)) (hb:∀i∈B8 b,S i)(hx:∀i∈B8 x,S i)
  (hK:∀v Cn Eo,AG N S d hp Cc Cn Eo->Rel (K ⟨Bl tm d v,Cn⟩) (K' ⟨Bl tm' d v,Eo⟩)):Rel (BW P N ⟨tm,hp⟩ d t tx b x K) (BW P N ⟨tm',Cc⟩ d t tx b x K'):=by
 unfold BW;split
 ·refine As hn fun _=>?_
  refine U1 hn hS hx fun m new=>?_
  split
  ·rename_i id es off n;show Rel (match hp id with|some (.ar false c)=>Bj (Nat.beq es _&&_&&_) _|_=>none) (match Cc id with|some (.ar false c)=>Bj (Nat.beq es _&&_&&_) _|_=>none)
   have Bi:S id:=hb id (by simp[B8,Al])
   rcases hS id Bi with h|⟨h,hbb⟩
   ·rw[←h];split
    ·rename_i c hc;exact As hn fun _=>hK _ _ _ (Qa Bi (by rw[hc];simp) (Pj _ _))
    ·exact hn
   ·rw[h];exact hbb _
  ·exact hn
 ·exact hn
def Ahl (o:Oper)(tm:Nat->PV)(i:Nat):Prop:=∃x∈o.op.operands.toList,i∈Bq (Bw tm x)
def Rg (o:Oper)(tm:Nat->PV)(hp:Nat->Option Bm)(i:Nat):Prop:=Ahl o tm i∨Kx o.op=false∧∃id c,Ahl o tm id∧hp id=some (.st c)∧∃p∈c,i∈Al p
theorem TK (hn:Rel none none){mv:Bool}{t:CT}{p:PV}{K:PV->List Nat->List Nat->Option R}{K':PV->List Nat->List Nat->Option R'}{S:Nat->Prop}(hS:∀i,S i->hp i=Cc i∨(hp i=none∧∀b,Rel none b)) (hp_:∀i∈Al p,S i)
  (hK:∀c m x,(∀i∈m++x,hp i≠none∧S i)->Rel (K c m x) (K' c m x)):Rel (UP mv hp t p K) (UP mv Cc t p K'):=by
 have frz:∀{t:CT} {p:PV},(∀i∈Al p,S i)->Rel (Lc (Hx hp) t p fun c m=>K c m []) (Lc (Hx Cc) t p fun c m=>K' c m []):=fun h=>EF hn (HG hS h) fun c m hm=>hK _ _ _ fun i hi=>by
  rw[List.append_nil] at hi;exact⟨fun e=>(hm i hi).1 (I8 e),h i (hm i hi).2⟩
 unfold UP;split
 ·rename_i es;cases mv<;>simp only[cond_true,cond_false]
  ·exact frz hp_
  ·split
   ·rename_i id es' off n;rcases hS id (hp_ id (by simp[Al])) with h|⟨h,hb⟩
    ·rw[←h];split
     ·rename_i c hc;cases (Nat.beq es' es&&Nat.beq off 0)<;>simp only[cond_true,cond_false]
      ·exact frz hp_
      ·exact As hn fun _=>hK _ _ _ fun i hi=>by
        simp only[List.nil_append,List.mem_singleton] at hi;subst hi;exact⟨by rw[hc];simp,hp_ i (by simp[Al])⟩
     ·exact frz hp_
    ·rw[h]
     have:(Lc (Hx hp) (.sl es) (.view id es' off n) fun c m=>K c m [])=none:=by
      unfold Lc;simp only;cases Nat.beq es' es
      ·rfl
      ·simp only[cond_true,I8 h,Dh]
     show Rel (Lc (Hx hp) (.sl es) (.view id es' off n) fun c m=>K c m []) _
     rw[this];exact hb _
   ·refine Ez hn fun z n c=>?_
    cases z
    ·exact hK _ _ _ (by simp)
    ·exact hK _ _ _ (by simp)
 ·exact Lr hn fun _=>hK _ _ _ (by simp)
theorem Nw (hn:Rel none none){mv:Bool}{S:Nat->Prop}(hS:∀i,S i->hp i=Cc i∨(hp i=none∧∀b,Rel none b)):∀{ts:List CT}{ps:List PV}{K:List PV->List Nat->List Nat->Option R}{K':List PV->List Nat->List Nat->Option R'},(∀p∈ps,∀i∈Al p,S i) ->
  (∀c m x,(∀i∈m++x,hp i≠none∧S i)->Rel (K c m x) (K' c m x))->Rel (Vx mv hp ts ps K) (Vx mv Cc ts ps K')
 |[],[],_,_,_,hK=>hK _ _ _ (by simp)
 |[],_::_,_,_,_,_=>hn
 |_::_,[],_,_,_,_=>hn
 |_::_,p::ps,_,_,hp_,hK=>TK hn hS (hp_ p (by simp)) fun _ m x hm=>Nw hn hS (fun q hq=>hp_ q (by simp[hq])) fun _ ms xs Xv=>hK _ _ _ fun i hi=>by
   simp only[List.mem_append] at hi hm Xv;rcases hi with (hi|hi)|(hi|hi)
   ·exact hm i (.inl hi)
   ·exact Xv i (.inl hi)
   ·exact hm i (.inr hi)
   ·exact Xv i (.inr hi)
theorem LL (hn:Rel none none){C:F3}{f:FuncId}{i:Nat}{t:TypeId}{p:PV}{K:PV->List Nat->List Nat->List Fu->Option R}{K':PV->List Nat->List Nat->List Fu->Option R'}{S:Nat->Prop}(hS:∀i,S i->hp i=Cc i∨(hp i=none∧∀b,Rel none b))
  (hp_:∀i∈Bq p,S i)(hc:∀i∈Bq p,∀c,Cc i=some (.st c)->∀q∈c,∀k∈Al q,S k)
  (hK:∀v m x l,(∀i∈m++x++l.flatMap Fu.ids,hp i≠none∧S i)->Rel (K v m x l) (K' v m x l)):Rel (Vb C P f hp i t p K) (Vb C P f Cc i t p K'):=by
 unfold Vb;split
 ·split
  ·rename_i id off;have Bi:S id:=hp_ id (by simp[Bq,B8,Al])
   rcases hS id Bi with h|⟨h,hb⟩
   ·rw[h];split
    ·rename_i c AE;refine As hn fun _=>Nw hn hS (fun q hq k hk=>hc id (by simp[Bq,B8,Al]) c AE q (List.mem_of_mem_drop (List.mem_of_mem_take hq)) k hk) fun cs m x hm=>hK _ _ _ _ fun k hk=>?_
     rcases List.mem_append.1 hk with hk|hk
     ·exact hm k hk
     ·simp only[List.flatMap_cons,List.flatMap_nil,Fu.ids,List.append_nil,List.mem_singleton] at hk;subst hk;exact⟨by rw[h,AE];simp,Bi⟩
    ·exact hn
   ·rw[h];exact hb _
  ·exact hn
 ·cases C.lnd f i
  ·cases Bx P t
   ·exact Nw hn hS (fun q hq k hk=>by
     simp at hq;subst hq;exact hp_ k (Ij hk)) fun cs m x hm=>Bg hn fun _ _ _=>Ei hn (hK _ _ _ _ (by simpa using hm))
   ·refine Hu hn fun cs Xd=>Nw hn hS (fun q hq k hk=>hp_ k ?_) fun cs m x hm=>hK _ _ _ _ (by simpa using hm)
    subst Xd;exact List.mem_flatMap.2 ⟨q,hq,hk⟩
  ·refine Cz hn fun e he=>?_
   unfold ZU;split
   ·rename_i id es' off n;have Bi:S id:=hp_ id (by simp[Bq,B8,Al])
    rcases hS id Bi with h|⟨h,hb⟩
    ·rw[h];split
     ·rename_i c AE;refine As hn fun _=>hK _ _ _ _ fun k hk=>?_
      simp only[List.nil_append,List.flatMap_cons,List.flatMap_nil,Fu.ids,List.append_nil,List.mem_singleton] at hk;subst hk;exact⟨by rw[h,AE];simp,Bi⟩
     ·exact hn
    ·rw[h];exact hb _
   ·exact Ez hn fun _ _ _=>As hn fun _=>hK _ _ _ _ (by simp[Fu.ids])
theorem Xt (hn:Rel none none){C:F3}{f:FuncId}{S:Nat->Prop}(hS:∀i,S i->hp i=Cc i∨(hp i=none∧∀b,Rel none b)):∀{ts:List TypeId}{ps:List PV}{i:Nat}{K:List PV->List Nat->List Nat->List Fu->Option R}{K':List PV->List Nat->List Nat->List Fu->Option R'},
  (∀p∈ps,∀i∈Bq p,S i)->(∀p∈ps,∀i∈Bq p,∀c,Cc i=some (.st c)->∀q∈c,∀k∈Al q,S k) ->
  (∀v m x l,(∀i∈m++x++l.flatMap Fu.ids,hp i≠none∧S i)->Rel (K v m x l) (K' v m x l))->Rel (DV C P f hp i ts ps K) (DV C P f Cc i ts ps K')
 |[],[],_,_,_,_,_,hK=>hK _ _ _ _ (by simp)
 |[],_::_,_,_,_,_,_,_=>hn
 |_::_,[],_,_,_,_,_,_=>hn
 |_::_,p::ps,_,_,_,hp_,hc,hK=>LL hn hS (hp_ p (by simp)) (hc p (by simp)) fun _ m x l hm=>Xt hn hS (fun q hq=>hp_ q (by simp[hq])) (fun q hq=>hc q (by simp[hq])) fun _ ms xs ls Xv=>hK _ _ _ _ fun i hi=>by
   simp only[List.mem_append,List.flatMap_append] at hi hm Xv;rcases hi with ((hi|hi)|(hi|hi))|(hi|hi)
   ·exact hm i (.inl (.inl hi))
   ·exact Xv i (.inl (.inl hi))
   ·exact hm i (.inl (.inr hi))
   ·exact Xv i (.inl (.inr hi))
   ·exact hm i (.inr hi)
   ·exact Xv i (.inr hi)
theorem XZ (hn:Rel none none){t:Nat}{ct:CT}{was p:PV}{K:Nat->PV->List (Nat × Bm)->Option R} {K':Nat->PV->List (Nat × Bm)->Option R'} (hK:∀t c b,(∀q∈b,∃k,q.1=MU N k)->Rel (K t c b) (K' t c b)):Rel (SV N t ct was p K) (SV N t ct was p K'):=by
 unfold SV;split
 ·split
  ·exact QE hn fun _ _=>hK _ _ _ (by intro q hq;simp only[List.mem_singleton] at hq;subst hq;exact⟨t,rfl⟩)
  ·exact Ez hn fun _ _ _=>hK _ _ _ (by simp)
 ·exact Lr hn fun _=>hK _ _ _ (by simp)
theorem CN (hn:Rel none none):∀{cts:List CT}{ws ps:List PV}{t:Nat}{K:Nat->List PV->List (Nat × Bm)->Option R} {K':Nat->List PV->List (Nat × Bm)->Option R'},(∀t c b,(∀q∈b,∃k,q.1=MU N k)->Rel (K t c b) (K' t c b))->Rel (DD N t cts ws ps K) (DD N t cts ws ps K')
 |[],[],_,_,_,_,hK=>Ei hn (hK _ _ _ (by simp))
 |[],_::_,_,_,_,_,_=>hn
 |_::_,[],_,_,_,_,_=>hn
 |_::_,_::_,_,_,_,_,hK=>Bg hn fun _ _ _=>XZ hn fun _ _ b hb=>CN hn fun _ _ bs AF=>hK _ _ _ fun q hq=>by
   rcases List.mem_append.1 hq with h|h
   ·exact hb q h
   ·exact AF q h
theorem Px (hn:Rel none none){S:Nat->Prop}{dst:Option Nat}:∀{l:List Fu}{ro:List (List PV)} {t:Nat}{h0 h1:Nat->Option Bm}{K:(Nat->Option Bm)->List (Nat × Bm)->Option R} {K':(Nat->Option Bm)->List (Nat × Bm)->Option R'},
  AG N S dst hp Cc h0 h1->(∀i∈l.flatMap Fu.ids,hp i≠none∧S i∧hp i=Cc i)->(∀h0' FK b,AG N S dst hp Cc h0' FK->(∀q∈b,∃k,q.1=MU N k)->Rel (K h0' b) (K' FK b))->Rel (Q5 N t l ro h0 K) (Q5 N t l ro h1 K')
 |[],_,_,_,_,_,_,hT,_,hK=>Ei hn (hK _ _ _ hT (by simp))
 |.var id off cts ws::l,ro,t,h0,h1,K,K',hT,hl,hK=>by
  unfold Q5;refine Bg hn fun cs ro _=>CN hn fun t' cs' bs AF=>?_
  have Bi:=hl id (by simp[Fu.ids])
  rw[←hT.same id Bi.2.2];split
  ·exact Px hn (Qa Bi.2.1 Bi.1 hT) (fun i hi=>hl i (by simp only[List.flatMap_cons,List.mem_append];exact .inr hi)) fun h0' FK b hT' hb=>hK _ _ _ hT' fun q hq=>by
    rcases List.mem_append.1 hq with h|h
    ·exact AF q h
    ·exact hb q h
  ·exact hn
 |.row id::l,ro,t,h0,h1,K,K',hT,hl,hK=>by
  unfold Q5;have Bi:=hl id (by simp[Fu.ids])
  exact Bg hn fun cs ro _=>Px hn (Qa Bi.2.1 Bi.1 hT) (fun i hi=>hl i (by simp only[List.flatMap_cons,List.mem_append];exact .inr hi)) hK
 |.none::l,ro,t,h0,h1,K,K',hT,hl,hK=>by
  unfold Q5;exact Bg hn fun cs ro _=>Px hn hT (fun i hi=>hl i (by simp only[List.flatMap_cons,List.mem_append];exact .inr hi)) hK
theorem LW (h:∀i,N<=i->hp i=Cc i)(hN:0<N):∀k t,LS N hp k t=LS N Cc k t
 |0,_=>rfl
 |k+1,t=>by
  unfold LS;rw[h (MU N t) (by unfold MU;exact Nat.le_mul_of_pos_right _ (by omega)),LW h hN k (t+1)]
theorem EJ {h0 h1:Nat->Option Bm}:∀{nw:List (Nat × Bm)},(∀q∈nw,h0 q.1=h1 q.1)->Bo h0 nw=Bo h1 nw
 |[],_=>rfl
 |(i,b)::nw,h=>by
  unfold Bo;rw[h (i,b) (by simp),EJ (fun q hq=>h q (by simp[hq]))]
theorem Yp {S:Nat->Prop}{dst:Option Nat}{h0 h1:Nat->Option Bm}(hT:AG N S dst hp Cc h0 h1):∀{nw:List (Nat × Bm)} {g0 g1:Nat->Option Bm},AG N S dst hp Cc g0 g1->(∀q∈nw,N<=q.1∨dst=some q.1)->(∀q∈nw,hp q.1=none)->AG N S dst hp Cc (Ao g0 nw) (Ao g1 nw)
 |[],_,_,h,_,_=>h
 |(i,b)::nw,g0,g1,h,hi,hz=>by
  refine Yp hT (nw:=nw) ⟨fun k hk=>?_,fun k hN hd hk=>?_,fun k hk=>?_,fun k hn hk=>?_⟩ (fun q hq=>hi q (by simp[hq])) (fun q hq=>hz q (by simp[hq]))
  ·by_cases e:k=i
   ·subst e;rw[Ak];simp
   ·rw[Ah _ _ e];exact h.keep k hk
  ·have e:k≠i:=by
    rintro rfl
    rcases hi (k,b) (by simp) with q|q
    ·simp only at q;omega
    ·exact hd q
   rw[Ah _ _ e,Ah _ _ e];exact h.off k hN hd hk
  ·by_cases e:k=i
   ·subst e;rw[Ak,Ak]
   ·rw[Ah _ _ e,Ah _ _ e];exact h.same k hk
  ·rw[Ah _ _ (by rintro rfl;exact hk (hz (k,b) (by simp)))];exact h.far k hn hk
theorem Ai2 {S:Nat->Prop}{dst:Option Nat}{m x:List Nat}(hm:∀i∈m++x,hp i≠none∧S i):AG N S dst hp Cc (On (Af hp m) x) (On (Af Cc m) x):=by
 refine⟨fun i hi h=>?_,fun i hN hd hi=>?_,fun i hi=>?_,fun i hn hi=>?_⟩
 ·rw[E9] at h;have h1:Af hp m i≠none:=fun e=>hi (Dq.1 e)
  split at h
  ·cases hq:Af hp m i with
   |none=>exact h1 hq
   |some b=>rw[hq] at h;cases h
  ·exact h1 h
 ·have e:i ∉ m∧i ∉ x:=by
   refine⟨fun h=>?_,fun h=>?_⟩<;>(rcases hi with hi|hi)
   ·exact hi (hm i (by simp[h])).2
   ·exact (hm i (by simp[h])).1 hi
   ·exact hi (hm i (by simp[h])).2
   ·exact (hm i (by simp[h])).1 hi
  rw[E9,E9,if_neg e.2,if_neg e.2,Br,Br,if_neg e.1,if_neg e.1];exact⟨rfl,rfl⟩
 ·rw[E9,E9,Br,Br,hi]
 ·rw[E9,Br,if_neg (fun h=>hn (hm i (by simp[h])).2),if_neg (fun h=>hn (hm i (by simp[h])).2)]
theorem KE (hn:Rel none none){C:F3}{call:Ax}{f:FuncId}{c:Call}{K:St->Option R}{K':St->Option R'}{S:Nat->Prop}(H3:c.args.toList.map (Bw tm)=c.args.toList.map (Bw tm')) (hS:∀i,S i->hp i=Cc i∨(hp i=none∧∀b,Rel none b))
  (hp_:∀p∈c.args.toList.map (Bw tm'),∀i∈Bq p,S i) (hc:∀p∈c.args.toList.map (Bw tm'),∀i∈Bq p,∀c,Cc i=some (.st c)->∀q∈c,∀k∈Al q,S k)
  (BX:∀d,o.dst=some d->hp d=Cc d)(hNN:∀i,N<=i->hp i=Cc i)
  (hK:∀v Cn Eo,AG N S o.dst hp Cc Cn Eo->Rel (K ⟨Bl tm o.dst v,Cn⟩) (K' ⟨Bl tm' o.dst v,Eo⟩)):Rel (Ty C P N call ⟨tm,hp⟩ o f c K) (Ty C P N call ⟨tm',Cc⟩ o f c K'):=by
 unfold Ty;simp only[H3];refine Xt hn hS hp_ hc fun vs m x l hm=>As hn fun hb=>DC hn fun rv ro=>Ud hn fun ws bs AF=>As hn fun _=>?_
 simp only[Bool.and_eq_true] at hb;have hN:0<N:=Nat.lt_of_succ_le (Nat.le_of_ble_eq_true hb.1.2);rw[LW hNN hN];by_cases UM:∃i∈l.flatMap Fu.ids,hp i≠Cc i
 ·obtain⟨i,hi,Ek⟩:=UM;obtain⟨h1,h2⟩:=hm i (List.mem_append.2 (.inr hi));rcases hS i h2 with h|⟨h,_⟩
  ·exact absurd h Ek
  ·exact absurd h h1
 have hl:∀i∈l.flatMap Fu.ids,hp i≠none∧S i∧hp i=Cc i:=fun i hi=>⟨(hm i (List.mem_append.2 (.inr hi))).1,(hm i (List.mem_append.2 (.inr hi))).2,Classical.byContradiction fun h=>UM ⟨i,hi,h⟩⟩
 have hT0:AG N S o.dst hp Cc (On (Af hp m) x) (On (Af Cc m) x):=Ai2 fun i hi=>hm i (List.mem_append.2 (.inl hi))
 refine Px hn hT0 hl fun h0 h1 bs' hT A3u=>?_
 have VE:∀q∈bs++bs',N<=q.1∨o.dst=some q.1:=by
  intro q hq;rcases List.mem_append.1 hq with hq|hq
  ·obtain⟨j,hj⟩:=AF q hq;cases hd:o.dst with
   |none=>
    rw[hd] at hj;left;rw[hj];exact Nat.le_add_right _ _
   |some d=>
    rw[hd] at hj;change q.1=d+N*j at hj;cases j with
    |zero=>right;rw[hj];simp
    |succ j=>left;rw[hj,Nat.mul_add];omega
  ·obtain⟨k,hk⟩:=A3u q hq;left;rw[hk];unfold MU;exact Nat.le_mul_of_pos_right _ (by omega)
 have Vp:∀q∈bs++bs',h0 q.1=h1 q.1:=by
  intro q hq;refine hT.same q.1 ?_;rcases VE q hq with h|h
  ·exact hNN _ h
  ·exact BX _ h
 rw[EJ Vp]
 exact As hn fun hb=>hK _ _ _ (Yp hT hT VE fun q hq=>by
  cases hz:hp q.1 with
  |none=>rfl
  |some c=>exact absurd ((Vp q hq).trans ((Bk hb).1 q.1 q.2 hq)) (hT.keep q.1 (by rw[hz];simp)))
theorem It (hn:Rel none none){C:F3}{call:Ax}{K:St->Option R}{K':St->Option R'}(H3:∀x∈o.op.operands.toList,Bw tm x=Bw tm' x)
  (hS:∀i,Rg o tm' Cc i->hp i=Cc i∨(hp i=none∧∀b,Rel none b)) (BX:∀d,o.dst=some d->hp d=Cc d)(hNN:∀i,N<=i->hp i=Cc i)
  (hK:∀v Cn Eo,AG N (Rg o tm' Cc) o.dst hp Cc Cn Eo->Rel (K ⟨Bl tm o.dst v,Cn⟩) (K' ⟨Bl tm' o.dst v,Eo⟩)):Rel (Qg C P N call ⟨tm,hp⟩ o K) (Qg C P N call ⟨tm',Cc⟩ o K'):=by
 unfold Qg;have hl:∀x∈o.op.operands.toList,∀i∈Bq (Bw tm' x),Rg o tm' Cc i:=fun x hx i hi=>.inl ⟨x,hx,hi⟩
 have Of:Kx o.op=false->∀x∈o.op.operands.toList,∀i∈Bq (Bw tm' x),∀c,Cc i=some (.st c)->∀q∈c,∀k∈Al q,Rg o tm' Cc k:=fun ha x hx i hi c hc q hq k hk=>.inr ⟨ha,i,c,⟨x,hx,hi⟩,hc,q,hq,hk⟩
 generalize hLd:Rg o tm' Cc=S at *
 generalize hop:o.op=op at *
 split
 ·rename_i t x y;simp only[H3 x (by simp[Op.operands]),H3 y (by simp[Op.operands])]
  refine As hn fun hd=>ID (N:=N) hn hS (fun i hi=>hl x (by simp[Op.operands]) i (Ij hi)) (fun i hi=>hl y (by simp[Op.operands]) i (E1 hi)) fun Cn Eo hh=>?_
  have hd':=Option.isNone_iff_eq_none.1 hd;have:=hK .top Cn Eo (by rw[hd'];exact hh)
  rw[hd'] at this;exact this
 ·rename_i c
  have Il:∀x∈c.args.toList,x∈(Op.call c).operands.toList:=by
   intro x hx;simp only[Op.operands,Call.operands,Array.toList_append,List.mem_append];exact .inr hx
  split
  ·rename_i hc;refine Cz hn fun d hd=>Bg hn fun x _ hx=>Bg hn fun y _ hy=>Ei hn (Bg hn fun _ _ _=>Bg hn fun _ _ _=>?_)
   subst hy;have TD:=Il x (by rw[hx];simp)
   have hym:=Il y (by rw[hx];simp)
   simp only[H3 x TD,H3 y hym];refine Sq hn hS (BX d hd) (fun i hi=>hl x TD i (E1 hi)) (fun i hi=>hl y hym i (E1 hi)) fun v Cn Eo hh=>?_
   have:=hK v Cn Eo (by rw[hd];exact hh N)
   rw[hd] at this;exact this
  ·rename_i hc;refine Bg hn fun x _ hx=>Bg hn fun y _ hy=>Ei hn (Bg hn fun _ _ _=>Bg hn fun _ _ _=>?_)
   subst hy;have TD:=Il x (by rw[hx];simp)
   have hym:=Il y (by rw[hx];simp)
   simp only[H3 x TD,H3 y hym];exact PX hn hS (fun i hi=>hl x TD i (E1 hi)) (fun i hi=>hl y hym i (E1 hi)) hK
  ·rename_i f hcf;refine KE hn (List.map_congr_left fun x hx=>H3 x (Il x hx)) hS (fun p hp i hi=>?_) (fun p hp i hi=>?_) BX hNN hK
   ·obtain⟨x,hx,rfl⟩:=List.mem_map.1 hp;exact hl x (Il x hx) i hi
   ·obtain⟨x,hx,rfl⟩:=List.mem_map.1 hp;exact Of (by simp only[Kx,hcf]) x (Il x hx) i hi
  ·exact hn
 ·exact hn
theorem Y6 (hn:Rel none none){C:F3}{call:Ax}{K:St->Option R}{K':St->Option R'}(H3:∀x∈o.op.operands.toList,Bw tm x=Bw tm' x)(hK:∀v Cn,(∀i,hp i≠none->Cn i≠none)->Rel (K ⟨Bl tm o.dst v,Cn⟩) (K' ⟨Bl tm' o.dst v,Cn⟩)):Rel (Qg C P N call ⟨tm,hp⟩ o K) (Qg C P N call ⟨tm',hp⟩ o K'):=
 It hn H3 (fun _ _=>.inl rfl) (fun _ _=>rfl) (fun _ _=>rfl) fun v Cn Eo hT=>by
  have:Cn=Eo:=funext fun i=>hT.same i rfl
  subst this;exact hK v Cn hT.keep
end
section
variable {R:Type} {r:R} {C:F3} {P:Program} {N:Nat} {call:Ax} {ops:Array Oper} {o x:Oper} {s:St} {K:St->Option R}
theorem FV {tm:Nat->PV}{hp Cn:Nat->Option Bm}{tm':Nat->PV}{q:Pi}(hm:Gm P o.op=false)(ht:∀t∈looks ops o,tm t=tm' t)(h:gE C P N call ops o ⟨tm,hp⟩=some q):gE C P N call ops o ⟨tm',Cn⟩=some q:=
 Tl (s:=⟨tm,hp⟩) (s':=⟨tm',Cn⟩) ht (fun h=>by rw[hm] at h;cases h) h
theorem Up {tm:Nat->PV}{hp:Nat->Option Bm}(hm:Gm P o.op=false)(h:De C P N call ops o ⟨tm,hp⟩ K=some r):
  ∃v nw,gE C P N call ops o ⟨tm,hp⟩=some (v,[],nw)∧Fi N o.dst=true∧Bo hp nw=true∧(∀p∈nw,o.dst=some p.1)∧K ⟨Bl tm o.dst v,Ao hp nw⟩=some r:=by
 have hM:M7 C P o.op=false:=by
  cases hh:M7 C P o.op
  ·rfl
  ·rw[Sf hh] at hm;cases hm
 rw[Ir (by simp[Fx,hM])] at h
 cases e:gE C P N call ops o ⟨tm,hp⟩ with
 |none=>rw[e] at h;cases h
 |some q=>
  obtain⟨v,fz,nw⟩:=q;obtain⟨h1,h2⟩:=(Oz e).1 hm;simp only at h1 h2;subst h1;rw[e] at h;obtain⟨hb,h⟩:=Aj h;simp only[Bool.and_eq_true] at hb;exact⟨v,nw,rfl,hb.1,hb.2,h2,h⟩
theorem Zb {tm:Nat->PV}{hp:Nat->Option Bm}{v:PV}{nw:List (Nat × Bm)} (hm:Gm P o.op=false)(e:gE C P N call ops o ⟨tm,hp⟩=some (v,[],nw)) (hd:Fi N o.dst=true)(ha:Bo hp nw=true)(h:K ⟨Bl tm o.dst v,Ao hp nw⟩=some r):De C P N call ops o ⟨tm,hp⟩ K=some r:=by
 have hM:M7 C P o.op=false:=by
  cases hh:M7 C P o.op
  ·rfl
  ·rw[Sf hh] at hm;cases hm
 rw[Ir (by simp[Fx,hM]),e]
 show Bj _ _=_;have ha':Bo hp nw=true:=ha;rw[hd,ha'];exact h
theorem J7 {hp:Nat->Option Bm}{nw:List (Nat × Bm)} (ha:Bo hp nw=true){i:Nat}(hi:∀p∈nw,p.1≠i):Ao hp nw i=hp i:=
 (Dx (Bk ha).2).2 i fun b hb=>hi _ hb rfl
theorem ZL {hp Cn:Nat->Option Bm}{nw:List (Nat × Bm)} (ha:Bo hp nw=true){g:Nat->Option Bm}(h1:∀i,(∀p∈nw,p.1≠i)->g i=Cn i) (h2:∀i,(∃p∈nw,p.1=i)->g i=Ao hp nw i) (ha':Bo Cn nw=true):g=Ao Cn nw:=by
 funext i
 by_cases h:∃p∈nw,p.1=i
 ·rw[h2 i h];obtain⟨⟨j,b⟩,hp,rfl⟩:=h;rw[(Dx (Bk ha).2).1 j b hp,(Dx (Bk ha').2).1 j b hp]
 ·have h':∀p∈nw,p.1≠i:=fun p hp e=>h ⟨p,hp,e⟩
  rw[h1 i h',J7 ha' h']
theorem Afu (ap:Tf C P ops x o)(hx:Fx C P ops x s.tm=true)
  (h:De C P N call ops x s (fun s1=>De C P N call ops o s1 K)=some r):De C P N call ops o s (fun s1=>De C P N call ops x s1 K)=some r:=by
 have hm:Gm P o.op=false:=ap.mx (by unfold Fx at hx;simp only[Bool.and_eq_true] at hx;exact hx.1)
 rw[Ha hx] at h;obtain⟨tm,hp⟩:=s;have look:∀v,∀t∈looks ops o,Bl tm x.dst v t=tm t:=fun v=>D6 ap.xo
 have h1:=It (P:=P) (N:=N) (o:=x) (tm:=tm) (tm':=tm) (hp:=hp) (Cc:=hp) (K:=fun s1=>De C P N call ops o s1 K) (K':=fun _=>none)
  (Rel:=fun (a:Option R)(_:Option R)=>a=some r->∃v nw,gE C P N call ops o ⟨tm,hp⟩=some (v,[],nw)∧Fi N o.dst=true∧(∀p∈nw,o.dst=some p.1)∧Bo hp nw=true) (fun h=>by cases h) (fun _ _=>rfl) (fun _ _=>.inl rfl) (fun _ _=>rfl) (fun _ _=>rfl) (fun v Cn _ hT h=>by
   obtain⟨u,nw,hu,hd,ha,hn,_⟩:=Up hm h;refine⟨u,nw,FV hm (look v) hu,hd,hn,Mk ha fun i b hi=>?_⟩
   cases hh:hp i with
   |none=>rfl
   |some c=>exact absurd ((Bk ha).1 i b hi) (hT.keep i (by rw[hh];simp))) h
 obtain⟨v,nw,hv,hd,hn,ha⟩:=h1;refine Zb hm hv hd ha ?_;have t2:∀t∈looks ops x,tm t=Bl tm o.dst v t:=fun t ht=>(D6 ap.ox t ht).symm
 rw[Ha (by rw[←Ge t2];exact hx)]
 refine It (P:=P) (N:=N) (o:=x) (tm:=tm) (tm':=Bl tm o.dst v) (hp:=hp) (Cc:=Ao hp nw) (Rel:=fun (a b:Option R)=>a=some r->b=some r) (fun h=>by cases h) (Er t2) (fun i _=>?_) (fun d hxd=>?_) (fun i hi=>(J7 ha fun p hp e=>by have:=Mt hd (hn p hp);omega).symm) (fun u Cn Eo hT h=>?_) h
 ·by_cases hi:∃p∈nw,p.1=i
  ·obtain⟨⟨j,b⟩,Cc,rfl⟩:=hi;exact .inr ⟨(Bk ha).1 j b Cc,fun _ h=>by cases h⟩
  ·exact .inl (J7 ha fun p hp e=>hi ⟨p,hp,e⟩).symm
 ·refine (J7 ha fun p hp e=>?_).symm
  have:=hn p hp;rw[e] at this;exact ap.ne d hxd this
 ·obtain⟨v',nw',Lk,_,ha',_,h'⟩:=Up hm h;have he:=FV (Cn:=hp) hm (look u) Lk;rw[hv] at he;simp only[Option.some.injEq,Prod.mk.injEq,true_and] at he;obtain⟨rfl,rfl⟩:=he
  have hh:Eo=Ao Cn nw:=by
   refine ZL ha (fun i hi=>?_) (fun i hi=>?_) ha'
   ·exact (hT.same i (J7 ha hi).symm).symm
   ·obtain⟨⟨j,b⟩,Cc,rfl⟩:=hi;refine (hT.off j (Mt hd (hn _ Cc)) (fun e=>ap.ne j e (hn _ Cc)) (.inr ((Bk ha).1 j b Cc))).2
  rw[hh,←Ii ap.ne];exact h'
theorem Aeu (hw:MS C P o s)(ap:Tf C P ops x o)(ho:Fx C P ops o s.tm=true)
  (h:De C P N call ops x s (fun s1=>De C P N call ops o s1 K)=some r):De C P N call ops o s (fun s1=>De C P N call ops x s1 K)=some r:=by
 have hm:Gm P x.op=false:=ap.mo (by unfold Fx at ho;simp only[Bool.and_eq_true] at ho;exact ho.1)
 obtain⟨tm,hp⟩:=s;obtain⟨v,nw,hv,hd,ha,hn,h1⟩:=Up hm h;have t1:∀t∈looks ops o,Bl tm x.dst v t=tm t:=D6 ap.xo;change De C P N call ops o ⟨Bl tm x.dst v,Ao hp nw⟩ K=some r at h1;rw[Ha (by rw[Ge t1];exact ho)] at h1
 rw[Ha ho];have hMo:M7 C P o.op=true:=by unfold Fx at ho;simp only[Bool.and_eq_true] at ho;exact ho.1
 have Agt:∀i,Rg o tm hp i->hp i≠none:=by
  rintro i (⟨y,hy,hi⟩|⟨O6,id,c,⟨y,hy,hi⟩,hc,p,Cc,hk⟩)
  ·exact hw.1 y hy i hi
  ·exact hw.2 hMo O6 y hy id hi c hc p Cc i hk
 refine It (P:=P) (N:=N) (o:=o) (tm:=Bl tm x.dst v) (tm':=tm) (hp:=Ao hp nw) (Cc:=hp) (Rel:=fun (a b:Option R)=>a=some r->b=some r) (fun h=>by cases h) (Er t1) (fun i hi=>?_) (fun d hod=>?_) (fun i hi=>J7 ha fun p hp e=>by have:=Mt hd (hn p hp);omega) (fun u Cn Eo hT h=>?_) h1
 ·refine .inl (J7 ha fun p Cn e=>Agt i hi ?_)
  rw[←e];exact (Bk ha).1 p.1 p.2 Cn
 ·refine J7 ha fun p Cn e=>?_
  have:=hn p Cn;rw[e] at this;exact ap.ne d this hod
 ·have L7:∀p∈nw,Cn p.1=Ao hp nw p.1∧Eo p.1=none:=by
   intro p hp2;have GC:=(Bk ha).1 p.1 p.2 hp2;have h3:=hT.off p.1 (Mt hd (hn p hp2)) (fun e=>ap.ne p.1 (hn p hp2) e) (.inl fun hL=>Agt _ hL GC)
   exact⟨h3.1,h3.2.trans GC⟩
  have ha':Bo Eo nw=true:=Mk ha fun i b hi=>(L7 (i,b) hi).2
  refine Zb hm (FV hm (fun t ht=>(D6 ap.ox t ht).symm) hv) hd ha' ?_
  have hh:Cn=Ao Eo nw:=by
   refine ZL ha (fun i hi=>?_) (fun i hi=>?_) ha'
   ·exact hT.same i (J7 ha hi)
   ·obtain⟨p,hp2,rfl⟩:=hi;exact (L7 p hp2).1
  rw[←Ii ap.ne,←hh];exact h
theorem Apb (hw:MS C P o s)(ap:Tf C P ops x o)
  (h:De C P N call ops x s (fun s1=>De C P N call ops o s1 K)=some r):De C P N call ops o s (fun s1=>De C P N call ops x s1 K)=some r:=by
 cases hx:Fx C P ops x s.tm
 ·cases ho:Fx C P ops o s.tm
  ·exact QH hw ap.xo ap.ne ap.ox hx ho h
  ·exact Aeu hw ap ho h
 ·exact Afu ap hx h
theorem Im (h:Ou P o.op=true):M7 C P o.op=false:=by
 unfold Ou at h;split at h
 ·rename_i ho;rw[ho];rfl
 ·rename_i ho;rw[ho];rfl
 ·cases h
def BA (P:Program)(ops:Array Oper)(o:Oper)(tm:Nat->PV):Prop:=Ou P o.op=true∨F2 ops o tm=some false
theorem Rd {tm tm':Nat->PV}(h:∀t∈looks ops o,tm t=tm' t)(hl:BA P ops o tm):BA P ops o tm':=by
 rcases hl with hl|hl
 ·exact .inl hl
 ·exact .inr (by rw[←Iv h];exact hl)
theorem CF {tm:Nat->PV}(hl:BA P ops o tm):Fx C P ops o tm=false:=by
 rcases hl with hl|hl
 ·simp[Fx,Im hl]
 ·simp[Fx,hl]
theorem SD {q:Pi}(hl:BA P ops o s.tm)(h:gE C P N call ops o s=some q):q.2.1=[]∧q.2.2=[]:=by
 unfold gE at h;split at h
 ·cases h
 ·rename_i hv
  have hl:Ou P o.op=true:=by
   rcases hl with hl|hl
   ·exact hl
   ·rw[hv] at hl;cases hl
  rw[Im hl] at h;have h:UE C P N call o s=some q:=h;unfold Ou at hl;split at hl
  ·rename_i t a ho;unfold UE Xx at h;rw[ho] at h
   have:=DP (nz:=C.nz N) (P:=P) (f:=rd s.hp) (f':=rd s.hp) (g:=Hx s.hp) (g':=Hx s.hp) (t:=t) (x:=Bw s.tm a) (Rel:=fun (a b:Option Pi)=>∀q,a=some q->q.2.1=[]∧q.2.2=[])
    (K:=fun v=>some (v,[],[])) (K':=fun v=>some (v,[],[])) (fun _ h=>by cases h) (fun _ _=>.inl ⟨rfl,rfl⟩) (fun v q hq=>by cases hq;exact⟨rfl,rfl⟩)
   exact this q h
  ·rename_i src dst y ho;unfold UE Xx at h;rw[ho] at h;simp only at h;unfold Y2 at h;split at hl
   ·rename_i hd;rw[hd] at h;simp only at h;split at h
    ·obtain⟨_,_,h⟩:=Dc h;obtain⟨_,_,h⟩:=B5 h;cases h;exact⟨rfl,rfl⟩
    ·split at h
     ·exact Mn (f:=Hx s.hp) (f':=Hx s.hp) (K':=fun _ _=>(none:Option Pi)) (Rel:=fun (a _:Option Pi)=>a=some q->q.2.1=[]∧q.2.2=[]) (fun h=>by cases h) (fun _ _=>.inl rfl) (fun n c h=>by
       obtain⟨_,h⟩:=Aj h;obtain⟨_,_,h⟩:=B5 h;obtain⟨_,_,h⟩:=B5 h;cases h;exact⟨rfl,rfl⟩) h
     ·exact Mn (f:=Hx s.hp) (f':=Hx s.hp) (K':=fun _ _=>(none:Option Pi)) (Rel:=fun (a _:Option Pi)=>a=some q->q.2.1=[]∧q.2.2=[]) (fun h=>by cases h) (fun _ _=>.inl rfl) (fun n c h=>by
       obtain⟨_,h⟩:=Aj h;obtain⟨_,_,h⟩:=B5 h;obtain⟨_,_,h⟩:=B5 h;cases h;exact⟨rfl,rfl⟩) h
     ·cases h
    ·cases h
   ·cases hl
  ·cases hl
 ·cases h;exact⟨rfl,rfl⟩
theorem WN {tm tm':Nat->PV}{hp:Nat->Option Bm}(h:∀t∈looks ops o,tm t=tm' t){i:Nat}(hi:Rg o tm hp i):Rg o tm' hp i:=by
 have he:=Er (ops:=ops) (o:=o) h;rcases hi with⟨y,hy,hi⟩|⟨O6,id,c,⟨y,hy,hi⟩,hc,q⟩
 ·exact .inl ⟨y,hy,by rw[←he y hy];exact hi⟩
 ·exact .inr ⟨O6,id,c,⟨y,hy,by rw[←he y hy];exact hi⟩,hc,q⟩
theorem Agi {hp Cn:Nat->Option Bm}{i:Nat}(h:Cn i=hp i):rd Cn i=rd hp i∧Hx Cn i=Hx hp i:=by
 unfold rd Hx;rw[h];exact⟨rfl,rfl⟩
theorem Vc {tm:Nat->PV}{hp:Nat->Option Bm}(hl:BA P ops o tm)(h:De C P N call ops o ⟨tm,hp⟩ K=some r):
  ∃v,gE C P N call ops o ⟨tm,hp⟩=some (v,[],[])∧Fi N o.dst=true∧K ⟨Bl tm o.dst v,hp⟩=some r:=by
 rw[Ir (CF hl)] at h;cases e:gE C P N call ops o ⟨tm,hp⟩ with
 |none=>rw[e] at h;cases h
 |some q=>
  obtain⟨v,fz,nw⟩:=q;obtain⟨h1,h2⟩:=SD hl e;simp only at h1 h2;subst h1;subst h2;rw[e] at h;obtain⟨hb,h⟩:=Aj h;simp only[Bool.and_eq_true] at hb;exact⟨v,rfl,hb.1,h⟩
theorem Ym {tm:Nat->PV}{hp:Nat->Option Bm}{v:PV}(hl:BA P ops o tm)(e:gE C P N call ops o ⟨tm,hp⟩=some (v,[],[])) (hd:Fi N o.dst=true)(h:K ⟨Bl tm o.dst v,hp⟩=some r):De C P N call ops o ⟨tm,hp⟩ K=some r:=by
 rw[Ir (CF hl),e];show Bj _ _=_;have ha:Bo hp []=true:=rfl;simp only[hd,ha,Bool.and_self];exact h
theorem Ae0 (hw:MS C P o s)(xo:∀d,x.dst=some d->d ∉ looks ops o)(ne:∀d,x.dst=some d->o.dst≠some d)(ox:∀d,o.dst=some d->d ∉ looks ops x)(hl:BA P ops o s.tm)
  (JB:∀y∈o.op.operands.toList,∀i∈Bq (Bw s.tm y),¬Rg x s.tm s.hp i) (hx:Fx C P ops x s.tm=true)
  (h:De C P N call ops x s (fun s1=>De C P N call ops o s1 K)=some r):De C P N call ops o s (fun s1=>De C P N call ops x s1 K)=some r:=by
 rw[Ha hx] at h;obtain⟨tm,hp⟩:=s;have look:∀v,∀t∈looks ops o,Bl tm x.dst v t=tm t:=fun v=>D6 xo
 have back:∀{u:PV} {Cn:Nat->Option Bm} {q:Pi},(∀y∈o.op.operands.toList,∀i∈Bq (Bw tm y),Cn i=hp i)->gE C P N call ops o ⟨Bl tm x.dst u,Cn⟩=some q->gE C P N call ops o ⟨tm,hp⟩=some q:=
  fun hh e=>Tl (s:=⟨Bl tm x.dst _,_⟩) (s':=⟨tm,hp⟩) (look _) (fun _ y hy i hi=>.inl (Agi (hh y hy i hi))) e
 have h1:=It (P:=P) (N:=N) (o:=x) (tm:=tm) (tm':=tm) (hp:=hp) (Cc:=hp) (K:=fun s1=>De C P N call ops o s1 K) (K':=fun _=>none)
  (Rel:=fun (a:Option R)(_:Option R)=>a=some r->∃v,gE C P N call ops o ⟨tm,hp⟩=some (v,[],[])∧Fi N o.dst=true) (fun h=>by cases h) (fun _ _=>rfl) (fun _ _=>.inl rfl) (fun _ _=>rfl) (fun _ _=>rfl) (fun v Cn _ hT h=>by
   obtain⟨u,hu,hd,_⟩:=Vc (Rd (fun t ht=>(look v t ht).symm) hl) h
   exact⟨u,back (fun y hy i hi=>hT.far i (JB y hy i hi) (hw.1 y hy i hi)) hu,hd⟩) h
 obtain⟨v,hv,hd⟩:=h1;refine Ym hl hv hd ?_;have t2:∀t∈looks ops x,tm t=Bl tm o.dst v t:=fun t ht=>(D6 ox t ht).symm
 rw[Ha (by rw[←Ge t2];exact hx)]
 refine It (P:=P) (N:=N) (o:=x) (tm:=tm) (tm':=Bl tm o.dst v) (hp:=hp) (Cc:=hp) (Rel:=fun (a b:Option R)=>a=some r->b=some r) (fun h=>by cases h) (Er t2) (fun _ _=>.inl rfl) (fun _ _=>rfl) (fun _ _=>rfl) (fun u Cn Eo hT h=>?_) h
 have e1:Cn=Eo:=funext fun i=>hT.same i rfl
 subst e1;obtain⟨v',Lk,_,h'⟩:=Vc (Rd (fun t ht=>(look u t ht).symm) hl) h
 have he:=back (fun y hy i hi=>hT.far i (fun hR=>JB y hy i hi (WN (fun t ht=>(t2 t ht).symm) hR)) (hw.1 y hy i hi)) Lk
 rw[hv] at he;simp only[Option.some.injEq,Prod.mk.injEq,and_true] at he;subst he;rw[←Ii ne];exact h'
theorem Adt (xo:∀d,x.dst=some d->d ∉ looks ops o)(ne:∀d,x.dst=some d->o.dst≠some d)(ox:∀d,o.dst=some d->d ∉ looks ops x)(hl:BA P ops x s.tm)
  (JB:∀y∈x.op.operands.toList,∀i∈Bq (Bw s.tm y),¬Rg o s.tm s.hp i) (ho:Fx C P ops o s.tm=true)
  (h:De C P N call ops x s (fun s1=>De C P N call ops o s1 K)=some r):De C P N call ops o s (fun s1=>De C P N call ops x s1 K)=some r:=by
 obtain⟨tm,hp⟩:=s;obtain⟨v,hv,hd,h1⟩:=Vc hl h;have t1:∀t∈looks ops o,Bl tm x.dst v t=tm t:=D6 xo;rw[Ha (by rw[Ge t1];exact ho)] at h1
 rw[Ha ho];refine It (P:=P) (N:=N) (o:=o) (tm:=Bl tm x.dst v) (tm':=tm) (hp:=hp) (Cc:=hp) (Rel:=fun (a b:Option R)=>a=some r->b=some r) (fun h=>by cases h) (Er t1) (fun _ _=>.inl rfl) (fun _ _=>rfl) (fun _ _=>rfl) (fun u Cn Eo hT h=>?_) h1
 have e1:Cn=Eo:=funext fun i=>hT.same i rfl
 subst e1;have t2:∀t∈looks ops x,tm t=Bl tm o.dst u t:=fun t ht=>(D6 ox t ht).symm
 refine Ym (Rd t2 hl) (Tl (s:=⟨tm,hp⟩) (s':=⟨Bl tm o.dst u,Cn⟩) t2 (fun _ y hy i hi=>?_) hv) hd ?_
 ·have hi:i∈Bq (Bw tm y):=by rw[Er t2 y hy];exact hi
  by_cases hn:hp i=none
  ·exact .inr ⟨SR hn,I8 hn⟩
  ·obtain⟨h3,h4⟩:=Agi (hT.far i (JB y hy i hi) hn);exact .inl ⟨h3.symm,h4.symm⟩
 ·rw[←Ii ne];exact h
def EB (P:Program)(x:Oper)(s s1:St):Prop:=(∀t,x.dst≠some t->s1.tm t=s.tm t)∧(∀i,s.hp i≠none->s1.hp i≠none)∧(Gm P x.op=false->∀i,s.hp i≠none->s1.hp i=s.hp i)
theorem Ll {tm:Nat->PV}{d:Option Tmp}{v:PV}{t:Nat}(h:d≠some t):Bl tm d v t=tm t:=by
 cases d with
 |none=>rfl
 |some d=>exact Ah _ _ (by rintro rfl;exact h rfl)
theorem Zk {K':St->Option R}(h:De C P N call ops x s K=some r)(hK:∀s1,EB P x s s1->K s1=some r->K' s1=some r):De C P N call ops x s K'=some r:=by
 cases hx:Fx C P ops x s.tm
 ·rw[Ir hx] at h ⊢;cases ex:gE C P N call ops x s with
  |none=>rw[ex] at h;cases h
  |some q=>
   rw[ex] at h;obtain⟨hb,h1⟩:=Aj h;simp only[Bool.and_eq_true] at hb;show Bj _ _=_;rw[hb.1,hb.2];refine hK _ ⟨fun t ht=>Ll ht,fun i hi=>K1 hb.2 hi,fun hm i hi=>?_⟩ h1
   show Ao (Af s.hp q.2.1) q.2.2 i=s.hp i;rw[E8 hb.2 hi,((Oz ex).1 hm).1];simp
 ·rw[Ha hx] at h ⊢
  exact Y6 (P:=P) (N:=N) (o:=x) (tm:=s.tm) (tm':=s.tm) (hp:=s.hp) (Rel:=fun (a b:Option R)=>a=some r->b=some r) (fun h=>by cases h) (fun _ _=>rfl) (fun v Cn hh h=>hK _ ⟨fun t ht=>Ll ht,hh,fun hm=>by
   have hM:M7 C P x.op=true:=by unfold Fx at hx;simp only[Bool.and_eq_true] at hx;exact hx.1
   rw[Sf hM] at hm;cases hm⟩ h) h
theorem MS.keeps {s1:St}(h:MS C P o s)(ap:Tf C P ops x o)(hk:EB P x s s1):MS C P o s1:=by
 have hop:∀y∈o.op.operands.toList,Bw s1.tm y=Bw s.tm y:=fun y hy=>Er (ops:=ops) (o:=o) (fun t ht=>hk.1 t fun hd=>ap.xo t hd ht) y hy
 refine⟨fun y hy i hi=>?_,fun hM hA y hy i hi c hc p hp k hkk=>?_⟩
 ·rw[hop y hy] at hi;exact hk.2.1 i (h.1 y hy i hi)
 ·rw[hop y hy] at hi;have hi0:=h.1 y hy i hi;rw[hk.2.2 (ap.mo hM) i hi0] at hc;exact hk.2.1 k (h.2 hM hA y hy i hi c hc p hp k hkk)
theorem Zl:∀(l:List Oper){s:St}{K:St->Option R},MS C P o s->(∀x∈l,Tf C P ops x o)->Kk C P N call ops l s (fun s1=>De C P N call ops o s1 K)=some r->De C P N call ops o s (fun s1=>Kk C P N call ops l s1 K)=some r
 |[],_,_,_,_,h=>h
 |x::l,s,K,hw,ap,h=>by
  refine Apb hw (ap x (by simp)) ?_
  refine Zk (K:=fun s1=>Kk C P N call ops l s1 (fun s2=>De C P N call ops o s2 K)) h fun s1 hk h1=>?_
  exact Zl l (hw.keeps (ap x (by simp)) hk) (fun y hy=>ap y (List.mem_cons_of_mem _ hy)) h1
theorem O7:∀(l l':List Oper){s:St}{K:St->Option R},Kk C P N call ops (l++l') s K=Kk C P N call ops l s (fun s1=>Kk C P N call ops l' s1 K)
 |[],_,_,_=>rfl
 |x::l,l',s,K=>by
  show De C P N call ops x s (fun s1=>Kk C P N call ops (l++l') s1 K)=De C P N call ops x s (fun s1=>Kk C P N call ops l s1 _)
  congr 1
  funext s1
  exact O7 l l'
theorem UW {l l':List Oper}(hw:MS C P o s)(ap:∀x∈l,Tf C P ops x o)(h:Kk C P N call ops (l++o::l') s K=some r):De C P N call ops o s (fun s1=>Kk C P N call ops (l++l') s1 K)=some r:=by
 rw[O7] at h;have:=Zl l hw ap h;refine Zk this fun s1 _ h1=>?_
 rw[O7];exact h1
end
open Go.RowKit
section
variable {R:Type} {r:R} {P:Program} {N:Nat} {w0:World} {X0:Gv} {Y:Nat->Prop} {β β':Bt} {s:St} {a:Act} {w w':World} {o:Oper} {ops:Array Oper} {C:F3} {call:Ax} {K:St->Option R}
theorem Zi (h:Cl N w0 X0 Y β s a w){j d:Nat}(hd:(ops[j]?).bind (·.dst)=some d) {v:Value}(ht:s.tm d=.sc v):yielded ops a.tmps j=match v with | .bool b=>some b|_=>none:=by
 have B6:d<N:=by
  rcases Nat.lt_or_ge d N with h'|h'
  ·exact h'
  ·rw[h.tmo d h'] at ht;cases ht
 have hv:=h.tms d B6;rw[ht] at hv;have hv:=Uz hv;have YM:d<a.tmps.size:=by rw[h.tsz];exact B6
 have he:a.tmps[d]?=some v:=by
  rw[Array.getElem?_eq_getElem YM];simp[YM] at hv;rw[hv]
 unfold yielded;rw[hd];simp only[Option.bind_some,he];cases v<;>rfl
theorem Rw (h:Cl N w0 X0 Y β s a w){G:Rs}(Iw:JT P G w0 X0)(Dk:∀f args res,call f args=some res->C6 G P f args res){i:Nat}(hi:ops[i]?=some o) (hk:De C P N call ops o s K=some r):
  ∃s',K s'=some r∧∀(next:Act->World->Prop) (Q:Exit->Act->World->Prop),(∀a' w' β',Cl N w0 X0 Y β' s' a' w'->next a' w')->wpOp P ops Q i next a w:=by
 rw[EP] at hk
 have hw:∀b,F2 ops o s.tm=some b->Region.wanted o (yielded ops a.tmps)=b:=by
  intro b hb;unfold F2 at hb;unfold Region.wanted;cases hg:o.guard with
  |none=>rw[hg] at hb;simpa using hb
  |some q=>
   obtain⟨j,want⟩:=q;rw[hg] at hb;simp only at hb ⊢;cases hd:(ops[j]?).bind (·.dst) with
   |none=>rw[hd] at hb;cases hb
   |some d=>
    rw[hd] at hb;simp only at hb;split at hb
    ·rename_i b' ht;rw[Zi h hd ht];simp at hb;rw[←hb];cases b'<;>cases want<;>rfl
    ·rename_i ht;rw[Zi h hd ht];simp at hb;rw[hb];rfl
    ·cases hb
 split at hk
 ·cases hk
 ·rename_i hv;obtain⟨s',hs',hn⟩:=NK h Iw Dk hk;refine⟨s',hs',fun next Q Ab4=>?_⟩
  unfold wpOp;rw[hi];simp only[hw _ hv,if_true];exact .inl (hn next Q Ab4)
 ·rename_i hv;obtain⟨hd,hk⟩:=Aj hk;refine⟨_,hk,fun next Q Ab4=>?_⟩
  unfold wpOp;rw[hi];simp only[hw _ hv];refine Ab4 _ _ β (h.put hd (Ar.sc _) (by simp[Bq,B8,Al]))
theorem Cl.known (h:Cl N w0 X0 Y β s a w){d:Nat}(hd:s.tm d=.ub):∃b,Cl N w0 X0 Y β ⟨Ci s.tm d (.sc (.bool b)),s.hp⟩ a w:=by
 have B6:d<N:=by
  rcases Nat.lt_or_ge d N with h'|h'
  ·exact h'
  ·rw[h.tmo d h'] at hd;cases hd
 have hu:=h.tms d B6;rw[hd] at hu;have Hp:Ar w (Cy s.hp β Y) .ub (a.tmps.getD d undef):=hu
 obtain⟨b,hv⟩:∃b,a.tmps.getD d undef=.bool b:=by
  generalize a.tmps.getD d undef=x at Hp;cases Hp with
  |ub b=>exact⟨b,rfl⟩
 refine⟨b,⟨h.dfr,h.tsz,fun i hi=>?_,fun i hi=>?_,h.box,h.inj,h.blt,fun i hi=>?_,h.wfB,h.ownd,h.rngB,h.pin,h.stp,h.Yx,h.Ylt,h.fr⟩⟩
 ·show Ci s.tm d _ i=_;rw[Ah _ _ (by omega)]
  exact h.tmo i hi
 ·by_cases e:i=d
  ·subst e;show D1 _ _ _ (Ci s.tm i _ i) _;rw[Ak,hv];exact Ar.sc _
  ·show D1 _ _ _ (Ci s.tm d _ i) _;rw[Ah _ _ e];exact h.tms i hi
 ·by_cases e:i=d
  ·subst e;show ∀id∈Bq (Ci s.tm i _ i),_;rw[Ak];simp[Bq,B8,Al]
  ·show ∀id∈Bq (Ci s.tm d _ i),_;rw[Ah _ _ e];exact h.wfT i hi
theorem DQ {x y:Option R}(h:BZ x y=some r):x=some r∧y=some r:=by
 unfold BZ at h;split at h
 ·rename_i e;exact⟨h,e ▸ h⟩
 ·cases h
theorem HE (h:Cl N w0 X0 Y β s a w){F:St->Option R}(hk:OY ops o s F=some r):∃s',F s'=some r∧Cl N w0 X0 Y β s' a w:=by
 unfold OY at hk;split at hk
 ·exact⟨s,hk,h⟩
 ·split at hk
  ·exact⟨s,hk,h⟩
  ·split at hk
   ·rename_i d _ ht;obtain⟨b,hb⟩:=h.known ht;obtain⟨h1,h2⟩:=DQ hk;cases b
    ·exact⟨_,h2,hb⟩
    ·exact⟨_,h1,hb⟩
   ·exact⟨s,hk,h⟩
theorem Tb {G:Rs}(Iw:JT P G w0 X0)(Dk:∀f args res,call f args=some res->C6 G P f args res){Q:Exit->Act->World->Prop}(hQ:∀s' a' w' β',K s'=some r->Cl N w0 X0 Y β' s' a' w'->Q .normal a' w'):
  ∀(l:List Nat) (os:List Oper),l.length=os.length->(∀(k i:Nat),l[k]?=some i->ops[i]?=os[k]?)->∀{s:St} {a:Act} {w:World} {β:Bt},Cl N w0 X0 Y β s a w->FE C P N call ops os s K=some r->wpOps P ops Q l a w
 |[],[],_,_,s,a,w,β,h,hk=>by
  show Q .normal a w;exact hQ s a w β hk h
 |[],_::_,hl,_,_,_,_,_,_,_=>by cases hl
 |_::_,[],hl,_,_,_,_,_,_,_=>by cases hl
 |i::l,o::os,hl,hi,s,a,w,β,h,hk=>by
  rw[wpOps_cons];obtain⟨s1,hk,h⟩:=HE h hk;obtain⟨s',hs',hn⟩:=Rw h Iw Dk (by simpa using hi 0 i rfl) hk
  exact hn _ _ fun a' w' β' h'=>Tb Iw Dk hQ l os (by simpa using hl) (fun k j hj=>by simpa using hi (k+1) j (by simpa using hj)) h' hs'
theorem Cl.drew (h:Cl N w0 X0 Y β s a w):Cl N w0 X0 Y β s a { w with drawn:=w.drawn+1 }:=by
 have:=h.stepR (d:=none) (v:=.top) (nw:=[]) (val:=undef) (w':={ w with drawn:=w.drawn+1 }) (β':=β) rfl rfl
  ⟨rfl,rfl,rfl,⟨Nat.le_refl _,fun _ _ _=>rfl,fun _ _=>Gi.refl _ _⟩,fun _ _=>rfl,by simp,by simp,by simp,by simp,by simp,.top _,by simp[Bq,B8,Al]⟩
 exact this
theorem GX (h:Cl N w0 X0 Y β s a w){G:Rs}(Iw:JT P G w0 X0)(Dk:∀f args res,call f args=some res->C6 G P f args res){id:Nat}{Q:Exit->Act->World->Prop}
  (hk:FE C P N call ops ops.toList s K=some r)(hQ:∀s' a' w' β',K s'=some r->Cl N w0 X0 Y β' s' a' w'->Q .normal a' w'):(Code.region id ops false).wp P Q a w:=by
 refine wp_region (Tb Iw Dk hQ (List.range ops.size) ops.toList (by simp) (fun k i hi=>?_) h hk)
 rw[List.getElem?_range] at hi
 ·simp at hi;subst hi;simp
 ·rcases Nat.lt_or_ge k ops.size with h'|h'
  ·exact h'
  ·rw[List.getElem?_eq_none (by simpa using h')] at hi;cases hi
def Kc (n:Nat)(listed:Array Bool):List Nat:=(List.range n).filter fun i=> !listed.getD i true
def Ai6 (ops:Array Oper)(listed:Array Bool)(o:Oper):Prop:=∀e∈o.after,Region.binds .any e=true->listed.getD e.on false=true
theorem testBit_or {a b j:Nat}:(a ||| b).testBit j=(a.testBit j||b.testBit j):=Nat.testBit_or a b j
theorem CZ {acc:List Nat}{j:Nat}:∀(es:List Edge)(v:Nat),(es.foldl (fun s e=>bif Region.binds .any e then s ||| 2 ^ e.on ||| acc.getD e.on 0 else s) v).testBit j=true ->
  v.testBit j=true∨∃e∈es,Region.binds .any e=true∧(j=e.on∨(acc.getD e.on 0).testBit j=true)
 |[],v,h=>.inl h
 |e::es,v,h=>by
  rcases CZ es _ h with h|⟨e',he',h⟩
  ·cases hb:Region.binds .any e<;>simp only[hb] at h
   ·exact .inl h
   ·simp only[cond_true,Nat.testBit_or,Bool.or_eq_true] at h;rcases h with (h|h)|h
    ·exact .inl h
    ·refine .inr ⟨e,by simp,hb,.inl ?_⟩
     rw[Nat.testBit_two_pow] at h;exact (of_decide_eq_true h).symm
    ·exact .inr ⟨e,by simp,hb,.inr h⟩
  ·exact .inr ⟨e',by simp[he'],h⟩
theorem Nj {listed:Array Bool}(hc:∀(j:Nat) oj,ops[j]?=some oj->listed.getD j false=true->Ai6 ops listed oj):
  ∀(rest done:List Oper) (acc:List Nat),ops.toList=done++rest->acc.length=done.length ->
   (∀(k:Nat) o,done[k]?=some o->Ai6 ops listed o->∀j,(acc.getD k 0).testBit j=true->listed.getD j false=true) ->
   ∀(k:Nat) o,ops[k]?=some o->Ai6 ops listed o->∀j,((G6 rest acc).getD k 0).testBit j=true->listed.getD j false=true
 |[],done,acc,he,_,h,k,o,ho,hf,j,hj=>by
  refine h k o ?_ hf j hj;rw[List.append_nil] at he;rw[←he]
  simpa using ho
 |o'::rest,done,acc,he,hl,h,k,o,ho,hf,j,hj=>by
  refine Nj hc rest (done++[o']) _ (by rw[he];simp) (by simp[hl]) ?_ k o ho hf j hj
  intro k o ho hf j hj;rcases Nat.lt_trichotomy k done.length with B6|heq|hgt
  ·rw[List.getElem?_append_left B6] at ho;rw[List.getD_eq_getElem?_getD,List.getElem?_append_left (by omega),←List.getD_eq_getElem?_getD] at hj
   exact h k o ho hf j hj
  ·subst heq;simp at ho;subst ho;rw[←hl] at hj;simp only[List.getD_eq_getElem?_getD,List.getElem?_append_right (Nat.le_refl _),Nat.sub_self,List.getElem?_cons_zero,Option.getD_some] at hj
   have hj:(o'.after.toList.foldl (fun s e=>bif Region.binds .any e then s ||| 2 ^ e.on ||| acc.getD e.on 0 else s) 0).testBit j=true:=by
    simpa only[List.getD_eq_getElem?_getD] using hj
   rcases CZ _ _ hj with h0|⟨e,hm,hb,h1⟩
   ·simp at h0
   ·have Yy:=hf e (by simpa using hm) hb
    rcases h1 with h1|h1
    ·rw[h1];exact Yy
    ·cases hd:done[e.on]? with
     |none=>
      have:acc.getD e.on 0=0:=by
       rw[List.getD_eq_getElem?_getD,List.getElem?_eq_none (by rw[hl];exact List.getElem?_eq_none_iff.1 hd)]
       rfl
      rw[this] at h1;simp at h1
     |some oe=>
      have hoe:ops[e.on]?=some oe:=by
       rw[←Array.getElem?_toList,he,List.getElem?_append_left (by
        rcases Nat.lt_or_ge e.on done.length with h'|h'
        ·exact h'
        ·rw[List.getElem?_eq_none h'] at hd;cases hd)]
       exact hd
      exact h e.on oe hd (hc e.on oe hoe Yy) j h1
  ·rw[List.getElem?_eq_none (by simp;omega)] at ho
   cases ho
theorem Te {bs:List Nat}:∀(l:List Oper)(n:Nat),Wr C P ops bs l n=true->∀(k:Nat) o,l[k]?=some o->∀(j:Nat) x,ops[j]?=some x->j<n+k->Zu C P ops x o=true->(bs.getD (n+k) 0).testBit j=true
 |[],_,_,k,o,ho,_,_,_,_,_=>by simp at ho
 |o'::l,n,h,k,o,ho,j,x,hx,hj,Kg=>by
  simp only[Wr,Bool.and_eq_true] at h;cases k with
  |zero=>
   simp at ho;subst ho
   have:=List.all_eq_true.1 h.1 (x,j) (by
    rw[List.mem_zipIdx_iff_getElem?]
    simpa using hx)
   simp only[Kg,Bool.not_true,Bool.or_false,Bool.or_eq_true,Bool.not_eq_true'] at this;rcases this with h'|h'
   ·have:Nat.blt j n=true:=Nat.ble_eq_true_of_le (by omega)
    rw[this] at h';cases h'
   ·exact h'
  |succ k=>
   have:=Te l (n+1) h.2 k o (by simpa using ho) j x hx (by omega) Kg
   rwa [show n+(k+1)=n+1+k by omega]
theorem Hs {n i:Nat}{listed:Array Bool}:i∈Kc n listed↔i<n∧listed.getD i true=false:=by
 unfold Kc;simp[List.mem_filter]
theorem Rx {n i:Nat}{listed:Array Bool}(hi:i∈Kc n listed)(La:listed.size=n):∃l1 l2,Kc n listed=l1++i::l2∧Kc n (listed.setIfInBounds i true)=l1++l2∧∀j∈l1,j<i:=by
 obtain⟨B6,H5⟩:=Hs.1 hi
 have hr:List.range n=List.range i++i::(List.range (n-i-1)).map (i+1 + ·):=by
  conv=>lhs;rw[show n=i+(1+(n-i-1)) by omega]
  rw[List.range_add,List.range_add];simp[Nat.add_assoc]
 refine⟨(List.range i).filter fun i=> !listed.getD i true,((List.range (n-i-1)).map (i+1 + ·)).filter fun i=> !listed.getD i true,?_,?_,fun j hj=>?_⟩
 ·unfold Kc;rw[hr,List.filter_append,List.filter_cons_of_pos (by rw[H5];rfl)]
 ·unfold Kc;rw[hr,List.filter_append,List.filter_cons_of_neg (by simp[La,B6])]
  congr 1
  ·refine List.filter_congr fun j hj=>?_
   rw[getD_set_ne true (by have:=List.mem_range.1 hj;omega)]
  ·refine List.filter_congr fun j hj=>?_
   obtain⟨k,_,rfl⟩:=List.mem_map.1 hj;rw[getD_set_ne true (by omega)]
 ·exact List.mem_range.1 (List.mem_filter.1 hj).1
theorem Aaz (h:Cl N w0 X0 Y β s a w)(o:Oper):MS C P o s:=by
 refine⟨fun y _ i hi=>Ej h y i hi,fun _ _ y _ i hi c hc p hp k hk=>h.wfB i c hc p hp k hk⟩
theorem BN (ZD:(ops.toList.zipIdx.all fun q=>q.1.after.toList.all fun e=> !Region.binds .any e||Nat.blt e.on q.2)=true) {listed:Array Bool}(inv:HeadInv .any ops ops.size listed)(hr:Region.ready .any ops listed=[]):Kc ops.size listed=[]:=by
 cases hp:Kc ops.size listed with
 |nil=>rfl
 |cons i l=>
  exfalso;have hi:i∈Kc ops.size listed:=by rw[hp];simp
  obtain⟨B6,H5⟩:=Hs.1 hi;obtain⟨l1,l2,h1,_,h3⟩:=Rx hi inv.size
  have Yy:l1=[]:=by
   cases l1 with
   |nil=>rfl
   |cons j l1=>
    rw[hp] at h1;simp at h1;have:=h3 j (by simp)
    omega
  subst Yy
  have Atn:∀j,j<i->listed.getD j false=true:=by
   intro j hj;cases hh:listed.getD j false with
   |true=>rfl
   |false=>
    have:j∈Kc ops.size listed:=Hs.2 ⟨by omega,getD_in (by rw[inv.size];omega) hh⟩
    have hs:(Kc ops.size listed).Pairwise (· < ·):=List.Pairwise.filter _ List.pairwise_lt_range
    rw[h1] at this hs;simp at this;rcases this with e|e
    ·omega
    ·have:=(List.pairwise_cons.1 hs).1 j e;omega
  have:i∈Region.ready .any ops listed:=by
   refine mem_ready.2 ⟨H5,ops[i],Array.getElem?_eq_getElem B6,fun e he hb=>Atn _ ?_⟩
   have:=List.all_eq_true.1 ZD (ops[i],i) (by
    rw[List.mem_zipIdx_iff_getElem?];simp[B6])
   have:=List.all_eq_true.1 this e (Array.mem_toList_iff.2 he);simp only[hb,Bool.not_true,Bool.false_or] at this;exact Nat.lt_of_succ_le (Nat.le_of_ble_eq_true this)
  rw[hr] at this;simp at this
theorem EX {G:Rs}(Iw:JT P G w0 X0)(Dk:∀f args res,call f args=some res->C6 G P f args res)(hok:CS C P ops=true){Q:Exit->Act->World->Prop}(hQ:∀s' a' w' β',K s'=some r->Cl N w0 X0 Y β' s' a' w'->Q .normal a' w'):
  ∀(fuel:Nat) {listed:Array Bool} {s:St} {a:Act} {w:World} {β:Bt},HeadInv .any ops ops.size listed->(Kc ops.size listed).length=fuel->Cl N w0 X0 Y β s a w->Kk C P N call ops ((Kc ops.size listed).filterMap (ops[·]?)) s K=some r->wpAny P .any ops Q fuel listed a w:=by
 unfold CS at hok;simp only[Bool.and_eq_true] at hok;obtain⟨ZD,Ajy⟩:=hok;intro fuel
 induction fuel with
 |zero=>
  intro listed s a w β inv hf h hk;have hp:=List.eq_nil_of_length_eq_zero hf;rw[hp] at hk;refine⟨?_,hQ s a w β hk h⟩;cases hr:Region.ready .any ops listed with
  |nil=>rfl
  |cons i l=>
   exfalso;have hi:i∈Region.ready .any ops listed:=by rw[hr];simp
   obtain⟨H5,o,ho,_⟩:=mem_ready.1 hi;have:i∈Kc ops.size listed:=Hs.2 ⟨(Array.getElem?_eq_some_iff.1 ho).1,H5⟩;rw[hp] at this;simp at this
 |succ fuel ih=>
  intro listed s a w β inv hf h hk;refine⟨fun hr=>?_,fun i hi=>?_⟩
  ·rw[BN ZD inv hr] at hf;cases hf
  ·obtain⟨H5,o,ho,Lh⟩:=mem_ready.1 hi;have B6:i<ops.size:=(Array.getElem?_eq_some_iff.1 ho).1;obtain⟨l1,l2,h1,h2,h3⟩:=Rx (Hs.2 ⟨B6,H5⟩) inv.size;rw[h1,List.filterMap_append,List.filterMap_cons_some ho] at hk
   have O6:∀x∈l1.filterMap (ops[·]?),Tf C P ops x o:=by
    intro x hx;obtain⟨j,hj,hxj⟩:=List.mem_filterMap.1 hx;refine Abp ?_;cases Kg:Zu C P ops x o with
    |false=>rfl
    |true=>
     exfalso;have AU:=Te ops.toList 0 Ajy i o (by simpa using ho) j x hxj (by have:=h3 j hj;omega) Kg
     rw[Nat.zero_add] at AU;have hjl:=Nj (listed:=listed) (fun j oj hj hl=>inv.closed j oj hj hl) ops.toList [] [] (by simp) rfl (by simp) i o ho Lh j AU
     have:j∈Kc ops.size listed:=by rw[h1];simp[hj]
     have:=getD_both (Hs.1 this).2;rw[hjl] at this;cases this
   obtain⟨s',hs',hn⟩:=Rw h Iw Dk ho (UW (Aaz h o) O6 hk);refine hn _ _ fun a' w' β' h'=>ih (inv.set hi B6) ?_ h' ?_
   ·rw[h2];rw[h1] at hf;simp at hf ⊢;omega
   ·rw[h2,List.filterMap_append];exact hs'
theorem Uf (h:Cl N w0 X0 Y β s a w){G:Rs}(Iw:JT P G w0 X0)(Dk:∀f args res,call f args=some res->C6 G P f args res)(hm:P.follows .mixedOrders=true)(hok:CS C P ops=true){Q:Exit->Act->World->Prop}
  (hk:Kk C P N call ops ops.toList s K=some r)(hQ:∀s' a' w' β',K s'=some r->Cl N w0 X0 Y β' s' a' w'->Q .normal a' w'):wpAny P .any ops Q ops.size (Array.replicate ops.size false) a { w with drawn:=w.drawn+1 }:=by
 have hp:Kc ops.size (Array.replicate ops.size false)=List.range ops.size:=by
  unfold Kc;refine List.filter_eq_self.2 fun i hi=>?_
  have:=List.mem_range.1 hi;simp[this]
 refine EX (C:=C) Iw Dk hok hQ ops.size ⟨by simp,fun j oj _ hl=>(by rw[getD_replicate_false] at hl;cases hl),fun t ht ht'=>by omega⟩ (by rw[hp];simp) h.drew ?_
 rw[hp]
 have:(List.range ops.size).filterMap (ops[·]?)=ops.toList:=by
  refine List.ext_getElem? fun k=>?_
  have:∀(n:Nat),n<=ops.size->(List.range n).filterMap (ops[·]?)=ops.toList.take n:=by
   intro n
   induction n with
   |zero=>intro _;rfl
   |succ n ih=>
    intro hn;rw[List.range_succ,List.filterMap_append,ih (by omega),List.take_add_one]
    congr 1
    have:ops[n]?=some ops[n]:=Array.getElem?_eq_getElem (by omega)
    simp[this]
  rw[this ops.size (Nat.le_refl _)]
  congr 1
  exact List.take_of_length_le (by simp)
 rw[this];exact hk
theorem GH (h:Cl N w0 X0 Y β s a w){G:Rs}(Iw:JT P G w0 X0)(Dk:∀f args res,call f args=some res->C6 G P f args res)(hm:P.follows .mixedOrders=true)(hok:CS C P ops=true){id:Nat}{Q:Exit->Act->World->Prop}
  (hk:Kk C P N call ops ops.toList s K=some r)(hQ:∀s' a' w' β',K s'=some r->Cl N w0 X0 Y β' s' a' w'->Q .normal a' w'):(Code.region id ops true).wp P Q a w:=
 wp_region_any hm (Uf h Iw Dk hm hok hk hQ)
end
end
section
open Go.RowKit
section
variable {R R':Type} {Rel:Option R->Option R'->Prop} {P:Program} {N:Nat} {tm tm':Nat->PV} {hp Cc:Nat->Option Bm} {o:Oper}
theorem TQ (hn:Rel none none){C:F3}{call:Ax}{K:St->Option R}{K':St->Option R'}(O6:Kx o.op=true)(H3:∀x∈o.op.operands.toList,Bw tm x=Bw tm' x)
  (hS:∀i,Rg o tm' Cc i->hp i=Cc i∨(hp i=none∧∀b,Rel none b)) (BX:∀d,o.dst=some d->hp d=Cc d)
  (hK:∀v Cn Eo,(∀M,AG M (Rg o tm' Cc) o.dst hp Cc Cn Eo)->Rel (K ⟨Bl tm o.dst v,Cn⟩) (K' ⟨Bl tm' o.dst v,Eo⟩)):Rel (Qg C P N call ⟨tm,hp⟩ o K) (Qg C P N call ⟨tm',Cc⟩ o K'):=by
 unfold Qg;have hl:∀x∈o.op.operands.toList,∀i∈Bq (Bw tm' x),Rg o tm' Cc i:=fun x hx i hi=>.inl ⟨x,hx,hi⟩
 generalize hLd:Rg o tm' Cc=S at *
 generalize hop:o.op=op at *
 unfold Kx at O6;split at O6
 ·rename_i c
  have Il:∀x∈c.args.toList,x∈(Op.call c).operands.toList:=by
   intro x hx;simp only[Op.operands,Call.operands,Array.toList_append,List.mem_append];exact .inr hx
  split at O6
  ·rename_i hc;simp only[hc];refine Cz hn fun d hd=>Bg hn fun x _ hx=>Bg hn fun y _ hy=>Ei hn (Bg hn fun _ _ _=>Bg hn fun _ _ _=>?_)
   subst hy;have TD:=Il x (by rw[hx];simp)
   have hym:=Il y (by rw[hx];simp)
   simp only[H3 x TD,H3 y hym];refine Sq hn hS (BX d hd) (fun i hi=>hl x TD i (E1 hi)) (fun i hi=>hl y hym i (E1 hi)) fun v Cn Eo hh=>?_
   have:=hK v Cn Eo (by rw[hd];exact hh)
   rw[hd] at this;exact this
  ·cases O6
 ·cases O6
theorem Me {C:F3}{call:Ax}(O6:Kx o.op=true)(H3:∀x∈o.op.operands.toList,Bw tm x=Bw tm' x)(hS:∀i,Rg o tm' Cc i->hp i=Cc i)(BX:∀d,o.dst=some d->hp d=Cc d){s1:St}
  (h:Qg C P N call ⟨tm,hp⟩ o some=some s1):∃v Cn Eo,s1=⟨Bl tm o.dst v,Cn⟩∧Qg C P N call ⟨tm',Cc⟩ o some=some ⟨Bl tm' o.dst v,Eo⟩∧∀M,AG M (Rg o tm' Cc) o.dst hp Cc Cn Eo:=by
 have:=TQ (P:=P) (N:=N) (C:=C) (call:=call) (o:=o) (tm:=tm) (tm':=tm') (hp:=hp) (Cc:=Cc) (K:=some) (K':=some)
  (Rel:=fun (a b:Option St)=>∀s1,a=some s1->∃v Cn Eo,s1=⟨Bl tm o.dst v,Cn⟩∧b=some ⟨Bl tm' o.dst v,Eo⟩∧∀M,AG M (Rg o tm' Cc) o.dst hp Cc Cn Eo) (fun _ h=>by cases h) O6 H3 (fun i hi=>.inl (hS i hi)) BX
  (fun v Cn Eo hT s1 h=>by cases h;exact⟨v,Cn,Eo,rfl,rfl,hT⟩)
 exact this s1 h
end
section
variable {R R':Type} {r:R} {r':R'} {C:F3} {P:Program} {N:Nat} {call:Ax} {ops:Array Oper} {o x:Oper} {s s1 s2:St} {K:St->Option R}
theorem Oh {tm:Nat->PV}(h:Fx C P ops o tm=true):M7 C P o.op=true:=by
 unfold Fx at h;simp only[Bool.and_eq_true] at h;exact h.1
theorem FO (h:Kx o.op=true):M7 C P o.op=true:=by
 unfold Kx at h;split at h
 ·rename_i c hc;rw[hc];split at h
  ·rename_i hcc;simp only[M7,hcc];exact h
  ·cases h
 ·cases h
theorem Kj (h:De C P N call ops x s K=some r):∃s1,De C P N call ops x s some=some s1∧EB P x s s1∧(Ou P x.op=true->s1.hp=s.hp)∧K s1=some r:=by
 cases hx:Fx C P ops x s.tm
 ·rw[Ir hx] at h ⊢;cases ex:gE C P N call ops x s with
  |none=>rw[ex] at h;cases h
  |some q=>
   rw[ex] at h;obtain⟨hb,h1⟩:=Aj h;simp only[Bool.and_eq_true] at hb;refine⟨_,?_,⟨fun t ht=>Ll ht,fun i hi=>K1 hb.2 hi,fun hm i hi=>?_⟩,fun hl=>?_,h1⟩
   ·show Bj _ _=_;rw[hb.1,hb.2];rfl
   ·show Ao (Af s.hp q.2.1) q.2.2 i=s.hp i;rw[E8 hb.2 hi,((Oz ex).1 hm).1];simp
   ·show Ao (Af s.hp q.2.1) q.2.2=s.hp;obtain⟨h1,h2⟩:=SD (.inl hl) ex;rw[h1,h2]
    funext i
    show Af s.hp [] i=_;rw[Br];simp
 ·rw[Ha hx] at h ⊢
  exact Y6 (P:=P) (N:=N) (o:=x) (tm:=s.tm) (tm':=s.tm) (hp:=s.hp) (K':=some) (Rel:=fun (a:Option R) (b:Option St)=>a=some r->∃s1,b=some s1∧EB P x s s1∧(Ou P x.op=true->s1.hp=s.hp)∧K s1=some r) (fun h=>by cases h) (fun _ _=>rfl) (fun v Cn hh h=>⟨_,rfl,⟨fun t ht=>Ll ht,hh,fun hm=>(by
   rw[Sf (Oh hx)] at hm;cases hm)⟩,fun hl=>(by
   have:=Oh hx;rw[Im hl] at this;cases this),h⟩) h
theorem P9 {K':St->Option R'}(h:De C P N call ops x s some=some s1)(hk:K' s1=some r'):De C P N call ops x s K'=some r':=by
 cases hx:Fx C P ops x s.tm
 ·rw[Ir hx] at h ⊢;cases ex:gE C P N call ops x s with
  |none=>rw[ex] at h;cases h
  |some q=>
   rw[ex] at h;obtain⟨hb,h1⟩:=Aj h;show Bj _ _=_;rw[hb];cases h1;exact hk
 ·rw[Ha hx] at h ⊢;exact Y6 (P:=P) (N:=N) (o:=x) (tm:=s.tm) (tm':=s.tm) (hp:=s.hp) (K:=some) (Rel:=fun (a:Option St) (b:Option R')=>a=some s1->b=some r') (fun h=>by cases h) (fun _ _=>rfl) (fun v Cn hh h=>by cases h;exact hk) h
theorem ET {d:Nat}{t tx:TypeId}{b y:PV}(h:Ls P N s d t tx b y K=some r):s.hp d=none:=by
 unfold Ls at h;split at h
 ·obtain⟨_,h⟩:=Aj h;cases hI:Se P tx
  ·rw[hI,cond_false] at h;refine U1 (P:=P) (tm:=s.tm) (tm':=s.tm) (hp:=s.hp) (Cc:=s.hp) (S:=fun _=>True) (K':=fun _ _=>(none:Option R)) (Rel:=fun (a:Option R) (_:Option R)=>a=some r->s.hp d=none) (fun h=>by cases h) (fun _ _=>.inl rfl) (fun _ _=>trivial) (fun m new h=>?_) h
   split at h
   ·split at h
    ·obtain⟨hb,_⟩:=Aj h;simp only[Bool.and_eq_true,Option.isNone_iff_eq_none] at hb;simp only[hb]
    ·cases h
   ·obtain⟨_,_,_,h,_⟩:=Eu h;obtain⟨hb,_⟩:=Aj h;simp only[Bool.and_eq_true,Option.isNone_iff_eq_none] at hb;simp only[hb]
  ·rw[hI,cond_true] at h;unfold Pn at h;obtain⟨_,_,_,h⟩:=Da h;obtain⟨_,_,_,h,_⟩:=Eu h;obtain⟨hb,_⟩:=Aj h;simp only[Bool.and_eq_true,Option.isNone_iff_eq_none] at hb;simp only[hb]
 ·cases h
theorem Afz (hw:MS C P o s)(hwx:∀y∈x.op.operands.toList,∀i∈Bq (Bw s.tm y),s.hp i≠none) (xo:∀d,x.dst=some d->d ∉ looks ops o)(ne:∀d,x.dst=some d->o.dst≠some d)(ox:∀d,o.dst=some d->d ∉ looks ops x)
  (C4:Kx x.op=true)(SU:Kx o.op=true)(JB:∀i,Rg x s.tm s.hp i->¬Rg o s.tm s.hp i)(hx:Fx C P ops x s.tm=true)(ho:Fx C P ops o s.tm=true)
  (h:De C P N call ops x s (fun s1=>De C P N call ops o s1 K)=some r):De C P N call ops o s (fun s1=>De C P N call ops x s1 K)=some r:=by
 obtain⟨tm,hp⟩:=s;obtain⟨s1,e1,_,_,h⟩:=Kj h;obtain⟨s2,e2,_,_,h⟩:=Kj h;rw[Ha hx] at e1
 have hSx:∀i,Rg x tm hp i->hp i≠none:=by
  rintro i (⟨y,hy,hi⟩|⟨O6,_⟩)
  ·exact hwx y hy i hi
  ·rw[C4] at O6;cases O6
 have hSo:∀i,Rg o tm hp i->hp i≠none:=by
  rintro i (⟨y,hy,hi⟩|⟨O6,_⟩)
  ·exact hw.1 y hy i hi
  ·rw[SU] at O6;cases O6
 obtain⟨vx,hpx,Afr,rfl,e1',T1⟩:=Me C4 (fun _ _=>rfl) (fun _ _=>rfl) (fun _ _=>rfl) e1
 have:Afr=hpx:=by
  rw[e1] at e1';injection e1' with q;injection q with _ q;exact q.symm
 subst this;have t1:∀t∈looks ops o,Bl tm x.dst vx t=tm t:=D6 xo;have t1o:=Er (ops:=ops) (o:=o) t1;rw[Ha (by rw[Ge t1];exact ho)] at e2
 have hRo:∀i,Rg o (Bl tm x.dst vx) Afr i↔Rg o tm hp i:=by
  intro i;constructor
  ·rintro (⟨y,hy,hi⟩|⟨O6,_⟩)
   ·exact .inl ⟨y,hy,by rw[←t1o y hy];exact hi⟩
   ·rw[SU] at O6;cases O6
  ·rintro (⟨y,hy,hi⟩|⟨O6,_⟩)
   ·exact .inl ⟨y,hy,by rw[t1o y hy];exact hi⟩
   ·rw[SU] at O6;cases O6
 have Ahb:∀{s:St} {o:Oper} {s2:St},Kx o.op=true->Qg C P N call s o some=some s2->∀d,o.dst=some d->s.hp d=none:=by
  intro s o s2 SU e d hd;unfold Qg at e;unfold Kx at SU;split at SU
  ·rename_i c hc;rw[hc] at e;simp only at e;split at SU
   ·rename_i hcc;rw[hcc] at e;simp only[hd,Dh] at e;obtain⟨_,_,_,e⟩:=A7 e;obtain⟨_,_,_,e⟩:=A7 e;obtain⟨_,e⟩:=Dd e;obtain⟨_,_,_,e⟩:=A7 e;obtain⟨_,_,_,e⟩:=A7 e;exact ET e
   ·cases SU
  ·cases SU
 have A29:∀d,o.dst=some d->hp d=none:=by
  intro d hd;have h0:=Ahb SU e2 d hd;cases hh:hp d with
  |none=>rfl
  |some b=>exact absurd h0 ((T1 0).keep d (by rw[hh];simp))
 have Ape:=Ahb C4 e1;simp only at Ape;have hoS:∀d,o.dst=some d->¬Rg x tm hp d:=fun d hd hR=>hSx d hR (A29 d hd)
 have hxS:∀d,x.dst=some d->¬Rg o tm hp d:=fun d hd hR=>hSo d hR (Ape d hd)
 obtain⟨vo,Azf,hpo,rfl,e3,T2⟩:=Me (tm':=tm) (Cc:=hp) SU t1o (fun i hi=>(T1 0).far i (fun hR=>JB i hR hi) (hSo i hi)) (fun d hd=>((T1 (d+1)).off d (by omega) (fun e=>ne d e hd) (.inl (hoS d hd))).1) e2
 obtain⟨vo',A2x,LN,e3a,e3b,T3⟩:=Me (tm':=tm) (Cc:=hp) SU (fun _ _=>rfl) (fun _ _=>rfl) (fun _ _=>rfl) e3
 rw[e3] at e3b
 have Atz:A2x=hpo∧LN=hpo:=by
  injection e3a with _ q1;injection e3b with q2;injection q2 with _ q3;exact⟨q1.symm,q3.symm⟩
 obtain⟨rfl,rfl⟩:=Atz;have t2:∀t∈looks ops x,tm t=Bl tm o.dst vo t:=fun t ht=>(D6 ox t ht).symm
 have t2x:=Er (ops:=ops) (o:=x) t2
 have hRx:∀i,Rg x (Bl tm o.dst vo) LN i↔Rg x tm hp i:=by
  intro i;constructor
  ·rintro (⟨y,hy,hi⟩|⟨O6,_⟩)
   ·exact .inl ⟨y,hy,by rw[t2x y hy];exact hi⟩
   ·rw[C4] at O6;cases O6
  ·rintro (⟨y,hy,hi⟩|⟨O6,_⟩)
   ·exact .inl ⟨y,hy,by rw[←t2x y hy];exact hi⟩
   ·rw[C4] at O6;cases O6
 obtain⟨vx2,Axq,Au5,e4a,e4,T4⟩:=Me (tm':=Bl tm o.dst vo) (Cc:=LN) C4 t2x (fun i hi=>((T3 0).far i (JB i ((hRx i).1 hi)) (hSx i ((hRx i).1 hi))).symm) (fun d hd=>((T3 (d+1)).off d (by omega) (fun e=>ne d hd e) (.inl (hxS d hd))).1.symm) e1
 have hvx:Bl tm x.dst vx=Bl tm x.dst vx2∧Afr=Axq:=by
  injection e4a with q1 q2;exact⟨q1,q2⟩
 obtain⟨hvx,rfl⟩:=hvx;obtain⟨_,Qp,Ia,e5a,e5b,T5⟩:=Me (tm':=Bl tm x.dst vx) (Cc:=Afr) SU (fun _ _=>rfl) (fun _ _=>rfl) (fun _ _=>rfl) e2
 have hq:Qp=Azf:=by injection e5a with _ q1;exact q1.symm
 subst hq;obtain⟨_,hu1,hu2,e6a,e6b,T6⟩:=Me (tm':=Bl tm o.dst vo) (Cc:=LN) C4 (fun _ _=>rfl) (fun _ _=>rfl) (fun _ _=>rfl) e4
 have hu:hu1=Au5:=by injection e6a with _ q1;exact q1.symm
 subst hu
 have Il:Qp=hu1:=by
  funext i
  by_cases hi:Rg o tm hp i∨o.dst=some i
  ·have hxi:¬Rg x tm hp i:=by
    rcases hi with hi|hi
    ·exact fun hR=>JB i hR hi
    ·exact hoS i hi
   have hdi:x.dst≠some i:=by
    rcases hi with hi|hi
    ·exact fun e=>hxS i e hi
    ·exact fun e=>ne i e hi
   rw[(T2 0).same i ((T1 (i+1)).off i (by omega) hdi (.inl hxi)).1]
   exact ((T6 (i+1)).off i (by omega) hdi (.inl fun hR=>hxi ((hRx i).1 hR))).1.symm
  ·have hoi:¬Rg o tm hp i:=fun e=>hi (.inl e)
   have hdi:o.dst≠some i:=fun e=>hi (.inr e)
   rw[((T5 (i+1)).off i (by omega) hdi (.inl fun hR=>hoi ((hRo i).1 hR))).1]
   exact (T4 0).same i ((T3 (i+1)).off i (by omega) hdi (.inl hoi)).1.symm
 refine P9 (s1:=⟨Bl tm o.dst vo,LN⟩) (by rw[Ha ho];exact e3) ?_
 refine P9 (s1:=⟨Bl (Bl tm o.dst vo) x.dst vx2,hu1⟩) (by rw[Ha (by rw[←Ge t2];exact hx)];exact e4) ?_
 rw[←Ii ne,←hvx,←Il];exact h
theorem Tq (hM:M7 C P o.op=true){i:Nat}(h:Rg o s.tm s.hp i):i∈Jy C P s o:=by
 unfold Jy;rw[hM];cases hA:Kx o.op
 ·simp only[Bool.not_false,Bool.and_self,cond_true,List.mem_append];rcases h with⟨y,hy,hi⟩|⟨_,id,c,⟨y,hy,hi⟩,hc,p,hp,hk⟩
  ·exact .inl (List.mem_flatMap.2 ⟨y,hy,hi⟩)
  ·refine .inr (List.mem_flatMap.2 ⟨id,List.mem_flatMap.2 ⟨y,hy,hi⟩,?_⟩);rw[hc];exact List.mem_flatMap.2 ⟨p,hp,hk⟩
 ·simp only[Bool.not_true,Bool.and_false,cond_false,Bool.or_true,cond_true];rcases h with⟨y,hy,hi⟩|⟨hn,_⟩
  ·exact List.mem_flatMap.2 ⟨y,hy,hi⟩
  ·rw[hA] at hn;cases hn
theorem Xc (hl:M7 C P o.op=true∨Ou P o.op=true){y:Operand}(hy:y∈o.op.operands.toList){i:Nat}(h:i∈Bq (Bw s.tm y)):i∈Jy C P s o:=by
 rcases hl with hM|hl
 ·exact Tq hM (.inl ⟨y,hy,h⟩)
 ·unfold Jy;rw[Im hl,hl];exact List.mem_flatMap.2 ⟨y,hy,h⟩
theorem JJ (ht:∀t∈looks ops o,s1.tm t=s.tm t)(hh:M7 C P o.op=true->Kx o.op=false->∀y∈o.op.operands.toList,∀i∈Bq (Bw s.tm y),s1.hp i=s.hp i):Jy C P s1 o=Jy C P s o:=by
 have he:=Er (ops:=ops) (o:=o) ht
 have hl:(o.op.operands.toList.flatMap fun y=>Bq (Bw s1.tm y))=o.op.operands.toList.flatMap fun y=>Bq (Bw s.tm y):=by
  have Ajk:∀l:List Operand,(∀y∈l,Bw s1.tm y=Bw s.tm y)->(l.flatMap fun y=>Bq (Bw s1.tm y))=l.flatMap fun y=>Bq (Bw s.tm y):=by
   intro l
   induction l with
   |nil=>intro _;rfl
   |cons a l ih=>intro h;simp only[List.flatMap_cons];rw[h a (by simp),ih fun y hy=>h y (by simp[hy])]
  exact Ajk _ he
 unfold Jy;simp only[hl];cases hM:(M7 C P o.op && !Kx o.op)
 ·rfl
 ·simp only[cond_true];simp only[Bool.and_eq_true,Bool.not_eq_true'] at hM
  congr 1
  have Ajk:∀l:List Nat,(∀i∈l,s1.hp i=s.hp i)->(l.flatMap fun i=>match s1.hp i with|some (.st c)=>c.flatMap Al|_=>[])=l.flatMap fun i=>match s.hp i with|some (.st c)=>c.flatMap Al|_=>[]:=by
   intro l
   induction l with
   |nil=>intro _;rfl
   |cons a l ih=>intro h;simp only[List.flatMap_cons];rw[h a (by simp),ih fun y hy=>h y (by simp[hy])]
  exact Ajk _ fun i hi=>by
   obtain⟨y,hy,hi⟩:=List.mem_flatMap.1 hi;exact hh hM.1 hM.2 y hy i hi
theorem Sr {a b:List Nat}(h:UG a b=true){i:Nat}(ha:i∈a)(hb:i∈b):False:=by
 have:=List.all_eq_true.1 h i ha;have h2:b.any (Nat.beq i)=true:=List.any_eq_true.2 ⟨i,hb,Nat.beq_refl i⟩;rw[h2] at this;cases this
theorem UU {a b:List Nat}(h:UG a b=true):UG b a=true:=by
 refine List.all_eq_true.2 fun i hi=>?_
 cases hc:a.any (Nat.beq i)
 ·rfl
 ·obtain⟨j,hj,e⟩:=List.any_eq_true.1 hc;rw[Nat.eq_of_beq_eq_true e] at hi;exact (Sr h hj hi).elim
theorem Ra:H7 C P x o=H7 C P o x:=by
 unfold H7;cases M7 C P x.op<;>cases M7 C P o.op<;>cases Ou P x.op<;>cases Ou P o.op<;>cases Kx x.op<;>cases Kx o.op<;>rfl
structure Jo (C:F3) (P:Program) (ops:Array Oper) (x o:Oper):Prop where
 xo:∀d,x.dst=some d->d ∉ looks ops o
 ne:∀d,x.dst=some d->o.dst≠some d
 ox:∀d,o.dst=some d->d ∉ looks ops x
 me:Nm C P x o=false∨H7 C P x o=true
theorem TU (h:Abb C P ops x o=false):Jo C P ops x o:=by
 unfold Abb at h;simp only[Bool.or_eq_false_iff] at h;obtain⟨h1,h2⟩:=h;have hT:=h1;unfold Ab8 at h1;simp only[Bool.or_eq_false_iff] at h1
 have a1:Zu C P ops x o=false∨Nm C P x o=true:=by
  cases hc:Nm C P x o
  ·left;unfold Zu;unfold Nm at hc;simp only[Bool.or_eq_false_iff] at hc ⊢;exact⟨⟨⟨h1.1,h1.2⟩,hc.1⟩,hc.2⟩
  ·exact .inr rfl
 refine⟨fun d hd=>?_,fun d hd he=>?_,fun d hd=>?_,?_⟩
 ·have:=h1.1;simp only[hd,Bool.or_eq_false_iff] at this;exact Ng this.1
 ·have:=h1.1;simp only[hd,he,Bool.or_eq_false_iff] at this;rw[Nat.beq_refl] at this;cases this.2
 ·have:=h1.2;simp only[hd] at this;exact Ng this
 ·cases hc:Nm C P x o
  ·exact .inl rfl
  ·rw[hc] at h2;right
   simpa using h2
theorem Jo.apart (ap:Jo C P ops x o)(h:Nm C P x o=false):Tf C P ops x o:=by
 unfold Nm at h;simp only[Bool.or_eq_false_iff,Bool.and_eq_false_iff] at h;refine⟨ap.xo,ap.ne,ap.ox,fun hm=>?_,fun hm=>?_⟩
 ·rcases h.1 with h|h
  ·rw[hm] at h;cases h
  ·exact h
 ·rcases h.2 with h|h
  ·rw[hm] at h;cases h
  ·exact h
theorem Jo.same (ap:Jo C P ops x o)(hk:EB P x s s1)(hl:Ou P x.op=true->s1.hp=s.hp)(hM:M7 C P o.op=true)(hA:Kx o.op=false){i:Nat}(hi:s.hp i≠none):s1.hp i=s.hp i:=by
 rcases ap.me with h|h
 ·exact hk.2.2 ((ap.apart h).mo hM) i hi
 ·unfold H7 at h;rw[hA] at h;simp only[Bool.and_false,Bool.or_false,Bool.or_eq_true,Bool.and_eq_true] at h;rcases h with h|h
  ·have:=h.2;rw[Im (C:=C) (P:=P) this] at hM;cases hM
  ·rw[hl h.2]
theorem MS.keepsS (h:MS C P o s)(ap:Jo C P ops x o)(hk:EB P x s s1)(hl:Ou P x.op=true->s1.hp=s.hp):MS C P o s1:=by
 have hop:∀y∈o.op.operands.toList,Bw s1.tm y=Bw s.tm y:=fun y hy=>Er (ops:=ops) (o:=o) (fun t ht=>hk.1 t fun hd=>ap.xo t hd ht) y hy
 refine⟨fun y hy i hi=>?_,fun hM hA y hy i hi c hc p hp k hkk=>?_⟩
 ·rw[hop y hy] at hi;exact hk.2.1 i (h.1 y hy i hi)
 ·rw[hop y hy] at hi;rw[ap.same hk hl hM hA (h.1 y hy i hi)] at hc;exact hk.2.1 k (h.2 hM hA y hy i hi c hc p hp k hkk)
theorem Jo.symm (ap:Jo C P ops x o):Jo C P ops o x:=by
 refine⟨ap.ox,fun d hd he=>ap.ne d he hd,ap.xo,?_⟩
 rcases ap.me with h|h
 ·left;unfold Nm at h ⊢;rw[Bool.or_comm];exact h
 ·right;rw[Ra];exact h
theorem Aqy (hw:MS C P o s)(hwx:H7 C P x o=true->∀i∈Jy C P s x,s.hp i≠none)(ap:Jo C P ops x o)(hd:H7 C P x o=true->UG (Jy C P s x) (Jy C P s o)=true)
  (h:De C P N call ops x s (fun s1=>De C P N call ops o s1 K)=some r):De C P N call ops o s (fun s1=>De C P N call ops x s1 K)=some r:=by
 rcases ap.me with hm|hm
 ·exact Apb hw (ap.apart hm) h
 ·have hd:=hd hm;have hwx:=hwx hm;cases hx:Fx C P ops x s.tm
  ·cases ho:Fx C P ops o s.tm
   ·exact QH hw ap.xo ap.ne ap.ox hx ho h
   ·have hMo:=Oh ho
    have hlx:BA P ops x s.tm:=by
     cases hl:Ou P x.op
     ·right
      have hMx:M7 C P x.op=true:=by
       unfold H7 at hm;simp only[hl,Bool.and_false,Bool.or_false,Bool.or_eq_true,Bool.and_eq_true] at hm;rcases hm with hm|hm
       ·exact hm.1
       ·exact FO hm.1
      cases hv:F2 ops x s.tm with
      |none=>
       exfalso;rw[Ir hx] at h;unfold gE at h;rw[hv] at h;cases h
      |some b=>
       cases b
       ·rfl
       ·unfold Fx at hx;rw[hMx,hv] at hx;cases hx
     ·exact .inl hl
    refine Adt ap.xo ap.ne ap.ox hlx (fun y hy i hi hR=>?_) ho h
    refine Sr hd (Xc ?_ hy hi) (Tq hMo hR);unfold H7 at hm;simp only[Bool.or_eq_true,Bool.and_eq_true] at hm;rcases hm with (hm|hm)|hm
    ·exact .inl hm.1
    ·exact .inr hm.2
    ·exact .inl (FO hm.1)
  ·have hMx:=Oh hx;cases ho:Fx C P ops o s.tm
   ·have hlo:BA P ops o s.tm:=by
     cases hl:Ou P o.op
     ·right
      have hMo:M7 C P o.op=true:=by
       unfold H7 at hm;simp only[hl,Bool.and_false,Bool.false_or,Bool.or_eq_true,Bool.and_eq_true] at hm;rcases hm with hm|hm
       ·exact hm.1
       ·exact FO hm.2
      cases hv:F2 ops o s.tm with
      |none=>
       exfalso;obtain⟨s1,_,hk,_,h⟩:=Kj h;have hv1:F2 ops o s1.tm=none:=by rw[Iv (fun t ht=>hk.1 t fun hd=>ap.xo t hd ht)];exact hv
       rw[Ir (by unfold Fx;rw[hv1];cases M7 C P o.op<;>rfl)] at h
       unfold gE at h;rw[hv1] at h;cases h
      |some b=>
       cases b
       ·rfl
       ·unfold Fx at ho;rw[hMo,hv] at ho;cases ho
     ·exact .inl hl
    refine Ae0 hw ap.xo ap.ne ap.ox hlo (fun y hy i hi hR=>?_) hx h
    refine Sr hd (Tq hMx hR) (Xc ?_ hy hi);unfold H7 at hm;simp only[Bool.or_eq_true,Bool.and_eq_true] at hm;rcases hm with (hm|hm)|hm
    ·exact .inr hm.2
    ·exact .inl hm.1
    ·exact .inl (FO hm.2)
   ·have hMo:=Oh ho;unfold H7 at hm;simp only[Bool.or_eq_true,Bool.and_eq_true] at hm;rcases hm with (hm|hm)|hm
    ·rw[Im (C:=C) (P:=P) hm.2] at hMo;cases hMo
    ·rw[Im (C:=C) (P:=P) hm.2] at hMx;cases hMx
    ·exact Afz hw (fun y hy i hi=>hwx i (Xc (.inl hMx) hy hi)) ap.xo ap.ne ap.ox hm.1 hm.2 (fun i h1 h2=>Sr hd (Tq hMx h1) (Tq hMo h2)) hx ho h
theorem YX {α:Type}(a b:α)(l:List α)(f:α->Bool):(a::b::l).all f=(b::a::l).all f:=by
 simp only[List.all_cons];cases f a<;>cases f b<;>rfl
theorem Vm {bs:List (List Nat)}:∀(l:List Nat){dn dn':List (Nat × Oper × List Nat)} {s:St}{K:St->Option R},(∀f,dn.all f=dn'.all f)->Gy C P N call ops bs dn l s K=Gy C P N call ops bs dn' l s K
 |[],_,_,_,_,_=>rfl
 |i::l,dn,dn',s,K,h=>by
  unfold Gy;cases ops[i]? with
  |none=>rfl
  |some o=>
   simp only[Dh,h]
   congr 2
   funext s'
   exact Vm l fun f=>by simp only[List.all_cons,h]
theorem Zs {bs:List Nat}{i:Nat}(hi:ops[i]?=some o):(Vu C P ops bs).getD i []=R6 C P ops bs i o:=by
 unfold Vu;rw[List.getD_eq_getElem?_getD,List.getElem?_map,List.getElem?_zipIdx,Array.getElem?_toList,hi];simp
theorem M9 {bs:List Nat}{i j:Nat}:j∈R6 C P ops bs i o↔∃x,ops[j]?=some x∧H7 C P x o=true∧(Nat.blt j i&&(bs.getD i 0).testBit j)=false∧(Nat.blt i j&&(bs.getD j 0).testBit i)=false:=by
 unfold R6;simp only[List.mem_map,List.mem_filter,Bool.and_eq_true,Bool.not_eq_true',Prod.exists];constructor
 ·rintro⟨x,k,⟨hm,⟨h1,h2⟩,h3⟩,rfl⟩
  rw[List.mem_zipIdx_iff_getElem?] at hm;exact⟨x,by simpa using hm,h1,h2,h3⟩
 ·rintro⟨x,hx,h1,h2,h3⟩
  refine⟨x,j,⟨?_,⟨h1,h2⟩,h3⟩,rfl⟩;rw[List.mem_zipIdx_iff_getElem?]
  simpa using hx
theorem W0 {sm:List (List Nat)} {i j:Nat}(h:j∈sm.getD i []):Wb C P sm s i o=Jy C P s o:=by
 unfold Wb;split
 ·rename_i e;rw[e] at h;simp at h
 ·rfl
theorem XW {sm:List (List Nat)} {i:Nat}(h:sm.getD i []≠[]->Jy C P s1 o=Jy C P s o):Wb C P sm s1 i o=Wb C P sm s i o:=by
 unfold Wb;split
 ·rfl
 ·rename_i e;exact h (by rw[e];simp)
theorem RE {l:List Nat}{j:Nat}:l.any (Nat.beq j)=true↔j∈l:=by
 constructor
 ·intro h;obtain⟨k,hk,e⟩:=List.any_eq_true.1 h;rw[Nat.eq_of_beq_eq_true e];exact hk
 ·intro h;exact List.any_eq_true.2 ⟨j,h,Nat.beq_refl j⟩
theorem Sx {bs:List Nat}{sm:List (List Nat)} (XA:sm=Vu C P ops bs){i:Nat}(hi:ops[i]?=some o) {l':List Nat}:∀(l:List Nat){dn:List (Nat × Oper × List Nat)} {s:St}{K:St->Option R},MS C P o s ->
  (∀j∈l,j<i∧(bs.getD i 0).testBit j=false∧∀x,ops[j]?=some x->Jo C P ops x o)->Gy C P N call ops sm dn (l++i::l') s K=some r ->
  dn.all (BL C P sm s i o)=true∧De C P N call ops o s (fun s1=>Gy C P N call ops sm ((i,o,Wb C P sm s i o)::dn) (l++l') s1 K)=some r
 |[],dn,s,K,hw,_,h=>by
  simp only[List.nil_append] at h ⊢;unfold Gy at h;rw[hi] at h;simp only[Dh] at h;obtain⟨hb,h⟩:=Aj h;simp only[Bool.and_eq_true] at hb;exact⟨hb.1,h⟩
 |j::l,dn,s,K,hw,hl,h=>by
  simp only[List.cons_append] at h ⊢;unfold Gy at h;obtain⟨hji,AU,O6⟩:=hl j (by simp)
  cases hj:ops[j]? with
  |none=>rw[hj] at h;cases h
  |some x=>
   rw[hj] at h;simp only[Dh] at h;obtain⟨hb,h⟩:=Aj h;simp only[Bool.and_eq_true] at hb;have ap:=O6 x hj
   have hex:∀k∈Wb C P sm s j x,s.hp k≠none:=fun k hk=>by
    have:=List.all_eq_true.1 hb.2 k hk;intro e;rw[e] at this;cases this
   obtain⟨s1,e1,Du,Yy,h1⟩:=Kj h;obtain⟨ha,h2⟩:=Sx XA hi l (hw.keepsS ap Du Yy) (fun k hk=>hl k (by simp[hk])) h1
   have A0k:Jy C P s1 o=Jy C P s o:=JJ (ops:=ops) (fun t ht=>Du.1 t fun hd=>ap.xo t hd ht) fun hM hA y hy k hk=>ap.same Du Yy hM hA (hw.1 y hy k hk)
   have AC:Wb C P sm s1 i o=Wb C P sm s i o:=XW fun _=>A0k
   rw[List.all_cons,Bool.and_eq_true] at ha
   have Aq4:Nat.blt i j=false:=by
    cases hh:Nat.blt i j
    ·rfl
    ·have:=Nat.le_of_ble_eq_true hh;omega
   have hmi:H7 C P x o=true->j∈sm.getD i []:=fun hs=>by
    rw[XA,Zs hi];exact M9.2 ⟨x,hj,hs,by rw[AU,Bool.and_false],by rw[Aq4,Bool.false_and]⟩
   have hmj:H7 C P x o=true->i∈sm.getD j []:=fun hs=>by
    rw[XA,Zs hj];exact M9.2 ⟨o,hi,by rw[Ra];exact hs,by rw[Aq4,Bool.false_and],by rw[AU,Bool.and_false]⟩
   have Agx:H7 C P x o=true->UG (Wb C P sm s j x) (Wb C P sm s i o)=true:=by
    intro hs;have:=ha.1;unfold BL at this;rw[RE.2 (hmi hs),AC] at this
    simpa using this
   have hok:∀q,BL C P sm s1 i o q=BL C P sm s i o q:=fun q=>by unfold BL;rw[AC]
   have Lh:dn.all (BL C P sm s i o)=true:=by
    refine List.all_eq_true.2 fun q hq=>?_
    rw[←hok];exact List.all_eq_true.1 ha.2 q hq
   refine⟨Lh,?_⟩;rw[AC] at h2
   have h3:=Aqy hw (fun hs k hk=>hex k (by rw[W0 (hmj hs)];exact hk)) ap (fun hs=>by have:=Agx hs;rw[W0 (hmj hs),W0 (hmi hs)] at this;exact this)
    (P9 (K':=fun s1=>De C P N call ops o s1 (fun s2=>Gy C P N call ops sm ((i,o,Wb C P sm s i o)::(j,x,Wb C P sm s j x)::dn) (l++l') s2 K)) e1 h2)
   obtain⟨s2,e2,Eb,Of,h4⟩:=Kj h3;refine P9 e2 ?_
   have CL:Wb C P sm s2 j x=Wb C P sm s j x:=XW fun Ek=>by
    obtain⟨q,hq⟩:=List.exists_mem_of_ne_nil _ Ek;refine JJ (ops:=ops) (fun t ht=>Eb.1 t fun hd=>ap.ox t hd ht) fun hM hA y hy k hk=>ap.symm.same Eb Of hM hA (hex k ?_)
    rw[W0 hq];exact Xc (.inl hM) hy hk
   unfold Gy;rw[hj];simp only[Dh]
   have hc:(((i,o,Wb C P sm s i o)::dn).all (BL C P sm s2 j x)&&(Wb C P sm s2 j x).all fun k=>(s2.hp k).isSome)=true:=by
    simp only[List.all_cons,Bool.and_eq_true];refine⟨⟨?_,?_⟩,?_⟩
    ·unfold BL;simp only[CL];cases hs:(sm.getD j []).any (Nat.beq i)
     ·rfl
     ·have hm:=RE.1 hs;rw[XA,Zs hj] at hm;obtain⟨o',KD,QQ,_⟩:=M9.1 hm;rw[hi] at KD;cases KD;rw[Ra] at QQ;rw[UU (Agx QQ)];rfl
    ·refine List.all_eq_true.2 fun q hq=>?_
     have:=List.all_eq_true.1 hb.1 q hq;unfold BL at this ⊢;rw[CL];exact this
    ·rw[CL];refine List.all_eq_true.2 fun k hk=>?_
     have:=Eb.2.1 k (hex k hk);cases hh:s2.hp k with
     |none=>exact absurd hh this
     |some _=>rfl
   rw[hc,CL];show De C P N call ops x s2 _=some r
   have:(fun s'=>Gy C P N call ops sm ((j,x,Wb C P sm s j x)::(i,o,Wb C P sm s i o)::dn) (l++l') s' K)=fun s2=>Gy C P N call ops sm ((i,o,Wb C P sm s i o)::(j,x,Wb C P sm s j x)::dn) (l++l') s2 K:=by
    funext s'
    exact Vm _ fun f=>YX _ _ _ f
   rw[this];exact h4
end
section
variable {R:Type} {r:R} {P:Program} {N:Nat} {w0:World} {X0:Gv} {Y:Nat->Prop} {β β':Bt} {s:St} {a:Act} {w w':World} {o:Oper} {ops:Array Oper} {C:F3} {call:Ax} {K:St->Option R}
theorem Q0 {bs:List Nat}:∀(l:List Oper)(n:Nat),Tp C P ops bs l n=true->∀(k:Nat) o,l[k]?=some o->∀(j:Nat) x,ops[j]?=some x->j<n+k->Abb C P ops x o=true->(bs.getD (n+k) 0).testBit j=true
 |[],_,_,k,o,ho,_,_,_,_,_=>by simp at ho
 |o'::l,n,h,k,o,ho,j,x,hx,hj,Kg=>by
  simp only[Tp,Bool.and_eq_true] at h;cases k with
  |zero=>
   simp at ho;subst ho
   have:=List.all_eq_true.1 h.1 (x,j) (by
    rw[List.mem_zipIdx_iff_getElem?]
    simpa using hx)
   simp only[Kg,Bool.not_true,Bool.or_false,Bool.or_eq_true,Bool.not_eq_true'] at this;rcases this with h'|h'
   ·have:Nat.blt j n=true:=Nat.ble_eq_true_of_le (by omega)
    rw[this] at h';cases h'
   ·exact h'
  |succ k=>
   have:=Q0 l (n+1) h.2 k o (by simpa using ho) j x hx (by omega) Kg
   rwa [show n+(k+1)=n+1+k by omega]
theorem GE {G:Rs}(Iw:JT P G w0 X0)(Dk:∀f args res,call f args=some res->C6 G P f args res)(hok:Z4 C P ops=true){Q:Exit->Act->World->Prop}(hQ:∀s' a' w' β',K s'=some r->Cl N w0 X0 Y β' s' a' w'->Q .normal a' w'):
  ∀(fuel:Nat) {dn:List (Nat × Oper × List Nat)} {listed:Array Bool} {s:St} {a:Act} {w:World} {β:Bt},HeadInv .any ops ops.size listed->(Kc ops.size listed).length=fuel->Cl N w0 X0 Y β s a w->Gy C P N call ops (Vu C P ops (G6 ops.toList [])) dn (Kc ops.size listed) s K=some r->wpAny P .any ops Q fuel listed a w:=by
 unfold Z4 at hok;simp only[Bool.and_eq_true] at hok;obtain⟨ZD,Ajy⟩:=hok;intro fuel
 induction fuel with
 |zero=>
  intro dn listed s a w β inv hf h hk;have hp:=List.eq_nil_of_length_eq_zero hf;rw[hp] at hk;refine⟨?_,hQ s a w β hk h⟩;cases hr:Region.ready .any ops listed with
  |nil=>rfl
  |cons i l=>
   exfalso;have hi:i∈Region.ready .any ops listed:=by rw[hr];simp
   obtain⟨H5,o,ho,_⟩:=mem_ready.1 hi;have:i∈Kc ops.size listed:=Hs.2 ⟨(Array.getElem?_eq_some_iff.1 ho).1,H5⟩;rw[hp] at this;simp at this
 |succ fuel ih=>
  intro dn listed s a w β inv hf h hk;refine⟨fun hr=>?_,fun i hi=>?_⟩
  ·rw[BN ZD inv hr] at hf;cases hf
  ·obtain⟨H5,o,ho,Lh⟩:=mem_ready.1 hi;have B6:i<ops.size:=(Array.getElem?_eq_some_iff.1 ho).1;obtain⟨l1,l2,h1,h2,h3⟩:=Rx (Hs.2 ⟨B6,H5⟩) inv.size;rw[h1] at hk
   have hnb:∀j∈l1,((G6 ops.toList []).getD i 0).testBit j=false:=by
    intro j hj;cases AU:((G6 ops.toList []).getD i 0).testBit j with
    |false=>rfl
    |true=>
     exfalso;have hjl:=Nj (listed:=listed) (fun j oj hj hl=>inv.closed j oj hj hl) ops.toList [] [] (by simp) rfl (by simp) i o ho Lh j AU
     have:j∈Kc ops.size listed:=by rw[h1];simp[hj]
     have:=getD_both (Hs.1 this).2;rw[hjl] at this;cases this
   have O6:∀j∈l1,j<i∧((G6 ops.toList []).getD i 0).testBit j=false∧∀x,ops[j]?=some x->Jo C P ops x o:=by
    intro j hj;refine⟨h3 j hj,hnb j hj,fun x hxj=>TU ?_⟩
    cases Kg:Abb C P ops x o with
    |false=>rfl
    |true=>
     exfalso;have AU:=Q0 ops.toList 0 Ajy i o (by simpa using ho) j x hxj (by have:=h3 j hj;omega) Kg
     rw[Nat.zero_add,hnb j hj] at AU;cases AU
   obtain⟨s',hs',hn⟩:=Rw h Iw Dk ho (Sx rfl ho l1 (Aaz h o) O6 hk).2;refine hn _ _ fun a' w' β' h'=>ih (dn:=(i,o,Wb C P (Vu C P ops (G6 ops.toList [])) s i o)::dn) (inv.set hi B6) ?_ h' ?_
   ·rw[h2];rw[h1] at hf;simp at hf ⊢;omega
   ·rw[h2];exact hs'
theorem Wi (h:Cl N w0 X0 Y β s a w){G:Rs}(Iw:JT P G w0 X0)(Dk:∀f args res,call f args=some res->C6 G P f args res)(hm:P.follows .mixedOrders=true)(hok:Z4 C P ops=true){Q:Exit->Act->World->Prop}
  (hk:Gy C P N call ops (Vu C P ops (G6 ops.toList [])) [] (List.range ops.size) s K=some r) (hQ:∀s' a' w' β',K s'=some r->Cl N w0 X0 Y β' s' a' w'->Q .normal a' w'):wpAny P .any ops Q ops.size (Array.replicate ops.size false) a { w with drawn:=w.drawn+1 }:=by
 have hp:Kc ops.size (Array.replicate ops.size false)=List.range ops.size:=by
  unfold Kc;refine List.filter_eq_self.2 fun i hi=>?_
  have:=List.mem_range.1 hi;simp[this]
 refine GE (C:=C) (dn:=[]) Iw Dk hok hQ ops.size ⟨by simp,fun j oj _ hl=>(by rw[getD_replicate_false] at hl;cases hl),fun t ht ht'=>by omega⟩ (by rw[hp];simp) h.drew ?_
 rw[hp];exact hk
theorem KY (h:Cl N w0 X0 Y β s a w){G:Rs}(Iw:JT P G w0 X0)(Dk:∀f args res,call f args=some res->C6 G P f args res)(hm:P.follows .mixedOrders=true)(hok:Z4 C P ops=true){id:Nat}{Q:Exit->Act->World->Prop}
  (hk:Gy C P N call ops (Vu C P ops (G6 ops.toList [])) [] (List.range ops.size) s K=some r) (hQ:∀s' a' w' β',K s'=some r->Cl N w0 X0 Y β' s' a' w'->Q .normal a' w'):(Code.region id ops true).wp P Q a w:=
 wp_region_any hm (Wi h Iw Dk hm hok hk hQ)
end
open Go.RowKit
section
variable {R:Type} {r:R} {N:Nat} {w0:World} {X0:Gv} {Y:Nat->Prop} {β β':Bt} {s:St} {a:Act} {w w':World}
theorem Abl {i:Nat}(hi:i<a.tmps.size):a.put (some i) (a.tmps.getD i undef)=a:=by
 obtain⟨tmps,dfr⟩:=a;change i<tmps.size at hi
 have:tmps.setIfInBounds i (tmps.getD i undef)=tmps:=by
  apply Array.ext_getElem?;intro k;by_cases e:i=k
  ·subst e;simp[hi]
  ·rw[Array.getElem?_setIfInBounds_ne e]
 simp only[Act.put,this]
theorem SI {A:Nat->Prop}{es:Nat}{v:Value}(h:Ar w A (.lst true es 0 []) v):v=.slice none 0 0:=by
 cases h;rfl
theorem RQ {id:Nat}(Bi:s.hp id=none){v:PV}{val:Value}(hv:D1 w (Cy (Ao s.hp [(id,.ar false [])]) (Ci β id none) Y) (Ci β id none) v val) (hr:∀i∈Bq v,s.hp i≠none∨i=id):
  CM Y β s w v [(id,.ar false [])] val w (Ci β id none):=by
 refine⟨rfl,rfl,rfl,B4.refl _ _,fun j hj=>Ah _ _ (by rintro rfl;exact hj Bi),?_,?_,?_,?_,?_,hv,?_⟩
 ·intro j bx hm;simp at hm;rw[hm.2];trivial
 ·intro j bx hm;simp at hm;obtain⟨rfl,rfl⟩:=hm;exact .inl ⟨Ak _ _ _,rfl⟩
 ·intro j bx k q hm hq;simp at hm;obtain⟨rfl,rfl⟩:=hm;rw[Ak] at hq;cases hq
 ·intro j bx j' bx' k q q' hm H8 _ _;simp at hm H8;rw[hm.1,H8.1]
 ·intro j cells hm;simp at hm
 ·intro j hj;rcases hr j hj with h|rfl
  ·exact .inl h
  ·exact .inr ⟨.ar false [],by simp⟩
theorem AN (h:Cl N w0 X0 Y β s a w)(i:Nat):∃β',Cl N w0 X0 Y β' (Xg N s i) a w:=by
 unfold Xg;split
 ·rename_i es ht
  have B6:i<N:=by
   rcases Nat.lt_or_ge i N with h'|h'
   ·exact h'
   ·rw[h.tmo i h'] at ht;cases ht
  have hv:=h.tms i B6;rw[ht] at hv;have hv:=SI hv;have hd:Fi N (some i)=true:=by simp[Fi,Nat.blt];omega
  have go:∀j,s.hp j=none->∃β',Cl N w0 X0 Y β' ⟨Ci s.tm i (.view j es 0 0),Ci s.hp j (some (.ar false []))⟩ a w:=by
   intro j hn;have:=h.stepR (d:=some i) hd (by simp[Bo,hn]) (RQ (v:=.view j es 0 0) (val:=.slice none 0 0) hn (.inl ⟨Ak _ _ _,rfl,rfl,none,rfl⟩) (by simp[Bq,B8,Al]))
   rw[←hv,Abl (by rw[h.tsz];exact B6)] at this
   exact⟨_,this⟩
  cases hn:(s.hp i).isNone
  ·cases hn2:(s.hp (i+N*3000)).isNone
   ·exact⟨β,h⟩
   ·exact go _ (by simpa using hn2)
  ·exact go _ (by simpa using hn)
 ·exact⟨β,h⟩
theorem Cl.recell (h:Cl N w0 X0 Y β s a w){id:Nat}{c c':List PV}(h0:s.hp id=some (.st c)) (hl:c'.length=c.length)
  (hc:∀(j:Nat) p,c'[j]?=some p->∃q,c[j]?=some q∧(∀v,Bs w (Cy s.hp β Y) β q v->Bs w (Cy s.hp β Y) β p v)∧∀i∈Al p,s.hp i≠none):
  Cl N w0 X0 Y β ⟨s.tm,Ci s.hp id (some (.st c'))⟩ a w:=by
 have Fq:∀i,Cx (Ci s.hp id (some (.st c')) i)↔Cx (s.hp i):=by
  intro i;by_cases e:i=id
  ·subst e;rw[Ak,h0];exact Iff.rfl
  ·rw[Ah _ _ e]
 have hX:HA (Ci s.hp id (some (.st c'))) β=HA s.hp β:=by
  funext b
  apply propext;constructor
  ·rintro⟨i,o,hl,hb⟩;exact⟨i,o,(Fq i).1 hl,hb⟩
  ·rintro⟨i,o,hl,hb⟩;exact⟨i,o,(Fq i).2 hl,hb⟩
 have hA:Cy (Ci s.hp id (some (.st c'))) β Y=Cy s.hp β Y:=by
  funext b;unfold Cy;rw[hX]
 have Ek:∀i,s.hp i≠none->Ci s.hp id (some (.st c')) i≠none:=by
  intro i hi;by_cases e:i=id
  ·subst e;rw[Ak];simp
  ·rw[Ah _ _ e];exact hi
 have Aj2:∀i,Ci s.hp id (some (.st c')) i≠none->s.hp i≠none:=by
  intro i hi;by_cases e:i=id
  ·subst e;rw[h0];simp
  ·rw[Ah _ _ e] at hi;exact hi
 refine⟨h.dfr,h.tsz,h.tmo,?_,?_,?_,?_,?_,?_,?_,?_,fun i hi=>⟨Ek _ (h.pin i hi).1,(h.pin i hi).2⟩,?_,?_,h.Ylt,h.fr⟩
 ·intro i hi;show D1 w (Cy (Ci s.hp id _) β Y) β _ _;rw[hA];exact h.tms i hi
 ·intro i b hb;show Nv w (Cy (Ci s.hp id _) β Y) β i b;rw[hA];by_cases e:i=id
  ·subst e;change Ci s.hp i (some (.st c')) i=some b at hb;rw[Ak] at hb;cases hb;obtain⟨b,o,h1,h2,h3⟩:=h.box i _ h0;refine⟨b,o,h1,fun j p hj=>?_,fun j hj=>h3 j (by rw[←hl];exact hj)⟩
   obtain⟨q,hq,hqp,_⟩:=hc j p hj;obtain⟨v,hv,hr⟩:=h2 j q hq;exact⟨v,hv,hqp v hr⟩
  ·change Ci s.hp id (some (.st c')) i=some b at hb;rw[Ah _ _ e] at hb;exact h.box i b hb
 ·intro i i' b o o' hl Ib hb G1;exact h.inj i i' b o o' ((Fq i).1 hl) ((Fq i').1 Ib) hb G1
 ·intro i b o hn hb;exact h.blt i b o (Aj2 i hn) hb
 ·intro i hi j hj;exact Ek j (h.wfT i hi j hj)
 ·intro i cells hb p hp j hj;change Ci s.hp id (some (.st c')) i=_ at hb;by_cases e:i=id
  ·subst e;rw[Ak] at hb;cases hb;obtain⟨k,hk⟩:=List.mem_iff_getElem?.1 hp;obtain⟨_,_,_,hr⟩:=hc k p hk;exact Ek j (hr j hj)
  ·rw[Ah _ _ e] at hb;exact Ek j (h.wfB i cells hb p hp j hj)
 ·intro b hb;exact h.ownd b (by rw[←hX];exact hb)
 ·intro i bx b o hb hlb hβ B6 j hj;change Ci s.hp id (some (.st c')) i=some bx at hb;by_cases e:i=id
  ·subst e;rw[Ak] at hb;cases hb;exact h.rngB i _ b o h0 trivial hβ B6 j (by unfold BR at hj ⊢;simp only[hl] at hj;exact hj)
  ·rw[Ah _ _ e] at hb;exact h.rngB i bx b o hb hlb hβ B6 j hj
 ·intro i c1 b o hb hβ B6;change Ci s.hp id (some (.st c')) i=_ at hb;by_cases e:i=id
  ·subst e;exact h.stp i c b o h0 hβ B6
  ·rw[Ah _ _ e] at hb;exact h.stp i c1 b o hb hβ B6
 ·intro b hY hb;exact h.Yx b hY (by rw[←hX];exact hb)
theorem AL (h:Cl N w0 X0 Y β s a w)(id j:Nat):∃β',Cl N w0 X0 Y β' (FH N id s j) a w:=by
 unfold FH;split
 ·rename_i c h0;split
  ·rename_i es hj;cases hn:(s.hp (id+N*(j+1))).isNone
   ·exact⟨β,h⟩
   ·have hn:s.hp (id+N*(j+1))=none:=by simpa using hn
    have Ek:id≠id+N*(j+1):=by
     intro e;rw[←e,h0] at hn;cases hn
    have h1:=h.stepR (d:=none) (v:=.top) (val:=undef) rfl (by simp[Bo,hn]) (RQ hn (.top _) (by simp[Bq,B8,Al]))
    change Cl N w0 X0 Y (Ci β (id+N*(j+1)) none) ⟨s.tm,Ci s.hp (id+N*(j+1)) (some (.ar false []))⟩ a w at h1
    have h2:=h1.recell (id:=id) (c:=c) (c':=c.set j (.view (id+N*(j+1)) es 0 0)) (by show Ci _ _ _ _=_;rw[Ah _ _ Ek];exact h0) (by simp) (by
     intro k p hp;by_cases e:k=j
     ·subst e
      have B6:k<c.length:=by
       rcases Nat.lt_or_ge k c.length with h'|h'
       ·exact h'
       ·rw[List.getElem?_eq_none h'] at hj;cases hj
      rw[List.getElem?_set_self B6] at hp;cases hp;refine⟨_,hj,fun v hv=>.inl ⟨Ak _ _ _,rfl,rfl,none,SI hv⟩,fun i hi=>?_⟩
      simp[Al] at hi;subst hi;show Ci _ _ _ _≠none;rw[Ak];simp
     ·rw[List.getElem?_set_ne (fun h=>e h.symm)] at hp
      refine⟨p,hp,fun _ hv=>hv,fun i hi=>?_⟩
      have:=h.wfB id c h0 p (List.mem_of_getElem? hp) i hi;show Ci _ _ _ _≠none;by_cases e':i=id+N*(j+1)
      ·subst e';rw[Ak];simp
      ·rw[Ah _ _ e'];exact this)
    refine⟨Ci β (id+N*(j+1)) none,?_⟩;have e3:Ci (Ci s.hp (id+N*(j+1)) (some (.ar false []))) id (some (.st (c.set j (.view (id+N*(j+1)) es 0 0))))=Ci (Ci s.hp id (some (.st (c.set j (.view (id+N*(j+1)) es 0 0))))) (id+N*(j+1)) (some (.ar false [])):=IF _ _ _ (fun h=>Ek h.symm)
    change Cl N w0 X0 Y (Ci β (id+N*(j+1)) none) ⟨s.tm,Ci (Ci s.hp (id+N*(j+1)) (some (.ar false []))) id (some (.st (c.set j (.view (id+N*(j+1)) es 0 0))))⟩ a w at h2;rw[e3] at h2;exact h2
  ·exact⟨β,h⟩
 ·exact⟨β,h⟩
theorem Lw {f:St->Nat->St}(hf:∀s β,Cl N w0 X0 Y β s a w->∀i,∃β',Cl N w0 X0 Y β' (f s i) a w):∀(l:List Nat){s:St}{β:Bt},Cl N w0 X0 Y β s a w->∃β',Cl N w0 X0 Y β' (l.foldl f s) a w
 |[],_,β,h=>⟨β,h⟩
 |i::l,s,β,h=>by
  obtain⟨β1,h1⟩:=hf s β h i;exact Lw hf l h1
theorem HB (h:Cl N w0 X0 Y β s a w)(i:Nat):∃β',Cl N w0 X0 Y β' (ER N s i) a w:=by
 unfold ER;split
 ·split
  ·exact Lw (fun s β h i=>AL h _ i) _ h
  ·exact⟨β,h⟩
 ·exact⟨β,h⟩
theorem BP:∀{m:List (Nat × Nat)},Dt (m.map (·.2))=true->∀{i i' j:Nat},(i,j)∈m->(i',j)∈m->i=i'
 |[],_,_,_,_,h,_=>by simp at h
 |(x,y)::m,hn,i,i',j,h,h'=>by
  simp only[List.map_cons,Dt,Bool.and_eq_true,Bool.not_eq_true'] at hn
  have hy:∀k,(k,y) ∉ m:=by
   intro k hk;exact Ng hn.1 (List.mem_map.2 ⟨(k,y),hk,rfl⟩)
  rcases List.mem_cons.1 h with e|h
  ·cases e;rcases List.mem_cons.1 h' with e|h'
   ·cases e;rfl
   ·exact absurd h' (hy _)
  ·rcases List.mem_cons.1 h' with e|h'
   ·cases e;exact absurd h (hy _)
   ·exact BP hn.2 h h'
theorem Va:∀{m:List (Nat × Nat)},Dt (m.map (·.1))=true->∀{i j j':Nat},(i,j)∈m->(i,j')∈m->j=j'
 |[],_,_,_,_,h,_=>by simp at h
 |(x,y)::m,hn,i,j,j',h,h'=>by
  simp only[List.map_cons,Dt,Bool.and_eq_true,Bool.not_eq_true'] at hn
  have hx:∀k,(x,k) ∉ m:=by
   intro k hk;exact Ng hn.1 (List.mem_map.2 ⟨(x,k),hk,rfl⟩)
  rcases List.mem_cons.1 h with e|h
  ·cases e;rcases List.mem_cons.1 h' with e|h'
   ·cases e;rfl
   ·exact absurd h' (hx _)
  ·rcases List.mem_cons.1 h' with e|h'
   ·cases e;exact absurd h (hx _)
   ·exact Va hn.2 h h'
theorem J5 {i j:Nat}(h:Nat.beq i j=false):i≠j:=by rintro rfl;rw[Nat.beq_refl] at h;cases h
theorem S3:∀{m:List (Nat × Nat)} {i j:Nat},Qh m i=some j->(i,j)∈m
 |[],_,_,h=>by cases h
 |(x,y)::m,i,j,h=>by
  unfold Qh at h;cases hb:Nat.beq i x<;>rw[hb] at h
  ·exact List.mem_cons_of_mem _ (S3 h)
  ·have:=Nat.eq_of_beq_eq_true hb;cases h;rw[this];simp
theorem T8 {m:List (Nat × Nat)} {hp:Nat->Option Bm}:∀{l:List (Nat × Nat)} {j:Nat}{b:Bm},Jz (Js m hp l) j=some b->∃i b0,(i,j)∈l∧hp i=some b0∧b=Aef m b0
 |[],_,_,h=>by cases h
 |(x,y)::l,j,b,h=>by
  unfold Js at h;cases hx:hp x with
  |none=>
   rw[hx] at h;obtain⟨i,b0,h1,h2⟩:=T8 h;exact⟨i,b0,List.mem_cons_of_mem _ h1,h2⟩
  |some bx=>
   rw[hx] at h;simp only[Jz] at h;cases hb:Nat.beq j y<;>rw[hb] at h
   ·obtain⟨i,b0,h1,h2⟩:=T8 h;exact⟨i,b0,List.mem_cons_of_mem _ h1,h2⟩
   ·have:=Nat.eq_of_beq_eq_true hb;subst this;cases h;exact⟨x,bx,by simp,hx,rfl⟩
theorem Kv {m:List (Nat × Nat)} {hp:Nat->Option Bm}:∀{l:List (Nat × Nat)} {i j:Nat},(i,j)∈l->hp i≠none->Jz (Js m hp l) j≠none
 |[],_,_,h,_=>by simp at h
 |(x,y)::l,i,j,h,hi=>by
  unfold Js;cases hx:hp x with
  |none=>
   rcases List.mem_cons.1 h with e|h
   ·cases e;exact absurd hx hi
   ·exact Kv h hi
  |some bx=>
   simp only[Jz];cases hb:Nat.beq j y
   ·rcases List.mem_cons.1 h with e|h
    ·cases e;exact absurd rfl (J5 hb)
    ·exact Kv h hi
   ·simp
def AJ (m:List (Nat × Nat)) (j:Nat):Option Nat:=
 match m with
 |[]=>none
 |(x,y)::r=>bif Nat.beq j y then some x else AJ r j
theorem QO:∀{m:List (Nat × Nat)} {i j:Nat},AJ m j=some i->(i,j)∈m
 |[],_,_,h=>by cases h
 |(x,y)::m,i,j,h=>by
  unfold AJ at h;cases hb:Nat.beq j y<;>rw[hb] at h
  ·exact List.mem_cons_of_mem _ (QO h)
  ·have:=Nat.eq_of_beq_eq_true hb;cases h;rw[this];simp
theorem KG:∀{m:List (Nat × Nat)} {i j:Nat},(i,j)∈m->∃k,AJ m j=some k
 |[],_,_,h=>by simp at h
 |(x,y)::m,i,j,h=>by
  unfold AJ;cases hb:Nat.beq j y
  ·rcases List.mem_cons.1 h with e|h
   ·cases e;exact absurd rfl (J5 hb)
   ·exact KG h
  ·exact⟨x,rfl⟩
theorem GB {f:Nat->PV}:∀{l:List Nat}{i:Nat},lk (l.map fun i=>(i,f i)) i=if i∈l then f i else .top
 |[],_=>rfl
 |x::l,i=>by
  simp only[List.map_cons,lk];cases hb:Nat.beq i x
  ·have:=J5 hb;simp only[cond_false,GB,List.mem_cons,this,false_or]
  ·have:=Nat.eq_of_beq_eq_true hb;subst this;simp
theorem CJ {m:Nat}:∀{n i:Nat},i∈Ji m n->i<n
 |0,_,h=>by simp[Ji] at h
 |n+1,i,h=>by
  simp only[Ji,List.mem_append] at h;rcases h with h|h
  ·have:=CJ h;omega
  ·cases hb:m.testBit n<;>rw[hb] at h
   ·simp at h
   ·simp at h;omega
theorem EO (h:Cl N w0 X0 Y β s a w){m:List (Nat × Nat)} (h1:Dt (m.map (·.1))=true) (h2:Dt (m.map (·.2))=true) {ls:List Nat}(hls:∀i∈ls,i<N)(hpn:∀i,X0.pn i->(C9 N i,C9 N i)∈m):
  ∃β',Cl N w0 X0 Y β' ⟨lk (ls.map fun i=>(i,VN m (s.tm i))),Jz (Js m s.hp m)⟩ a w:=by
 refine⟨fun j=>(AJ m j).bind β,?_⟩
 have hβ:∀{i j:Nat},(i,j)∈m->(AJ m j).bind β=β i:=by
  intro i j hm;obtain⟨k,hk⟩:=KG hm;rw[hk];have:=BP h2 (QO hk) hm;subst this;rfl
 have hold:∀{j:Nat} {b:Bm},Jz (Js m s.hp m) j=some b->∃i b0,(i,j)∈m∧s.hp i=some b0∧b=Aef m b0∧(AJ m j).bind β=β i:=by
  intro j b hb;obtain⟨i,b0,hm,h3,h4⟩:=T8 hb;exact⟨i,b0,hm,h3,h4,hβ hm⟩
 have Fq:∀{j:Nat},Cx (Jz (Js m s.hp m) j)->∃i,(i,j)∈m∧Cx (s.hp i)∧(AJ m j).bind β=β i:=by
  intro j hl;cases hb:Jz (Js m s.hp m) j with
  |none=>rw[hb] at hl;exact hl.elim
  |some b=>
   obtain⟨i,b0,hm,h3,rfl,h5⟩:=hold hb;refine⟨i,hm,?_,h5⟩;rw[hb] at hl;rw[h3];cases b0<;>exact hl
 have hX:∀b,HA (Jz (Js m s.hp m)) (fun j=>(AJ m j).bind β) b->HA s.hp β b:=by
  rintro b ⟨j,o,hl,hb⟩
  obtain⟨i,_,Ib,e⟩:=Fq hl;exact⟨i,o,Ib,by rw[←e];exact hb⟩
 have hA:∀b,Cy (Jz (Js m s.hp m)) (fun j=>(AJ m j).bind β) Y b->Cy s.hp β Y b:=fun b hb=>hb.imp (hX b) id
 have hC:∀p v,Bs w (Cy s.hp β Y) β p v->Bs w (Cy (Jz (Js m s.hp m)) (fun j=>(AJ m j).bind β) Y) (fun j=>(AJ m j).bind β) (NF m p) v:=by
  intro p v hp;cases p with
  |view id es off n=>
   show Bs _ _ _ (match Qh m id with|some j=>.view j es off n|none=>.top) v
   cases hj:Qh m id with
   |some j=>
    have e:=hβ (S3 hj);rcases hp with⟨e1,e2⟩|⟨b,o,x,cap,e1,e2⟩
    ·exact .inl ⟨by show (AJ m j).bind β=none;rw[e];exact e1,e2⟩
    ·exact .inr ⟨b,o,x,cap,by show (AJ m j).bind β=_;rw[e];exact e1,e2⟩
   |none=>exact Ar.top _
  |ptr id off=>
   show Bs _ _ _ (match Qh m id with|some j=>.ptr j off|none=>.top) v
   cases hj:Qh m id with
   |some j=>
    have e:=hβ (S3 hj);obtain⟨b,o,e1,e2⟩:=hp;exact⟨b,o,by show (AJ m j).bind β=_;rw[e];exact e1,e2⟩
   |none=>exact Ar.top _
  |sc v=>exact Ar.step (B4.refl _ _) (fun b _=>hA b) hp
  |lst z es n c=>exact Ar.step (B4.refl _ _) (fun b _=>hA b) hp
  |iptr c off=>exact Bs.step (p:=.iptr c off) (B4.refl _ _) (fun b _=>hA b) (by simp[Al]) hp
  |_=>exact Ar.top _
 have hV:∀p v,D1 w (Cy s.hp β Y) β p v->D1 w (Cy (Jz (Js m s.hp m)) (fun j=>(AJ m j).bind β) Y) (fun j=>(AJ m j).bind β) (VN m p) v:=by
  intro p v hp;cases p with
  |agg c=>
   obtain⟨vs,e1,e2⟩:=hp;refine⟨vs,e1,Bd.of_at (by simp;exact e2.len) fun i q u hq hu=>?_⟩
   rw[List.getElem?_map] at hq;cases hc:c[i]? with
   |none=>rw[hc] at hq;cases hq
   |some q0=>
    rw[hc] at hq;cases hq;exact hC _ _ (e2.at_ hc hu)
  |view id es off n=>
   have:=hC (.view id es off n) v hp;change Bs _ _ _ (match Qh m id with|some j=>.view j es off n|none=>.top) v at this
   show D1 _ _ _ (match Qh m id with|some j=>.view j es off n|none=>.top) v
   cases hj:Qh m id<;>rw[hj] at this<;>exact this
  |ptr id off=>
   have:=hC (.ptr id off) v hp;change Bs _ _ _ (match Qh m id with|some j=>.ptr j off|none=>.top) v at this
   show D1 _ _ _ (match Qh m id with|some j=>.ptr j off|none=>.top) v
   cases hj:Qh m id<;>rw[hj] at this<;>exact this
  |sc v'=>exact hC (.sc v') v hp
  |lst z es n c=>exact hC (.lst z es n c) v hp
  |iptr c off=>exact hC (.iptr c off) v hp
  |_=>exact Ar.top _
 have hrC:∀p i,i∈Al (NF m p)->∃k∈Al p,(k,i)∈m:=by
  intro p i hi;cases p with
  |view id es off n=>
   change i∈Al (match Qh m id with|some j=>.view j es off n|none=>.top) at hi
   cases hj:Qh m id<;>rw[hj] at hi
   ·simp[Al] at hi
   ·simp[Al] at hi;subst hi;exact⟨id,by simp[Al],S3 hj⟩
  |ptr id off=>
   change i∈Al (match Qh m id with|some j=>.ptr j off|none=>.top) at hi
   cases hj:Qh m id<;>rw[hj] at hi
   ·simp[Al] at hi
   ·simp[Al] at hi;subst hi;exact⟨id,by simp[Al],S3 hj⟩
  |_=>simp[NF,Al] at hi
 have hrV:∀p i,i∈Bq (VN m p)->∃k∈Bq p,(k,i)∈m:=by
  intro p i hi;cases p with
  |agg c=>
   simp only[VN,Bq,B8,List.mem_flatMap,List.mem_map] at hi;obtain⟨_,⟨q,hq,rfl⟩,hi⟩:=hi;obtain⟨k,hk,hm⟩:=hrC q i hi;exact⟨k,by simp only[Bq,B8,List.mem_flatMap];exact⟨q,hq,hk⟩,hm⟩
  |view id es off n=>
   refine (hrC (.view id es off n) i ?_).imp fun k hk=>hk
   change i∈Bq (match Qh m id with|some j=>.view j es off n|none=>.top) at hi
   show i∈Al (match Qh m id with|some j=>.view j es off n|none=>.top)
   cases hj:Qh m id<;>rw[hj] at hi<;>exact hi
  |ptr id off=>
   refine (hrC (.ptr id off) i ?_).imp fun k hk=>hk
   change i∈Bq (match Qh m id with|some j=>.ptr j off|none=>.top) at hi
   show i∈Al (match Qh m id with|some j=>.ptr j off|none=>.top)
   cases hj:Qh m id<;>rw[hj] at hi<;>exact hi
  |_=>simp[VN,NF,Bq,B8,Al] at hi
 refine⟨h.dfr,h.tsz,?_,?_,?_,?_,?_,?_,?_,?_,?_,?_,?_,?_,h.Ylt,h.fr⟩
 ·intro i hi;show lk _ i=_;rw[GB,if_neg (fun hm=>by have:=hls i hm;omega)]
 ·intro i hi;show D1 w _ _ (lk _ i) _;rw[GB];split
  ·exact hV _ _ (h.tms i hi)
  ·exact Ar.top _
 ·intro j b hb;obtain⟨i,b0,hm,h3,rfl,e⟩:=hold hb;have Jh:=h.box i b0 h3;cases b0 with
  |st c=>
   obtain⟨b,o,e1,e2,e3⟩:=Jh;refine⟨b,o,by show (AJ m j).bind β=_;rw[e];exact e1,fun k p hp=>?_,fun k hk=>e3 k (by simpa using hk)⟩
   rw[List.getElem?_map] at hp;cases hc:c[k]? with
   |none=>rw[hc] at hp;cases hp
   |some q=>
    rw[hc] at hp;cases hp;obtain⟨v,hv,hr⟩:=e2 k q hc;exact⟨v,hv,hC _ _ hr⟩
  |ar fz c=>
   have:=Nv.step' hA Jh;show Nv _ _ _ _ (.ar fz c);rcases this with⟨e1,e2⟩|⟨b,o,e1,e2⟩
   ·exact .inl ⟨by show (AJ m j).bind β=_;rw[e];exact e1,e2⟩
   ·exact .inr ⟨b,o,by show (AJ m j).bind β=_;rw[e];exact e1,e2⟩
  |mv=>exact trivial
 ·intro j j' b o o' hl Ib hb G1;obtain⟨i,hm,Yy,e⟩:=Fq hl;obtain⟨i',H8,Azn,e'⟩:=Fq Ib;have:=h.inj i i' b o o' Yy Azn (by rw[←e];exact hb) (by rw[←e'];exact G1)
  subst this;exact Va h1 hm H8
 ·intro j b o hn hb;cases hj:Jz (Js m s.hp m) j with
  |none=>exact absurd hj hn
  |some bx=>
   obtain⟨i,b0,_,h3,_,e⟩:=hold hj;exact h.blt i b o (by rw[h3];simp) (by rw[←e];exact hb)
 ·intro i hi j hj;change j∈Bq (lk _ i) at hj;rw[GB] at hj;split at hj
  ·obtain⟨k,hk,hm⟩:=hrV _ j hj;exact Kv hm (h.wfT i hi k hk)
  ·simp[Bq,B8,Al] at hj
 ·intro j cells hb p hp k hk;obtain⟨i,b0,_,h3,h4,_⟩:=hold hb;cases b0 with
  |st c=>
   cases h4;obtain⟨q,hq,rfl⟩:=List.mem_map.1 hp;obtain⟨k',Jf,hm⟩:=hrC q k hk;exact Kv hm (h.wfB i c h3 q hq k' Jf)
  |ar fz c=>cases h4
  |mv=>cases h4
 ·intro b hb;exact h.ownd b (hX b hb)
 ·intro j bx b o hb hlb hβ1 B6 k hk;obtain⟨i,b0,_,h3,h4,e⟩:=hold hb;subst h4;refine h.rngB i b0 b o h3 ?_ (by rw[←e];exact hβ1) B6 k ?_
  ·cases b0<;>exact hlb
  ·cases b0 with
   |st c=>simpa [BR,Aef] using hk
   |ar fz c=>exact hk
   |mv=>exact hk
 ·intro i hi;exact⟨Kv (hpn i hi) (h.pin i hi).1,(hβ (hpn i hi)).trans (h.pin i hi).2⟩
 ·intro j c b o hb hβ1 B6;obtain⟨i,b0,hm,h3,h4,e⟩:=hold hb;cases b0 with
  |st c0=>
   obtain⟨k,rfl,hk⟩:=h.stp i c0 b o h3 (by rw[←e];exact hβ1) B6
   exact⟨k,Va h1 hm (hpn k hk),hk⟩
  |ar fz c0=>cases h4
  |mv=>cases h4
 ·intro b hY hb;exact h.Yx b hY (hX b hb)
theorem Pp {m:List (Nat × Nat)} {q:Nat × Nat}{o n:Nat}(h:q∈m):q∈CE m o n:=by
 unfold CE;split
 ·exact h
 ·exact List.mem_append.2 (.inl h)
theorem Ix {q:Nat × Nat}{new:Nat}:∀{c:List PV}{j:Nat}{m:List (Nat × Nat)},q∈m->q∈Ns N new c j m
 |[],_,_,h=>h
 |p::c,j,m,h=>by
  unfold Ns;split
  ·rename_i e;cases e
  ·rename_i e;cases e;exact Ix (Pp h)
  ·rename_i e;cases e;exact Ix h
theorem LZ {q:Nat × Nat}{m:List (Nat × Nat)} {i:Nat}(h:q∈m):q∈Xb N s m i:=by
 unfold Xb;split
 ·exact Pp h
 ·split
  ·exact h
  ·split
   ·exact Ix (Pp h)
   ·exact Pp h
 ·exact Ix h
 ·exact h
theorem R8 {q:Nat × Nat}:∀{l:List Nat}{m:List (Nat × Nat)},q∈m->q∈l.foldl (Xb N s) m
 |[],_,h=>h
 |_::l,_,h=>R8 (l:=l) (LZ h)
theorem Nn {q:Nat × Nat}{m:List (Nat × Nat)} (h:q∈m):∀k,q∈Oi N s.hp k m
 |0=>h
 |k+1=>by
  unfold Oi;split
  ·exact Ix (Nn h k)
  ·exact Nn h k
theorem BV:∀{k i:Nat},i<k->s.hp (C9 N i)≠none->(C9 N i,C9 N i)∈ML N s.hp k
 |0,_,h,_=>by omega
 |k+1,i,h,hn=>by
  unfold ML;by_cases e:i=k
  ·subst e
   have:(s.hp (C9 N i)).isSome=true:=by
    cases hq:s.hp (C9 N i) with
    |none=>exact absurd hq hn
    |some b=>rfl
   rw[this];simp
  ·have:=BV (k:=k) (i:=i) (by omega) hn
   cases (s.hp (C9 N k)).isSome
   ·exact this
   ·exact List.mem_append.2 (.inl this)
theorem Vl (h:Cl N w0 X0 Y β s a w){L:Nat}{q:Bool}{K:St->Option R}(hk:QR N (Ji L N) q s K=some r):∃β' s',K s'=some r∧Cl N w0 X0 Y β' s' a w:=by
 unfold QR at hk;obtain⟨hb,Du⟩:=Aj hk;simp only[Bool.and_eq_true] at hb
 obtain⟨β2,h2⟩:∃β2,Cl N w0 X0 Y β2 (bif q then s else (Ji L N).foldl (ER N) ((Ji L N).foldl (Xg N) s)) a w:=by
  cases q
  ·obtain⟨β1,h1⟩:=Lw (fun s β h i=>AN h i) (Ji L N) h
   obtain⟨β2,h2⟩:=Lw (fun s β h i=>HB h i) (Ji L N) h1
   exact⟨β2,h2⟩
  ·exact⟨β,h⟩
 obtain⟨β3,h3⟩:=EO h2 hb.1 hb.2 (ls:=Ji L N) (fun i hi=>CJ hi) (fun i hi=>R8 (Nn (BV (X0.p8 i hi) (h2.pin i hi).1) 8))
 exact⟨β3,_,Du,h3⟩
theorem Ow (h:Cl N w0 X0 Y β s a w){L:Nat}{K:St->Option R}(hk:S0 N L s K=some r):∃β' s',K s'=some r∧Cl N w0 X0 Y β' s' a w:=Vl h hk
theorem IJ (h:Cl N w0 X0 Y β s a w){L:Nat}{K:St->Option R}(hk:SN N L s K=some r):∃β' s',K s'=some r∧Cl N w0 X0 Y β' s' a w:=Vl h hk
end
open Go.RowKit
section
variable {R:Type} {r:R} {P:Program} {N:Nat} {w0:World} {X0:Gv} {Y:Nat->Prop} {C:F3} {call:Ax}
theorem ED {n:Nat}{F:St->Option R}{s:St}(h:Yd n F s=some r):F s=some r:=by
 unfold Yd at h;split at h
 ·cases h
 ·exact h
theorem IV {β:Bt}{s:St}{a:Act}{w:World}(h:Cl N w0 X0 Y β s a w){c:Operand}{kt kf:St->Option R}(hk:Abc s c kt kf=some r):(a.eval c=.bool true∧kt s=some r)∨(a.eval c=.bool false∧kf s=some r):=by
 unfold Abc at hk;split at hk
 ·rename_i d;split at hk
  ·rename_i b ht;have hv:a.eval (.tmp d)=.bool b:=B2 h (x:=.tmp d) ht;cases b
   ·change kf ⟨Ci s.tm d (.sc (.bool false)),s.hp⟩=some r at hk;rw[Td s.tm ht] at hk;exact .inr ⟨hv,hk⟩
   ·change kt ⟨Ci s.tm d (.sc (.bool true)),s.hp⟩=some r at hk;rw[Td s.tm ht] at hk;exact .inl ⟨hv,hk⟩
  ·rename_i ht;have hu:=Cp h (.tmp d);change D1 _ _ _ (s.tm d) _ at hu;rw[ht] at hu;have Hp:Ar w _ .ub (a.eval (.tmp d)):=hu
   obtain⟨b,hv⟩:∃b,a.eval (.tmp d)=.bool b:=by
    generalize a.eval (.tmp d)=x at Hp;cases Hp with
    |ub b=>exact⟨b,rfl⟩
   obtain⟨h1,h2⟩:=DQ hk;cases b
   ·exact .inr ⟨hv,h2⟩
   ·exact .inl ⟨hv,h1⟩
  ·cases hk
 ·exact .inl ⟨rfl,hk⟩
 ·exact .inr ⟨rfl,hk⟩
 ·cases hk
theorem Xl {c:Code}{Q:Exit->Act->World->Prop}{F:(St->Option R)->St->Option R} {nm:St->(St->Option R)->Option R}
  (AX:∀{β s a w} {K:St->Option R},Cl N w0 X0 Y β s a w->nm s K=some r->∃β' s',K s'=some r∧Cl N w0 X0 Y β' s' a w)
  (hF:∀{β s a w} {K:St->Option R}{Q':Act->World->Prop},Cl N w0 X0 Y β s a w->F K s=some r->(∀s' a' w' β',K s'=some r->Cl N w0 X0 Y β' s' a' w'->Q' a' w')->c.wp P (Exit.then Q' Q) a w):
  ∀(n:Nat) {β s a w},Cl N w0 X0 Y β s a w->ZB F nm n s=some r->Code.rounds P c Q n a w
 |0,_,_,_,_,_,hk=>by cases hk
 |n+1,β,s,a,w,h,hk=>by
  rw[rounds_succ];refine hF h hk fun s' a' w' β' Jf h'=>?_
  obtain⟨β1,s1,Du,h1⟩:=AX h' Jf;exact Xl AX hF n h1 Du
theorem QC {G:Rs}(Iw:JT P G w0 X0)(Dk:∀f args res,call f args=some res->C6 G P f args res)(hm:P.follows .mixedOrders=true){fu:Nat}:
  ∀(c:Code) {ln:Nat} {lx:Nat->Nat} {lr:Nat} {kn:St->Option R} {kx:Nat->St->Option R} {kr:St->Option R} {β:Bt} {s:St} {a:Act} {w:World} {Q:Exit->Act->World->Prop},Cl N w0 X0 Y β s a w ->
   Lz C P fu N call c ln lx lr kn kx kr s=some r->(∀s' a' w' β',kn s'=some r->Cl N w0 X0 Y β' s' a' w'->Q .normal a' w') ->
   (∀id s' a' w' β',kx id s'=some r->Cl N w0 X0 Y β' s' a' w'->Q (.exit id) a' w')->(∀s' a' w' β',kr s'=some r->Cl N w0 X0 Y β' s' a' w'->Q .ret a' w')->c.wp P Q a w:=by
 intro c
 induction c with
 |skip=>intro ln lx lr kn kx kr β s a w Q h hk hn hx hr;exact wp_skip (hn s a w β hk h)
 |region id ops draw=>
  intro ln lx lr kn kx kr β s a w Q h hk hn hx hr;unfold Lz at hk;cases draw
  ·simp only[LQ,Bool.false_and,cond_false] at hk;exact GX h Iw Dk hk hn
  ·simp only[LQ,Ahi,Bool.true_and,cond_true] at hk;cases hb:CS C P ops<;>rw[hb] at hk
   ·obtain⟨G1,Du⟩:=Aj (show Bj _ _=some r from hk)
    exact KY h Iw Dk hm G1 Du hn
   ·exact GH h Iw Dk hm hb hk hn
 |seq c1 c2 ih1 ih2=>
  intro ln lx lr kn kx kr β s a w Q h hk hn hx hr;unfold Lz at hk
  refine wp_seq (ih1 h hk (fun s' a' w' β' Jf h'=>by
    cases hc:YR P c1 c2
    ·rw[hc] at Jf;exact ih2 h' Jf hn hx hr
    ·rw[hc] at Jf;cases hq:Xe c1 c2
     ·rw[hq] at Jf;obtain⟨β1,s1,Du,h1⟩:=Ow h' (show S0 _ _ _ _=some r from Jf)
      exact ih2 h1 (ED Du) hn hx hr
     ·rw[hq] at Jf;obtain⟨β1,s1,Du,h1⟩:=IJ h' (show SN _ _ _ _=some r from Jf)
      exact ih2 h1 (ED Du) hn hx hr) (fun id s' a' w' β' Jf h'=>hx id s' a' w' β' Jf h') (fun s' a' w' β' Jf h'=>hr s' a' w' β' Jf h'))
 |cond c c1 c2 ih1 ih2=>
  intro ln lx lr kn kx kr β s a w Q h hk hn hx hr;unfold Lz at hk;rcases IV h hk with⟨hc,Du⟩|⟨hc,Du⟩
  ·exact wp_cond_true hc (ih1 h Du hn hx hr)
  ·exact wp_cond_false hc (ih2 h Du hn hx hr)
 |block id c ih=>
  intro ln lx lr kn kx kr β s a w Q h hk hn hx hr;unfold Lz at hk;refine wp_block (ih h hk (fun s' a' w' β' Jf h'=>hn s' a' w' β' Jf h') (fun j s' a' w' β' Jf h'=>?_) (fun s' a' w' β' Jf h'=>hr s' a' w' β' Jf h'))
  show (if j=id then _ else _)
  by_cases e:j=id
  ·subst e;rw[if_pos rfl];rw[Nat.beq_refl] at Jf;exact hn s' a' w' β' Jf h'
  ·rw[if_neg e]
   have:Nat.beq j id=false:=by
    cases hb:Nat.beq j id
    ·rfl
    ·exact absurd (Nat.eq_of_beq_eq_true hb) e
   rw[this] at Jf;exact hx j s' a' w' β' Jf h'
 |loop c ih=>
  intro ln lx lr kn kx kr β s a w Q h hk hn hx hr;unfold Lz at hk;obtain⟨β1,s1,Du,h1⟩:=Ow h hk;refine wp_loop_rounds fu (Xl (fun h hk=>Ow h hk) (fun h hk hQ=>?_) fu h1 Du)
  exact ih h hk hQ (fun id s' a' w' β' Jf h'=>hx id s' a' w' β' Jf h') (fun s' a' w' β' Jf h'=>hr s' a' w' β' Jf h')
 |«exit» id=>intro ln lx lr kn kx kr β s a w Q h hk hn hx hr;exact wp_exit (hx id s a w β hk h)
 |ret=>intro ln lx lr kn kx kr β s a w Q h hk hn hx hr;exact wp_ret (hr s a w β hk h)
 |_=>intro ln lx lr kn kx kr β s a w Q h hk hn hx hr;cases hk
end
open Go.RowKit
theorem J3:∀{l:List (Nat × Bm)} {i:Nat}{b:Bm},Jz l i=some b->(i,b)∈l
 |[],_,_,h=>by cases h
 |(j,c)::l,i,b,h=>by
  unfold Jz at h;cases hb:Nat.beq i j<;>rw[hb] at h
  ·exact List.mem_cons_of_mem _ (J3 h)
  ·have:=Nat.eq_of_beq_eq_true hb;cases h;rw[this];simp
theorem FP:∀{l:List (Nat × Bm)},(l.map (·.1)).Nodup->∀{i b},(i,b)∈l->Jz l i=some b
 |[],_,_,_,h=>by cases h
 |(j,c)::l,hn,i,b,h=>by
  simp only[List.map_cons,List.nodup_cons] at hn;unfold Jz;rcases List.mem_cons.1 h with e|h
  ·cases e;simp only[Nat.beq_refl,cond_true]
  ·have:Nat.beq i j=false:=by
    cases hb:Nat.beq i j
    ·rfl
    ·exact absurd (Nat.eq_of_beq_eq_true hb ▸ List.mem_map.2 ⟨_,h,rfl⟩) hn.1
   simp only[this,cond_false];exact FP hn.2 h
section
variable {R:Type} {r:R} {P:Program} {N:Nat} {w0:World} {X0:Gv} {Y:Nat->Prop} {β β':Bt} {s:St} {a:Act} {w w':World} {A:Nat->Prop}
theorem Abf {id:Nat}{t:CT}{p:PV}{K:PV->List (Nat × Bm)->Option R} (hk:Abx id t p K=some r):
  (∃c,K c []=some r∧Qs c∧∀w A q u,Fh w A q p u->Ar w A c u)∨∃es n cc,p=.own es n cc∧K (.view id es 0 n) [(id,.ar false cc)]=some r:=by
 have tree:∀t',(Uu t' p fun c=>K c [])=some r->∃c,K c []=some r∧Qs c∧∀w A q u,Fh w A q p u->Ar w A c u:=by
  intro t' hk;obtain⟨c,hk,hT,Xj,hv⟩:=J4 hk;refine⟨c,hk,hT,fun w A q u h=>(hv w A (fun _=>none) u ?_).1⟩
  cases p<;>first|exact h|exact Xj.elim
 unfold Abx at hk;cases t with
 |sl es=>
  dsimp only at hk;split at hk
  ·rename_i es' n c;cases hb:Nat.beq es' es<;>rw[hb] at hk
   ·cases hk
   ·have:=Nat.eq_of_beq_eq_true hb;subst this;exact .inr ⟨_,_,_,rfl,hk⟩
  ·exact .inl (tree (.sl es) hk)
 |int k=>exact .inl (tree _ hk)
 |bool=>exact .inl (tree _ hk)
 |str=>exact .inl (tree _ hk)
 |any=>exact .inl (tree _ hk)
theorem Mp:∀{ts:List CT}{id:Nat}{ps:List PV}{K:List PV->List (Nat × Bm)->Option R},V3 N id ts ps K=some r ->
  ∃cs bs,∃qs:List (Nat × Nat),K cs bs=some r∧cs.length=ps.length∧ps.length=ts.length∧bs.map (·.1)=qs.map (·.1)∧(∀q∈qs,∀q'∈qs,q.2=q'.2->q.1=q'.1) ∧
   (∀i bx,(i,bx)∈bs->∃c,bx=.ar false c)∧(∀c∈cs,BC c)∧(∀c∈cs,∀i∈Al c,∃bx,(i,bx)∈bs) ∧
   ∀(w:World) (A:Nat->Prop) (own β':Bt) (j0:Nat) (us:List Value),(∀q∈qs,β' q.1=own (j0+q.2))->Ec w A own j0 ps us->Bd (Bs w A β') cs us∧∀i bx,(i,bx)∈bs->Nv w A β' i bx
 |[],id,ps,K,hk=>by
  obtain⟨rfl,hk⟩:=Dd hk;refine⟨[],[],[],hk,rfl,rfl,rfl,by simp,by simp,by simp,by simp,fun w A own β' j0 us _ h=>⟨?_,by simp⟩⟩
  cases us with
  |nil=>trivial
  |cons u us=>exact h.elim
 |t::ts,id,ps,K,hk=>by
  unfold V3 at hk;obtain⟨p,ps',We,Du⟩:=A7 hk;subst We;rcases Abf Du with⟨c,Eb,hT,hv⟩|⟨es,n,cc,rfl,Eb⟩
  ·obtain⟨cs,bs,qs,Jg,hl,Of,hb,Ia,Eg,hF,G5,Ob⟩:=Mp Eb;refine⟨c::cs,bs,qs.map (fun q=>(q.1,q.2+1)),Jg,by simp[hl],by simp[Of],by rw[hb];simp,?_,Eg,?_,?_,fun w A own β' j0 us hβ ho=>?_⟩
   ·intro q hq q' E2 e;obtain⟨q0,Qf,rfl⟩:=List.mem_map.1 hq;obtain⟨q1,H2,rfl⟩:=List.mem_map.1 E2;exact Ia q0 Qf q1 H2 (by simp only at e;omega)
   ·intro y hy;rcases List.mem_cons.1 hy with rfl|hy
    ·exact Nk hT
    ·exact hF y hy
   ·intro y hy i hi;rcases List.mem_cons.1 hy with rfl|hy
    ·rw[Gl hT] at hi;cases hi
    ·exact G5 y hy i hi
   ·cases us with
    |nil=>exact ho.elim
    |cons u us=>
     obtain⟨h1,h2⟩:=Ob w A own β' (j0+1) us (fun q hq=>by rw[hβ _ (List.mem_map_of_mem hq)];congr 1;simp only;omega) ho.2
     exact⟨⟨Abr (hv w A _ u ho.1),h1⟩,h2⟩
  ·obtain⟨cs,bs,qs,Jg,hl,Of,hb,Ia,Eg,hF,G5,Ob⟩:=Mp Eb;refine⟨_::cs,(id,.ar false cc)::bs,(id,0)::qs.map (fun q=>(q.1,q.2+1)),Jg,by simp[hl],by simp[Of],by simp only[List.map_cons,hb];simp,?_,?_,?_,?_,fun w A own β' j0 us hβ ho=>?_⟩
   ·intro q hq q' E2 e;rcases List.mem_cons.1 hq with rfl|hq
    ·rcases List.mem_cons.1 E2 with rfl|E2
     ·rfl
     ·obtain⟨q0,Qf,rfl⟩:=List.mem_map.1 E2;simp only at e;omega
    ·obtain⟨q0,Qf,rfl⟩:=List.mem_map.1 hq;rcases List.mem_cons.1 E2 with rfl|E2
     ·simp only at e;omega
     ·obtain⟨q1,H2,rfl⟩:=List.mem_map.1 E2;exact Ia q0 Qf q1 H2 (by simp only at e;omega)
   ·intro i bx hm;rcases List.mem_cons.1 hm with e|hm
    ·cases e;exact⟨cc,rfl⟩
    ·exact Eg i bx hm
   ·intro y hy;rcases List.mem_cons.1 hy with rfl|hy
    ·trivial
    ·exact hF y hy
   ·intro y hy i hi;rcases List.mem_cons.1 hy with rfl|hy
    ·simp only[Al,List.mem_singleton] at hi;subst hi;exact⟨_,List.mem_cons_self⟩
    ·obtain⟨bx,Jh⟩:=G5 y hy i hi;exact⟨bx,List.mem_cons_of_mem _ Jh⟩
   ·cases us with
    |nil=>exact ho.elim
    |cons u us=>
     obtain⟨h1,h2⟩:=Ob w A own β' (j0+1) us (fun q hq=>by rw[hβ _ (List.mem_cons_of_mem _ (List.mem_map_of_mem hq))];congr 1;simp only;omega) ho.2
     have h0:=hβ (id,0) List.mem_cons_self;simp only[Nat.add_zero] at h0;refine⟨⟨?_,h1⟩,fun i bx hm=>?_⟩
     ·rcases ho.1 with⟨h3,rfl,_,h5⟩|⟨b,ob,cap,h3,h4,h5,h6,h7,_⟩
      ·exact .inl ⟨h0.trans h3,rfl,rfl,h5⟩
      ·exact .inr ⟨b,ob,ob,cap,h0.trans h3,h4,.inl rfl,h5,h6,h7⟩
     ·rcases List.mem_cons.1 hm with e|hm
      ·cases e;exact Sh ho.1 h0
      ·exact h2 i bx hm
theorem Ad2 {i:Nat}{t:TypeId}{p:PV}{K:PV->List (Nat × Bm)->Option R} (hk:inK P N i t p K=some r):
  ∃v bs,∃qs:List (Nat × Nat),K v bs=some r∧bs.map (·.1)=qs.map (·.1)∧(∀q∈qs,∀q'∈qs,q.2=q'.2->q.1=q'.1)∧(Tt p=true->(C9 N i,0)∈qs∧i<8) ∧
   (∀id bx,(id,bx)∈bs->Cx (some bx)∧∀c,bx=.st c->id=C9 N i∧Tt p=true)∧(∀id∈Bq v,∃bx,(id,bx)∈bs)∧T9 bs ∧
   ∀(w:World) (A:Nat->Prop) (bt β':Bt) (u:Value),(∀q∈qs,β' q.1=bt q.2)->MH w A bt p u->D1 w A β' v u∧(∀id bx,(id,bx)∈bs->Nv w A β' id bx) ∧
    ∀id bx b o,(id,bx)∈bs->β' id=some (b,o)->∀j,BR bx o j->Ak3 bt p b j:=by
 have owns:∀{bs:List (Nat × Bm)} {qs:List (Nat × Nat)},bs.map (·.1)=qs.map (·.1)->(∀i bx,(i,bx)∈bs->∃c,bx=.ar false c)->∀{bt β':Bt},(∀q∈qs,β' q.1=bt (1+q.2))->∀id bx b o,(id,bx)∈bs->β' id=some (b,o)->∀j,BR bx o j->∃k o',bt (k+1)=some (b,o')∧o'<=j:=by
  intro bs qs hb Eg bt β' hβ id bx b o hm EQ j hj;have:id∈qs.map (·.1):=by rw[←hb];exact List.mem_map.2 ⟨_,hm,rfl⟩
  obtain⟨q,hq,rfl⟩:=List.mem_map.1 this;obtain⟨c,rfl⟩:=Eg _ _ hm;rw[hβ q hq,Nat.add_comm] at EQ;exact⟨q.2,o,EQ,hj⟩
 have nost:∀{bs:List (Nat × Bm)},(∀i bx,(i,bx)∈bs->∃c,bx=.ar false c)->T9 bs:=by
  intro bs Eg id cells hm;obtain⟨c,e⟩:=Eg id _ hm;cases e
 unfold inK at hk;split at hk
 ·rename_i e he;obtain⟨ps,rfl,Du⟩:=BO hk;obtain⟨hi8,Eb⟩:=Aj Du;have hi8:i<8:=Nat.lt_of_succ_le (Nat.le_of_ble_eq_true hi8);obtain⟨cs,bs,qs,Jg,hl,Of,hb,Ia,Eg,hF,G5,hv⟩:=Mp Eb;refine⟨_,_,(C9 N i,0)::qs.map (fun q=>(q.1,q.2+1)),Jg,by simp only[List.map_cons,hb];simp,?_,fun _=>⟨List.mem_cons_self,hi8⟩,?_,?_,?_,fun w A bt β' u hβ hp=>?_⟩
  ·intro q hq q' E2 e;rcases List.mem_cons.1 hq with rfl|hq
   ·rcases List.mem_cons.1 E2 with rfl|E2
    ·rfl
    ·obtain⟨q0,Qf,rfl⟩:=List.mem_map.1 E2;simp only at e;omega
   ·obtain⟨q0,Qf,rfl⟩:=List.mem_map.1 hq;rcases List.mem_cons.1 E2 with rfl|E2
    ·simp only at e;omega
    ·obtain⟨q1,H2,rfl⟩:=List.mem_map.1 E2;exact Ia q0 Qf q1 H2 (by simp only at e;omega)
  ·intro id bx hm;rcases List.mem_cons.1 hm with e|hm
   ·cases e;exact⟨trivial,fun _ _=>⟨rfl,rfl⟩⟩
   ·obtain⟨c,rfl⟩:=Eg id bx hm;exact⟨trivial,fun _ e=>by cases e⟩
  ·intro id Bi;simp only[Bq,B8,Al,List.mem_singleton] at Bi;subst Bi;exact⟨_,List.mem_cons_self⟩
  ·intro id cells hm c hc k hk;rcases List.mem_cons.1 hm with e|hm
   ·cases e;obtain⟨bx,Jh⟩:=G5 c hc k hk;exact⟨bx,List.mem_cons_of_mem _ Jh⟩
   ·obtain⟨c,e⟩:=Eg id _ hm;cases e
  ·obtain⟨b,o,h1,rfl,_,vs,h3,h4,h5⟩:=hp;have h0:=hβ (C9 N i,0) List.mem_cons_self;simp only at h0;have hβ1:∀q∈qs,β' q.1=bt (1+q.2):=fun q hq=>by rw[hβ _ (List.mem_cons_of_mem _ (List.mem_map_of_mem hq)),Nat.add_comm]
   obtain⟨h6,h7⟩:=hv w A bt β' 1 vs hβ1 h3;refine⟨⟨b,o,h0.trans h1,by simp⟩,fun id bx hm=>?_,fun id bx b' o' hm G1 j hj=>?_⟩
   ·rcases List.mem_cons.1 hm with e|hm
    ·cases e;refine⟨b,o,h0.trans h1,fun k c hk=>?_,fun k hk=>h5 k (by omega)⟩
     obtain⟨v,hv,IC⟩:=h6.get hk;exact⟨v,h4 k v hv,IC⟩
    ·exact h7 id bx hm
   ·rcases List.mem_cons.1 hm with e|hm
    ·cases e;rw[h0] at G1;have hj:o'<=j∧j<o'+cs.length:=hj;exact .inr ⟨o',ps,G1,hj.1,.inl ⟨rfl,by omega⟩⟩
    ·exact .inl (owns hb Eg hβ1 id bx b' o' hm G1 j hj)
 ·split at hk
  ·rename_i ps;obtain⟨e,he,Du⟩:=B5 hk;obtain⟨hi8,Eb⟩:=Aj Du;have hi8:i<8:=Nat.lt_of_succ_le (Nat.le_of_ble_eq_true hi8);obtain⟨q,qr,hq,Jg⟩:=A7 Eb;subst hq;obtain⟨Uv,Qd⟩:=Dd Jg;subst Uv;unfold HR at Qd;split at Qd
   ·rename_i es' n c;cases hb:Nat.beq es' (A8 P e)<;>rw[hb] at Qd
    ·cases Qd
    ·have Qn:=Nat.eq_of_beq_eq_true hb;subst Qn;refine⟨_,_,[(C9 N i,0)],Qd,rfl,by simp,fun _=>⟨by simp,hi8⟩,?_,?_,?_,fun w A bt β' u hβ hp=>?_⟩
     ·intro id bx hm;simp only[List.mem_singleton] at hm;cases hm;exact⟨trivial,fun _ e=>by cases e⟩
     ·intro id Bi;simp only[Bq,B8,Al,List.mem_singleton] at Bi;subst Bi;exact⟨_,List.mem_cons_self⟩
     ·intro id cells hm;simp only[List.mem_singleton] at hm;cases hm
     ·obtain⟨es,n',c',h1,h2⟩:=hp;cases h1;have h0:=hβ (C9 N i,0) List.mem_cons_self;simp only at h0;refine⟨?_,fun id bx hm=>?_,fun id bx b' o' hm G1 j hj=>?_⟩
      ·rcases h2 with⟨h3,rfl,_,h5⟩|⟨b,ob,cap,h3,h4,h5,h6,h7,_⟩
       ·exact .inl ⟨h0.trans h3,rfl,rfl,h5⟩
       ·exact .inr ⟨b,ob,ob,cap,h0.trans h3,h4,.inl rfl,h5,h6,h7⟩
      ·simp only[List.mem_singleton] at hm;cases hm;exact Sh h2 h0
      ·simp only[List.mem_singleton] at hm;cases hm;rw[h0] at G1;exact .inr ⟨o',_,G1,hj,.inr rfl⟩
   ·cases Qd
  ·rename_i PJ;cases Fb:Bx P t<;>rw[Fb] at hk
   ·simp only[cond_false] at hk;obtain⟨cs,bs,qs,Jg,hl,Of,hb,Ia,Eg,hF,G5,hv⟩:=Mp hk;obtain⟨c,cs',Xd,Qd⟩:=A7 Jg;subst Xd;obtain⟨Uv,NR⟩:=Dd Qd;subst Uv;have hFc:=hF c (by simp)
    have hnL:Tt p=false∨∃ps,p=.pbox ps:=by
     cases p<;>first|exact .inl rfl|exact .inr ⟨_,rfl⟩|exact absurd rfl (PJ _)
    have hpb:∀ps,p ≠ .pbox ps:=by
     rintro ps rfl
     cases HS:G0 P t with
     |nil=>rw[HS] at Of;simp at Of
     |cons t' ts=>
      rw[HS] at hk;unfold V3 Abx at hk;obtain⟨q,qs1,hq,Du⟩:=A7 hk;cases hq;cases t'<;>simp[Uu,Po,Aw,Am,A0,WH] at Du
    have hpa:∀ps,p ≠ .agg ps:=by
     rintro ps rfl
     cases HS:G0 P t with
     |nil=>rw[HS] at Of;simp at Of
     |cons t' ts=>
      rw[HS] at hk;unfold V3 Abx at hk;obtain⟨q,qs1,hq,Du⟩:=A7 hk;cases hq;cases t'<;>simp[Uu,Po,Aw,Am,A0,WH] at Du
    have hnL:Tt p=false:=hnL.elim id (fun ⟨ps,e⟩=>absurd e (hpb ps))
    have Qv:Bq c=Al c:=by cases c<;>first|rfl|exact hFc.elim
    refine⟨c,bs,qs.map (fun q=>(q.1,q.2+1)),NR,by rw[hb];simp,?_,(fun h=>by rw[hnL] at h;cases h),?_,fun id Bi=>G5 c (by simp) id (by rw[←Qv];exact Bi),nost Eg,fun w A bt β' u hβ hp=>?_⟩
    ·intro q hq q' E2 e;obtain⟨q0,Qf,rfl⟩:=List.mem_map.1 hq;obtain⟨q1,H2,rfl⟩:=List.mem_map.1 E2;exact Ia q0 Qf q1 H2 (by simp only at e;omega)
    ·intro id bx hm;obtain⟨c,rfl⟩:=Eg id bx hm;exact⟨trivial,fun _ e=>by cases e⟩
    ·have Cn:Fh w A (bt 1) p u:=by cases p<;>first|exact hp.2|exact absurd rfl (hpa _)|exact absurd rfl (hpb _)|exact absurd rfl (PJ _)
     have hβ1:∀q∈qs,β' q.1=bt (1+q.2):=fun q hq=>by rw[hβ _ (List.mem_map_of_mem hq),Nat.add_comm]
     obtain⟨h6,h7⟩:=hv w A bt β' 1 [u] hβ1 ⟨Cn,trivial⟩;refine⟨?_,h7,fun id bx b' o' hm G1 j hj=>.inl (owns hb Eg hβ1 id bx b' o' hm G1 j hj)⟩
     have h8:=h6.1;cases c<;>first|exact h8|exact hFc.elim
   ·simp only[cond_true] at hk;obtain⟨ps,Gw,Du⟩:=Gf hk;subst Gw;obtain⟨cs,bs,qs,Jg,hl,Of,hb,Ia,Eg,hF,G5,hv⟩:=Mp Du;refine⟨_,bs,qs.map (fun q=>(q.1,q.2+1)),Jg,by rw[hb];simp,?_,(fun h=>by cases h),?_,fun id Bi=>?_,nost Eg,fun w A bt β' u hβ hp=>?_⟩
    ·intro q hq q' E2 e;obtain⟨q0,Qf,rfl⟩:=List.mem_map.1 hq;obtain⟨q1,H2,rfl⟩:=List.mem_map.1 E2;exact Ia q0 Qf q1 H2 (by simp only at e;omega)
    ·intro id bx hm;obtain⟨c,rfl⟩:=Eg id bx hm;exact⟨trivial,fun _ e=>by cases e⟩
    ·obtain⟨c,hc,hi⟩:=List.mem_flatMap.1 (show id∈cs.flatMap Al from Bi)
     exact G5 c hc id hi
    ·obtain⟨vs,h1,_,h3⟩:=hp;have hβ1:∀q∈qs,β' q.1=bt (1+q.2):=fun q hq=>by rw[hβ _ (List.mem_map_of_mem hq),Nat.add_comm]
     obtain⟨h6,h7⟩:=hv w A bt β' 1 vs hβ1 h3;exact⟨⟨vs,h1,h6⟩,h7,fun id bx b' o' hm G1 j hj=>.inl (owns hb Eg hβ1 id bx b' o' hm G1 j hj)⟩
theorem IW:∀{ts:List TypeId}{i:Nat}{ps:List PV}{K:List (Nat × PV)->List (Nat × Bm)->Option R},XT P N i ts ps K=some r ->
  ∃tms bs,∃qs:List (Nat × Nat × Nat),K tms bs=some r∧bs.map (·.1)=qs.map (·.1)∧(∀q∈qs,i<=q.2.1)∧(∀q∈qs,∀q'∈qs,q.2=q'.2->q.1=q'.1) ∧
   (∀k p,ps[k]?=some p->Tt p=true->(C9 N (i+k),i+k,0)∈qs∧i+k<8)∧(∀id bx,(id,bx)∈bs->Cx (some bx)∧∀c,bx=.st c->∃k p,ps[k]?=some p∧Tt p=true∧id=C9 N (i+k)) ∧
   (∀j,∀id∈Bq (lk tms j),∃bx,(id,bx)∈bs)∧T9 bs ∧
   ∀(w:World) (A:Nat->Prop) (bt:Tv) (β':Bt) (us:List Value),(∀q∈qs,β' q.1=bt q.2.1 q.2.2)->Iy w A bt i ps us ->
    (∀j,(∃u,i<=j∧us[j-i]?=some u∧D1 w A β' (lk tms j) u)∨(lk tms j=.top∧(i<=j->us[j-i]?=none)))∧(∀id bx,(id,bx)∈bs->Nv w A β' id bx) ∧
    ∀id bx b o,(id,bx)∈bs->β' id=some (b,o)->∀j,BR bx o j->∃k p,ps[k]?=some p∧Ak3 (bt (i+k)) p b j
 |[],i,ps,K,hk=>by
  obtain⟨We,hk⟩:=Dd hk;subst We;refine⟨[],[],[],hk,rfl,by simp,by simp,by simp,by simp,(fun j id Bi=>by cases Bi),(by intro i cells hm;cases hm),fun w A bt β' us _ h=>?_⟩
  cases us with
  |nil=>exact⟨fun j=>.inr ⟨rfl,fun _=>by simp⟩,by simp,by simp⟩
  |cons u us=>exact h.elim
 |t::ts,i,ps,K,hk=>by
  unfold XT at hk;obtain⟨p,ps',We,Du⟩:=A7 hk;subst We;obtain⟨v,bs,qs,Eb,hb,hqi,Zo,Jh,hr,OU,hv⟩:=Ad2 Du;obtain⟨tms,bs',qs',Jg,G1,Akz,A0q,Apf,Ayi,hr',At4,Lk⟩:=IW Eb;refine⟨(i,v)::tms,bs++bs',qs.map (fun q=>(q.1,i,q.2))++qs',Jg,by simp only[List.map_append,hb,G1];simp,?_,?_,?_,?_,?_,?_,fun w A bt β' us hβ hp=>?_⟩
  ·intro q hq;rcases List.mem_append.1 hq with hq|hq
   ·obtain⟨q0,Qf,rfl⟩:=List.mem_map.1 hq;exact Nat.le_refl _
   ·have:=Akz q hq;omega
  ·intro q hq q' E2 e;rcases List.mem_append.1 hq with hq|hq
   ·obtain⟨q0,Qf,rfl⟩:=List.mem_map.1 hq;rcases List.mem_append.1 E2 with E2|E2
    ·obtain⟨q1,H2,rfl⟩:=List.mem_map.1 E2;simp only[Prod.mk.injEq,true_and] at e;exact hqi q0 Qf q1 H2 e
    ·have:=Akz q' E2;rw[←e] at this;simp only at this;omega
   ·have h5:=Akz q hq;rcases List.mem_append.1 E2 with E2|E2
    ·obtain⟨q1,H2,rfl⟩:=List.mem_map.1 E2;rw[e] at h5;simp only at h5;omega
    ·exact A0q q hq q' E2 e
  ·intro k p' Jf hL;cases k with
   |zero=>
    simp only[List.getElem?_cons_zero,Option.some.injEq] at Jf;subst Jf;obtain⟨h1,h2⟩:=Zo hL;exact⟨List.mem_append.2 (.inl (List.mem_map.2 ⟨_,h1,rfl⟩)),h2⟩
   |succ k=>
    obtain⟨h1,h2⟩:=Apf k p' (by simpa using Jf) hL
    rw[show i+1+k=i+(k+1) by omega] at h1 h2
    exact⟨List.mem_append.2 (.inr h1),h2⟩
  ·intro id bx hm;rcases List.mem_append.1 hm with hm|hm
   ·obtain⟨h1,h2⟩:=Jh id bx hm;exact⟨h1,fun c hc=>⟨0,p,rfl,(h2 c hc).2,(h2 c hc).1⟩⟩
   ·obtain⟨h1,h2⟩:=Ayi id bx hm;refine⟨h1,fun c hc=>?_⟩
    obtain⟨k,p',h3,h4,h5⟩:=h2 c hc;exact⟨k+1,p',by simpa using h3,h4,by rw[h5,show i+1+k=i+(k+1) by omega]⟩
  ·intro j id Bi;unfold lk at Bi;cases hbq:Nat.beq j i<;>rw[hbq] at Bi
   ·obtain⟨bx,h1⟩:=hr' j id Bi;exact⟨bx,List.mem_append.2 (.inr h1)⟩
   ·obtain⟨bx,h1⟩:=hr id Bi;exact⟨bx,List.mem_append.2 (.inl h1)⟩
  ·intro id cells hm c hc k hk;rcases List.mem_append.1 hm with hm|hm
   ·obtain⟨bx,h1⟩:=OU id cells hm c hc k hk;exact⟨bx,List.mem_append.2 (.inl h1)⟩
   ·obtain⟨bx,h1⟩:=At4 id cells hm c hc k hk;exact⟨bx,List.mem_append.2 (.inr h1)⟩
  ·cases us with
   |nil=>exact hp.elim
   |cons u us=>
    obtain⟨h1,h2,h3⟩:=hv w A (bt i) β' u (fun q hq=>hβ _ (List.mem_append.2 (.inl (List.mem_map_of_mem hq)))) hp.1
    obtain⟨FK,h2',h3'⟩:=Lk w A bt β' us (fun q hq=>hβ q (List.mem_append.2 (.inr hq))) hp.2
    refine⟨fun j=>?_,fun id bx hm=>?_,fun id bx b o hm EQ j hj=>?_⟩
    ·unfold lk;cases hbq:Nat.beq j i
     ·have Ek:=J5 hbq;simp only[cond_false];rcases FK j with⟨u',h4,h5,h6⟩|⟨h4,h5⟩
      ·refine .inl ⟨u',by omega,?_,h6⟩
       rw[show j-i=(j-(i+1))+1 by omega]
       simpa using h5
      ·refine .inr ⟨h4,fun hij=>?_⟩
       rw[show j-i=(j-(i+1))+1 by omega]
       simpa using h5 (by omega)
     ·have:=Nat.eq_of_beq_eq_true hbq;subst this;exact .inl ⟨u,Nat.le_refl _,by simp,h1⟩
    ·rcases List.mem_append.1 hm with hm|hm
     ·exact h2 id bx hm
     ·exact h2' id bx hm
    ·rcases List.mem_append.1 hm with hm|hm
     ·exact⟨0,p,rfl,h3 id bx b o hm EQ j hj⟩
     ·obtain⟨k,p',h4,h5⟩:=h3' id bx b o hm EQ j hj;exact⟨k+1,p',by simpa using h4,by rw[show i+(k+1)=i+1+k by omega];exact h5⟩
def NG (bt:Tv)(args:List PV)(h8:∀k p,args[k]?=some p->Tt p=true->k<8):Gv:=
 ⟨WG bt,Xi bt args,fun i=>∃p,args[i]?=some p∧Tt p=true,fun i=>bt i 0,fun i ⟨p,h1,h2⟩=>h8 i p h1 h2⟩
theorem UI {ts:List TypeId}{args:List PV}{us:List Value}{bt:Tv}{K:List (Nat × PV)->List (Nat × Bm)->Option R} (Qw:Ins w Y bt args us)(hk:XT P N 0 ts args K=some r):
  ∃tms bs,K tms bs=some r∧(Bo (fun _=>none) bs=true->us.length<=N->∃(h8:∀k p,args[k]?=some p->Tt p=true->k<8),∃β0,
   Cl N w (NG bt args h8) Y β0 ⟨lk tms,Jz bs⟩ { tmps:=us.toArray++Array.replicate (N-us.toArray.size) undef,defers:=[] } w):=by
 obtain⟨tms,bs,qs,Du,hb,Qf,hqi,Zo,Jh,hr,OU,hv⟩:=IW hk;refine⟨tms,bs,Du,fun L5 hN=>?_⟩
 have OT:=Na L5
 have h8:∀k p,args[k]?=some p->Tt p=true->k<8:=fun k p h1 h2=>by
  have:=(Zo k p h1 h2).2;omega
 have AA:(qs.map (·.1)).Nodup:=by rw[←hb];exact OT
 obtain⟨β0,hβ0⟩:∃β0:Bt,∀q∈qs,β0 q.1=bt q.2.1 q.2.2:=by
  have:∀(l:List (Nat × Nat × Nat)),(l.map (·.1)).Nodup->∃β0:Bt,∀q∈l,β0 q.1=bt q.2.1 q.2.2:=by
   intro l
   induction l with
   |nil=>intro _;exact⟨fun _=>none,by simp⟩
   |cons q l ih=>
    intro hn;simp only[List.map_cons,List.nodup_cons] at hn;obtain⟨b1,h1⟩:=ih hn.2;refine⟨Ci b1 q.1 (bt q.2.1 q.2.2),fun q' E2=>?_⟩
    rcases List.mem_cons.1 E2 with rfl|E2
    ·exact Ak _ _ _
    ·have Ek:q'.1≠q.1:=fun e=>hn.1 (by rw[←e];exact List.mem_map.2 ⟨q',E2,rfl⟩)
     rw[Ah _ _ Ek];exact h1 q' E2
  exact this qs AA
 refine⟨h8,β0,?_⟩;obtain⟨hs,HZ,hL⟩:=hv w _ bt β0 us hβ0 Qw.args
 have hqm:∀id bx,(id,bx)∈bs->∃ik,(id,ik)∈qs∧β0 id=bt ik.1 ik.2:=by
  intro id bx hm;have:id∈qs.map (·.1):=by rw[←hb];exact List.mem_map.2 ⟨_,hm,rfl⟩
  obtain⟨q,hq,rfl⟩:=List.mem_map.1 this;exact⟨q.2,hq,hβ0 q hq⟩
 have hX:∀b,HA (Jz bs) β0 b->WG bt b:=by
  rintro b ⟨id,o,hl,hβ⟩
  cases hq:Jz bs id with
  |none=>rw[hq] at hl;exact hl.elim
  |some bx=>
   obtain⟨ik,_,h2⟩:=hqm id bx (J3 hq);rw[h2] at hβ;exact⟨_,_,_,hβ⟩
 have hA:∀b,Cy (Jz bs) β0 Y b->WG bt b∨Y b:=fun b hb=>hb.imp (hX b) id
 have Ada:∀{p:PV} {u:Value},D1 w (fun b=>WG bt b∨Y b) β0 p u->D1 w (Cy (Jz bs) β0 Y) β0 p u:=fun h=>h.step (B4.refl _ _) (fun b _=>hA b) (fun _ _=>rfl)
 refine⟨rfl,by simp;omega,fun i hi=>?_,fun i hi=>?_,?_,?_,?_,fun i hi id Bi=>?_,?_,fun b hb=>.inl (hX b hb),?_,?_,?_,fun b hY hXb=>Qw.Yx b hY (hX b hXb),Qw.Ylt,⟨rfl,rfl,rfl,B4.refl _ _,fun _ _ _ _=>⟨rfl,rfl⟩⟩⟩
 ·rcases hs i with⟨u,_,h,_⟩|⟨h,_⟩
  ·rw[Nat.sub_zero,List.getElem?_eq_none (by omega)] at h;cases h
  ·exact h
 ·rcases hs i with⟨u,_,h,hv⟩|⟨h,h'⟩
  ·rw[Nat.sub_zero] at h
   have B6:i<us.length:=by
    rcases Nat.lt_or_ge i us.length with h'|h'
    ·exact h'
    ·rw[List.getElem?_eq_none h'] at h;cases h
   have:(us.toArray++Array.replicate (N-us.toArray.size) undef).getD i undef=u:=by
    rw[Array.getD_eq_getD_getElem?,Array.getElem?_append_left (by simpa using B6)]
    simp[h]
   show D1 w _ _ _ ((us.toArray++Array.replicate (N-us.toArray.size) undef).getD i undef);rw[this];exact Ada hv
  ·show D1 w _ _ (lk tms i) _;rw[h];exact Ar.top _
 ·intro id bx hq;exact (HZ id bx (J3 hq)).step' hA
 ·intro id id' b o o' hl Ib hβ hβ';cases hq:Jz bs id with
  |none=>change Cx (Jz bs id) at hl;rw[hq] at hl;exact hl.elim
  |some bx=>
   cases E2:Jz bs id' with
   |none=>change Cx (Jz bs id') at Ib;rw[E2] at Ib;exact Ib.elim
   |some bx'=>
    obtain⟨ik,h1,h2⟩:=hqm id bx (J3 hq);obtain⟨ik',FK,h2'⟩:=hqm id' bx' (J3 E2);rw[h2] at hβ;rw[h2'] at hβ';obtain⟨h3,h4⟩:=Qw.inj _ _ _ _ b o o' hβ hβ';exact hqi _ h1 _ FK (Prod.ext h3 h4)
 ·intro id b o hn hβ;cases hq:Jz bs id with
  |none=>exact absurd hq hn
  |some bx=>
   obtain⟨ik,h1,h2⟩:=hqm id bx (J3 hq);rw[h2] at hβ;exact Qw.lt b ⟨_,_,_,hβ⟩
 ·obtain⟨bx,hm⟩:=hr i id Bi;show Jz bs id≠none;rw[FP OT hm];simp
 ·intro id cells hq c hc k hk;obtain⟨bx,hm⟩:=OU id cells (J3 hq) c hc k hk;show Jz bs k≠none;rw[FP OT hm];simp
 ·intro id bx b o hq hl hβ _ j hj;obtain⟨k,p,h1,h2⟩:=hL id bx b o (J3 hq) hβ j hj;rw[Nat.zero_add] at h2;exact⟨k,p,h1,h2⟩
 ·rintro i ⟨p,h1,h2⟩
  have h3:=(Zo i p h1 h2).1;rw[Nat.zero_add] at h3;refine⟨?_,hβ0 _ h3⟩;have:C9 N i∈bs.map (·.1):=by rw[hb];exact List.mem_map.2 ⟨_,h3,rfl⟩
  obtain⟨⟨id,bx⟩,hm,e⟩:=List.mem_map.1 this;show Jz bs (C9 N i)≠none;rw[←e,FP OT hm];simp
 ·intro id c b o hq _ _;obtain⟨k,p,h1,h2,h3⟩:=(Jh id _ (J3 hq)).2 c rfl;rw[Nat.zero_add] at h3;exact⟨k,h3,p,h1,h2⟩
end
open Go.RowKit
def I1 (β:Bt)(l:List (Option Nat)) (j:Nat):Option (Nat × Nat):=((l[j]?).bind id).bind β
section
variable {R:Type} {r:R} {P:Program} {N:Nat} {w0:World} {X0:Gv} {Y:Nat->Prop} {β β':Bt} {s:St} {a:Act} {w w':World} {A:Nat->Prop}
def Aa5 (s:St)(l:List (Option Nat)):Prop:=∀id,some id∈l->Cx (s.hp id)
def J0 (s:St)(z:List Nat):Prop:=∀id∈z,∃f c,s.hp id=some (.ar f c)
theorem DS (h : Cl N w0 X0 Y β s a w) {shr : Bool} {t : CT} {p : PV} {K : PV -> List Nat -> List Nat -> Option R} (hk : QW shr s.hp t p K = some r) :
    ∃ c q z, K c (Option.toList q) z = some r ∧ (∀ x, c ≠ .agg x ∧ c ≠ .pbox x) ∧ BC p ∧ (∀ id, q = some id -> ∃ c, s.hp id = some (.ar false c)) ∧ J0 s z ∧
      ∀ (fz : List Nat) A u, (∀ i ∈ z, i ∈ fz) -> J0 s fz -> (∀ b, A b -> Cy (Af s.hp fz) β Y b) -> Bs w (Cy s.hp β Y) β p u -> Fh w A (q.bind β) c u := by
  have notree : ∀ {c : PV}, Qs c -> ∀ x, c ≠ .agg x ∧ c ≠ .pbox x := fun hT x => ⟨R7 hT x, by rintro rfl; exact hT⟩
  unfold QW at hk
  cases shr <;> simp only[cond_true, cond_false] at hk
  · have tree : ∀ t', (∀ es, t' ≠ .sl es) -> (Uu t' p fun c => K c [] []) = some r -> ∃ c q z, K c (Option.toList q) z = some r ∧ (∀ x, c ≠ .agg x ∧ c ≠ .pbox x) ∧ BC p ∧ (∀ id, q = some id -> ∃ c, s.hp id = some (.ar false c)) ∧ J0 s z ∧
        ∀ (fz : List Nat) A u, (∀ i ∈ z, i ∈ fz) -> J0 s fz -> (∀ b, A b -> Cy (Af s.hp fz) β Y b) -> Bs w (Cy s.hp β Y) β p u -> Fh w A (q.bind β) c u := by
      intro t' Ek hk
      obtain⟨c, Du, hT, Xj, hv⟩ := J4 hk
      refine⟨c, none, [], Du, notree hT, Nk Xj, by simp, (by intro i hi; cases hi), fun fz A u _ _ hA hc => Id hT ?_⟩
      exact (hv w _ β u hc).1.step (B4.refl _ _) (fun b _ hb => K2 (hA b hb))
    unfold Ag7 at hk
    cases t with
    | sl es =>
      dsimp only at hk
      split at hk
      · rename_i id es' off n
        cases hb : (Nat.beq es' es && Nat.beq off 0) <;> rw[hb] at hk
        · cases hk
        · simp only[Bool.and_eq_true] at hb
          have he := Nat.eq_of_beq_eq_true hb.1
          have ho := Nat.eq_of_beq_eq_true hb.2
          subst he ho
          simp only[cond_true] at hk
          split at hk
          · rename_i c h0
            obtain⟨hl, Du⟩ := Aj hk
            refine⟨_, some id, [], Du, by simp, trivial, fun i hi => by cases hi; exact⟨c, h0⟩, (by intro i hi; cases hi), fun fz A u _ _ hA hc => ?_⟩
            rcases hc with⟨h1, _, rfl, h4⟩ | ⟨b, o, x, cap, h1, h2, hx, h3, h4, h5⟩
            · exact .inl ⟨h1, rfl, by simp, h4⟩
            · have hx : x = o := by rcases hx with e | ⟨_, e⟩ <;> omega
              subst hx
              rcases h.box id _ h0 with⟨h6, _⟩ | ⟨b', o', h6, h7, h8, _⟩
              · rw[h1] at h6; cases h6
              · rw[h1] at h6
                cases h6
                refine .inr ⟨b, x, cap, h1, h2, h3, h4, h5, fun j q hq => ?_, fun j hj Og => h8 rfl j hj Og⟩
                rw[List.getElem?_take] at hq
                split at hq
                · obtain⟨v, hv, h9, ht⟩ := h7 j q hq
                  exact⟨v, hv, h9, ht.step (B4.refl _ _) (fun b _ hb => K2 (hA b hb))⟩
                · cases hq
          · cases hk
      · obtain⟨z, n, c, Du, hp⟩ := Eu hk
        obtain⟨hz, Eb⟩ := Aj Du
        subst hz
        have hpF : BC p := by rcases hp with e | ⟨e, _⟩ <;> (rw[e]; trivial)
        refine⟨_, none, [], Eb, by simp, hpF, by simp, (by intro i hi; cases hi), fun fz A u _ _ _ hc => ?_⟩
        have hu : u = .slice none 0 0 := by
          rcases hp with rfl | ⟨rfl, _⟩
          · cases hc; rfl
          · exact Ar.val hc
        exact .inl ⟨rfl, rfl, rfl, none, hu⟩
    | int k => exact tree _ (by simp) hk
    | bool => exact tree _ (by simp) hk
    | str => exact tree _ (by simp) hk
    | any => exact tree _ (by simp) hk
  · obtain⟨c, m, Du, hT, hF, hm, hv⟩ := X3 h hk
    exact⟨c, none, m, Du, notree hT, hF, by simp, hm, fun fz A u h1 h2 hA hc => Id hT ((hv fz h1 h2 u hc).1.step (B4.refl _ _) (fun b _ hb => hA b hb))⟩
structure V7 (s:St) (β:Bt) (Y:Nat->Prop) (w:World) (cs:List PV) (l:List (Option Nat)) (z:List Nat) (ps:List PV):Prop where
 len:l.length=cs.length
 pl:cs.length=ps.length
 na:∀c∈cs,∀x,c ≠ .agg x∧c ≠ .pbox x
 fr:∀p∈ps,BC p
 own:∀id,some id∈l->∃c,s.hp id=some (.ar false c)
 row:J0 s z
 sem:∀(fz:List Nat) A us,(∀i∈z,i∈fz)->J0 s fz->(∀b,A b->Cy (Af s.hp fz) β Y b)->Bd (Bs w (Cy s.hp β Y) β) ps us->∀own j0,(∀j,j<l.length->own (j0+j)=I1 β l j)->Ec w A own j0 cs us
theorem V7.nil:V7 s β Y w [] [] [] []:=⟨rfl,rfl,by simp,by simp,by simp,(by intro i hi;cases hi),fun fz A us _ _ _ hu own j0 _=>by
 cases us with
 |nil=>trivial
 |cons u us=>exact hu.elim⟩
theorem V7.cons {c p:PV}{q:Option Nat}{z zs:List Nat}{cs ps:List PV}{l:List (Option Nat)} (Ui:∀x,c ≠ .agg x∧c ≠ .pbox x)(hF:BC p)(hq:∀id,q=some id->∃c,s.hp id=some (.ar false c)) (hz:J0 s z)
  (hv:∀(fz:List Nat) A u,(∀i∈z,i∈fz)->J0 s fz->(∀b,A b->Cy (Af s.hp fz) β Y b)->Bs w (Cy s.hp β Y) β p u->Fh w A (q.bind β) c u) (H:V7 s β Y w cs l zs ps):V7 s β Y w (c::cs) (q::l) (z++zs) (p::ps):=by
 refine⟨by simp[H.len],by simp[H.pl],?_,?_,?_,?_,fun fz A us MP Lo hA hu own j0 Fe=>?_⟩
 ·intro x hx;rcases List.mem_cons.1 hx with rfl|hx
  ·exact Ui
  ·exact H.na x hx
 ·intro x hx;rcases List.mem_cons.1 hx with rfl|hx
  ·exact hF
  ·exact H.fr x hx
 ·intro id Bi;rcases List.mem_cons.1 Bi with e|Bi
  ·exact hq id e.symm
  ·exact H.own id Bi
 ·intro i hi;rcases List.mem_append.1 hi with hi|hi
  ·exact hz i hi
  ·exact H.row i hi
 ·cases us with
  |nil=>exact hu.elim
  |cons u us=>
   have h0:=Fe 0 (by simp)
   rw[Nat.add_zero] at h0;refine⟨?_,H.sem fz A us (fun i hi=>MP i (by simp[hi])) Lo hA hu.2 own (j0+1) fun j hj=>?_⟩
   ·rw[h0];exact hv fz A u (fun i hi=>MP i (by simp[hi])) Lo hA hu.1
   ·have:=Fe (j+1) (by simp;omega)
    rw[show j0+1+j=j0+(j+1) by omega,this]
    simp[I1]
theorem M5 (h:Cl N w0 X0 Y β s a w){shr:Bool}:∀{ts:List CT}{ps:List PV}{K:List PV->List Nat->List Nat->Option R},Ua shr s.hp ts ps K=some r ->
  ∃cs l z,K cs (l.filterMap id) z=some r∧V7 s β Y w cs l z ps
 |[],[],K,hk=>⟨[],[],[],hk,V7.nil⟩
 |[],_::_,K,hk=>by cases hk
 |_::_,[],K,hk=>by cases hk
 |t::ts,p::ps,K,hk=>by
  unfold Ua at hk;obtain⟨c,q,z,Du,Ui,hF,hq,hz,hv⟩:=DS h hk;obtain⟨cs,l,zs,Eb,H⟩:=M5 h Du;refine⟨c::cs,q::l,z++zs,?_,V7.cons Ui hF hq hz hv H⟩;cases q<;>exact Eb
theorem Vd (h:Cl N w0 X0 Y β s a w):∀{ts:List CT}{ws ps:List PV}{K:List PV->List Nat->List Nat->Option R},Wv s.hp ts ws ps K=some r ->
  ∃cs l z,K cs (l.filterMap id) z=some r∧cs.length=ws.length∧V7 s β Y w cs l z ps
 |[],[],[],K,hk=>⟨[],[],[],hk,rfl,V7.nil⟩
 |[],_::_,_,K,hk=>by cases hk
 |[],[],_::_,K,hk=>by cases hk
 |_::_,[],_,K,hk=>by cases hk
 |_::_,_::_,[],K,hk=>by cases hk
 |t::ts,x::ws,p::ps,K,hk=>by
  unfold Wv at hk;obtain⟨c,q,z,Du,Ui,hF,hq,hz,hv⟩:=DS h hk;obtain⟨cs,l,zs,Eb,hl,H⟩:=Vd h Du;refine⟨c::cs,q::l,z++zs,?_,by simp[hl],V7.cons Ui hF hq hz hv H⟩
  cases q<;>exact Eb
theorem OV {own:Bt}{zz j:Nat}{p:PV}{u:Value}(hp:∀x,p ≠ .agg x∧p ≠ .pbox x)(h:Ec w A own j [p] [u]):Adj w A own zz j p u:=by
 cases p<;>first|exact h.1|exact absurd rfl (hp _).1|exact absurd rfl (hp _).2
theorem SB (h:Cl N w0 X0 Y β s a w){id b o:Nat}{c cs:List PV}{l:List (Option Nat)} {z:List Nat}(h0:s.hp id=some (.st c)) (hβ:β id=some (b,o)) (H:V7 s β Y w cs l z c){fz:List Nat}{A:Nat->Prop}(h1:∀i∈z,i∈fz)(h2:J0 s fz)(hA:∀b,A b->Cy (Af s.hp fz) β Y b)
  {own:Bt} {j0:Nat} (Fe:∀j,j<l.length->own (j0+j)=I1 β l j):Abt w A own j0 b o cs:=by
 obtain⟨b',o',Eg,G5,Rk⟩:=h.box id _ h0;rw[hβ] at Eg;cases Eg;refine⟨c.mapIdx (fun j _=>(w.cell? ⟨b,o+j,none⟩).getD undef),H.sem fz A _ h1 h2 hA ?_ own j0 Fe,?_,fun k hk=>Rk k (by have:=H.pl;omega)⟩
 ·refine Bd.of_at (by simp) fun j p v hp hv=>?_
  obtain⟨u,hu,IC⟩:=G5 j p hp;rw[List.getElem?_mapIdx,hp,Option.map_some,hu] at hv;simp at hv;subst hv;exact IC
 ·intro k v VO;rw[List.getElem?_mapIdx] at VO;cases hp:c[k]? with
  |none=>rw[hp] at VO;cases VO
  |some p=>
   obtain⟨u,hu,IC⟩:=G5 k p hp;rw[hp,Option.map_some,hu] at VO;simp at VO;subst VO;exact hu
theorem TJ (h:Cl N w0 X0 Y β s a w){shr:Bool}{t:TypeId}{p:PV}{u:Value}(hp:D1 w (Cy s.hp β Y) β p u) {K:PV->List Nat->List Nat->Option R}(hk:YN P shr s.hp t p K=some r):
  ∃v l z,K v (l.filterMap id) z=some r∧l.length=SZ v∧Aa5 s l∧J0 s z ∧
   ∀(fz:List Nat) A zz,(∀i∈z,i∈fz)->J0 s fz->(∀b,A b->Cy (Af s.hp fz) β Y b)->(∀id c b o,some id∈l->s.hp id=some (.st c)->β id=some (b,o)->zz<=b) ->
    ∀own j0,(∀j,j<l.length->own (j0+j)=I1 β l j)->Adj w A own zz j0 v u:=by
 unfold YN at hk;split at hk
 ·rename_i e he;split at hk
  ·rename_i id off;split at hk
   ·rename_i c h0;obtain⟨hof,Du⟩:=Aj hk;have hof:=Nat.eq_of_beq_eq_true hof;subst hof;obtain⟨cs,l,z,Eb,H⟩:=M5 h Du;obtain⟨b,o,hβ,hu⟩:=hp;refine⟨.pbox cs,some id::l,z,Eb,by simp only[SZ,List.length_cons,H.len];omega,?_,H.row,fun fz A zz h1 h2 hA hz own j0 Fe=>?_⟩
    ·intro i hi;rcases List.mem_cons.1 hi with e|hi
     ·cases e;rw[h0];trivial
     ·obtain⟨c',M6⟩:=H.own i hi;rw[M6];trivial
    ·have h3:=Fe 0 (by simp)
     rw[Nat.add_zero] at h3;refine⟨b,o,by rw[h3];exact hβ,hz id c b o (by simp) h0 hβ,by rw[hu,Nat.add_zero],SB h h0 hβ H h1 h2 hA fun j hj=>?_⟩
     have:=Fe (j+1) (by simp;omega)
     rw[show j0+1+j=j0+(j+1) by omega,this]
     simp[I1]
   ·cases hk
  ·cases hk
 ·cases Fb:Bx P t<;>rw[Fb] at hk<;>simp only[cond_true,cond_false] at hk
  ·obtain⟨cs,l,z,Du,H⟩:=M5 h hk;obtain⟨c,cs',Xd,Eb⟩:=A7 Du;subst Xd;obtain⟨Uv,Jg⟩:=Dd Eb;subst Uv;have Ui:=H.na c (by simp)
   have AE:SZ c=1:=by cases c<;>first|rfl|exact absurd rfl (Ui _).1|exact absurd rfl (Ui _).2
   have hF:=H.fr p (by simp)
   refine⟨c,l,z,Jg,by rw[AE];exact H.len,fun i hi=>?_,H.row,fun fz A zz h1 h2 hA _ own j0 Fe=>OV Ui (H.sem fz A [u] h1 h2 hA ⟨?_,trivial⟩ own j0 Fe)⟩
   ·obtain⟨c',M6⟩:=H.own i hi;rw[M6];trivial
   ·cases p<;>first|exact hp|exact hF.elim
  ·obtain⟨ps,We,Du⟩:=Gf hk;subst We;obtain⟨cs,l,z,Eb,H⟩:=M5 h Du;obtain⟨vs,hu,Ob⟩:=hp;refine⟨.agg cs,l,z,Eb,H.len,fun i hi=>?_,H.row,fun fz A zz h1 h2 hA _ own j0 Fe=>⟨vs,hu,H.sem fz A vs h1 h2 hA Ob own j0 Fe⟩⟩
   obtain⟨c',M6⟩:=H.own i hi;rw[M6];trivial
def FJ (P:Program)(tmps:Array Value)(w:World)(rv:ResultVar)(u:Value):Prop:=
  (match rv with
   |.tmp t=>(pure (tmps.getD t undef):Sem Value)
   |.cell a t=>do loadVar t (←asAddr (tmps.getD a undef))).run P w=.ok u w
theorem ZN (h:Cl N w0 X0 Y β s a w)(t:Nat):D1 w (Cy s.hp β Y) β (s.tm t) (a.tmps.getD t undef):=by
 rcases Nat.lt_or_ge t N with h'|h'
 ·exact h.tms t h'
 ·rw[h.tmo t h'];exact Ar.top _
theorem TG (h:Cl N w0 X0 Y β s a w){rv:ResultVar}{K:PV->Option R}(hk:Acg P s rv K=some r):∃p u,K p=some r∧FJ P a.tmps w rv u∧D1 w (Cy s.hp β Y) β p u:=by
 unfold Acg at hk;split at hk
 ·rename_i t;exact⟨_,_,hk,rfl,ZN h t⟩
 ·rename_i x t;obtain⟨v,ad,val,Du,C4,hl,hv,_⟩:=LT h (ZN h x) hk;refine⟨v,val,Du,?_,hv⟩;unfold FJ;simp[C4,asAddr,hl]
theorem Rc {l l':List (Option Nat)} {j:Nat}(h:j<l.length):I1 β (l++l') j=I1 β l j:=by
 unfold I1;rw[List.getElem?_append_left h]
theorem Q8 {l l':List (Option Nat)} {j:Nat}:I1 β (l++l') (l.length+j)=I1 β l' j:=by
 unfold I1;rw[List.getElem?_append_right (by omega),Nat.add_sub_cancel_left]
theorem Ya (h:Cl N w0 X0 Y β s a w){shr:Bool}:∀{rs:List ResultVar}{ts:List TypeId}{K:List PV->List Nat->List Nat->Option R},HD P shr s rs ts K=some r ->
  ∃vs l z us,K vs (l.filterMap id) z=some r∧Bd (FJ P a.tmps w) rs us∧l.length=Jm vs∧Aa5 s l∧J0 s z ∧
   ∀(fz:List Nat) A zz,(∀i∈z,i∈fz)->J0 s fz->(∀b,A b->Cy (Af s.hp fz) β Y b)->(∀id c b o,some id∈l->s.hp id=some (.st c)->β id=some (b,o)->zz<=b) ->
    ∀own j0,(∀j,j<l.length->own (j0+j)=I1 β l j)->CK w A own zz j0 vs us
 |[],[],K,hk=>⟨[],[],[],[],hk,trivial,rfl,(by intro id Bi;cases Bi),(by intro id Bi;cases Bi),fun _ _ _ _ _ _ _ _ _ _=>trivial⟩
 |[],_::_,K,hk=>by cases hk
 |_::_,[],K,hk=>by cases hk
 |rv::rs,t::ts,K,hk=>by
  unfold HD at hk;obtain⟨p,u,Du,hu,hp⟩:=TG h hk;obtain⟨v,l,z,Eb,hl,hL,hz,hv⟩:=TJ h hp Du;obtain⟨vs,l',z',us,Jg,WY,Ib,UQ,TT,Ob⟩:=Ya h Eb;refine⟨v::vs,l++l',z++z',u::us,?_,⟨hu,WY⟩,by simp only[List.length_append,Jm,List.map_cons,List.sum_cons,hl];rw[Ib];rfl,?_,?_,fun fz A zz h1 h2 hA Fd own j0 Fe=>⟨?_,?_⟩⟩
  ·rw[List.filterMap_append];exact Jg
  ·intro id Bi;rcases List.mem_append.1 Bi with Bi|Bi
   ·exact hL id Bi
   ·exact UQ id Bi
  ·intro id Bi;rcases List.mem_append.1 Bi with Bi|Bi
   ·exact hz id Bi
   ·exact TT id Bi
  ·exact hv fz A zz (fun i hi=>h1 i (by simp[hi])) h2 hA (fun id c b o hi=>Fd id c b o (by simp[hi])) own j0 fun j hj=>by rw[Fe j (by simp;omega),Rc hj]
  ·refine Ob fz A zz (fun i hi=>h1 i (by simp[hi])) h2 hA (fun id c b o hi=>Fd id c b o (by simp[hi])) own (j0+SZ v) fun j hj=>?_
   rw[←hl,Nat.add_assoc,Fe (l.length+j) (by simp;omega),Q8]
theorem Nx (h:Cl N w0 X0 Y β s a w){bt:Tv}(hpt:∀i,X0.pt i=bt i 0):∀{ts:List TypeId}{i:Nat}{ps:List PV}{K:List (List PV)->List Nat->List Nat->List Nat->Option R},Uy P N s.hp i ts ps K=some r ->
  (∀k p,ps[k]?=some p->Tt p=true->X0.pn (i+k)) ->
  ∃os l z q,K os (l.filterMap id) z q=some r∧(∀id,some id∈l->∃c,s.hp id=some (.ar false c))∧J0 s z∧(∀id∈q,Cx (s.hp id))∧(∀k p,ps[k]?=some p->Tt p=true->C9 N (i+k)∈q) ∧
   ∀(fz:List Nat) A,(∀i∈z,i∈fz)->J0 s fz->(∀i∈q,i ∉ fz)->(∀b,A b->Cy (Af s.hp fz) β Y b) ->
    ∀own j0,(∀j,j<l.length->own (j0+j)=I1 β l j)->Qt w A own bt j0 i ps os
 |[],i,ps,K,hk,_=>by
  obtain⟨We,hk⟩:=Dd hk;subst We;exact⟨[],[],[],[],hk,by simp,(by intro id Bi;cases Bi),by simp,by simp,fun _ _ _ _ _ _ _ _ _=>rfl⟩
 |t::ts,i,ps,K,hk,hpn=>by
  unfold Uy at hk;obtain⟨p,ps',We,Du⟩:=A7 hk;subst We
  have Amj:∀k p,ps'[k]?=some p->Tt p=true->X0.pn (i+1+k):=fun k p' h1 h2=>by
   have:=hpn (k+1) p' (by simpa using h1) h2
   rw[show i+1+k=i+(k+1) by omega]
   exact this
  have hpq:∀{q:List Nat},(Tt p=true->C9 N i∈q)->(∀k p,ps'[k]?=some p->Tt p=true->C9 N (i+1+k)∈q)->∀k p',(p::ps')[k]?=some p'->Tt p'=true->C9 N (i+k)∈q:=by
   intro q h1 h2 k p' h3 h4;cases k with
   |zero=>
    simp only[List.getElem?_cons_zero,Option.some.injEq] at h3;subst h3;exact h1 h4
   |succ k=>
    have:=h2 k p' (by simpa using h3) h4
    rw[show i+1+k=i+(k+1) by omega] at this
    exact this
  split at Du
  ·rename_i ws;obtain⟨e,he,Eb⟩:=B5 Du;split at Eb
   ·rename_i c h0;obtain⟨cs,l,z,Jg,Kg,H⟩:=Vd h Eb;obtain⟨os,l',z',q,Qd,UQ,TT,E2,hpi,hv⟩:=Nx h hpt Jg Amj;refine⟨cs::os,l++l',z++z',C9 N i::q,by rw[List.filterMap_append];exact Qd,?_,?_,?_,hpq (fun _=>List.mem_cons_self) (fun k p h1 h2=>List.mem_cons_of_mem _ (hpi k p h1 h2)),fun fz A h1 h2 h3 hA own j0 Fe=>?_⟩
    ·intro id Bi;rcases List.mem_append.1 Bi with Bi|Bi
     ·exact H.own id Bi
     ·exact UQ id Bi
    ·intro id Bi;rcases List.mem_append.1 Bi with Bi|Bi
     ·exact H.row id Bi
     ·exact TT id Bi
    ·intro id Bi;rcases List.mem_cons.1 Bi with rfl|Bi
     ·rw[h0];trivial
     ·exact E2 id Bi
    ·have Zo:=(h.pin i (by have:=hpn 0 _ rfl rfl;rwa [Nat.add_zero] at this)).2
     obtain⟨b,o,Eg,_,_⟩:=h.box _ _ h0;rw[Eg,hpt] at Zo;refine⟨⟨b,o,Zo.symm,Kg,SB h h0 Eg H (fun i hi=>h1 i (by simp[hi])) h2 hA fun j hj=>by rw[Fe j (by simp;omega),Rc hj]⟩,?_⟩
     refine hv fz A (fun i hi=>h1 i (by simp[hi])) h2 (fun i hi=>h3 i (by simp[hi])) hA own (j0+cs.length) fun j hj=>?_
     rw[←H.len,Nat.add_assoc,Fe (l.length+j) (by simp;omega),Q8]
   ·cases Eb
  ·split at Du
   ·rename_i c h0;obtain⟨os,l',z',q,Qd,UQ,TT,E2,hpi,hv⟩:=Nx h hpt Du Amj;refine⟨c::os,l',z',C9 N i::q,Qd,UQ,TT,?_,hpq (fun _=>List.mem_cons_self) (fun k p h1 h2=>List.mem_cons_of_mem _ (hpi k p h1 h2)),fun fz A h1 h2 h3 hA own j0 Fe=>⟨?_,hv fz A h1 h2 (fun i hi=>h3 i (by simp[hi])) hA own j0 Fe⟩⟩
    ·intro id Bi;rcases List.mem_cons.1 Bi with rfl|Bi
     ·rw[h0];trivial
     ·exact E2 id Bi
    ·have Zo:=(h.pin i (by have:=hpn 0 _ rfl rfl;rwa [Nat.add_zero] at this)).2
     rw[hpt] at Zo;rcases h.box _ _ h0 with⟨h4,h5⟩|⟨b,o,h4,h5,h6,_⟩
     ·exact .inl ⟨by rw[←Zo];exact h4,h5⟩
     ·exact .inr ⟨b,o,by rw[←Zo];exact h4,h5.weak (fun b _ hb=>K2 (hA b hb)),h6 rfl⟩
   ·cases Du
  ·rename_i JZ hn2;have hnL:Tt p=false:=by cases p<;>first|rfl|exact absurd rfl (JZ _)|exact absurd rfl (hn2 _)
   obtain⟨os,l',z',q,Qd,UQ,TT,E2,hpi,hv⟩:=Nx h hpt Du Amj;refine⟨os,l',z',q,Qd,UQ,TT,E2,hpq (fun e=>by rw[hnL] at e;cases e) hpi,fun fz A h1 h2 h3 hA own j0 Fe=>?_⟩
   have:=hv fz A h1 h2 h3 hA own j0 Fe;cases p<;>first|exact this|cases hnL
theorem JY {f:ResultVar->Sem Value}:∀{rs:List ResultVar}{us:List Value},Bd (fun rv u=>(f rv).run P w=.ok u w) rs us->(rs.mapM f).run P w=.ok us w
 |[],[],_=>by simp
 |[],_::_,h=>h.elim
 |_::_,[],h=>h.elim
 |rv::rs,u::us,h=>by
  rw[List.mapM_cons];simp[h.1,JY h.2]
theorem MD {fn:Func}{us:List Value}(h:Bd (FJ P a.tmps w) fn.results.toList us):(results fn a.tmps).run P w=.ok (Gx us) w:=by
 unfold results;rw[Array.mapM_eq_mapM_toList];simp only[map_eq_pure_bind,bind_assoc,pure_bind,Sem.run_bind];refine Eq.trans (congrArg (fun x=>Result.andThen x _) (JY h)) ?_
 simp only[Result.andThen_ok,Sem.run_pure]
 congr 1
 clear h
 match us with
 |[]=>rfl
 |[u]=>rfl
 |u::v::us=>exact dif_neg (by simp)
theorem JN:∀{l:List (Option Nat)},Dt (l.filterMap id)=true->∀{j j' i:Nat},l[j]?=some (some i)->l[j']?=some (some i)->j=j'
 |[],_,j,j',i,h,_=>by simp at h
 |q::l,hn,j,j',i,h,h'=>by
  have hn':Dt (l.filterMap id)=true:=by
   cases q with
   |none=>exact hn
   |some x=>
    simp only[List.filterMap_cons,id_eq,Dt,Bool.and_eq_true] at hn;exact hn.2
  have hq:∀(x k:Nat),q=some x->l[k]?≠some (some x):=by
   intro x k e hk;subst e;simp only[List.filterMap_cons,id_eq,Dt,Bool.and_eq_true,Bool.not_eq_true'] at hn;exact Ng hn.1 (List.mem_filterMap.2 ⟨some x,List.mem_of_getElem? hk,rfl⟩)
  cases j with
  |zero=>
   cases j' with
   |zero=>rfl
   |succ k'=>
    simp at h h';exact absurd h' (hq i k' h)
  |succ k=>
   cases j' with
   |zero=>
    simp at h h';exact absurd h (hq i k h')
   |succ k'=>
    simp at h h';rw[JN hn' h h']
theorem DH {C:F3}{f:FuncId}{fn:Func}{args:List PV}{res:Ay}{w:World}{Y:Nat->Prop}{bt:Tv}{us:List Value}(Qw:Ins w Y bt args us){h8:∀k p,args[k]?=some p->Tt p=true->k<8}
  {s':St} {a':Act} {w':World} {β':Bt} (hr:VY C P f fn args s'=some res) (h:Cl fn.ntmps w (NG bt args h8) Y β' s' a' w'):
  a'.defers=[]∧∃v,(results fn a'.tmps).run P w'=.ok v w'∧∃vs own,Ending.returned v=.returned (Gx vs)∧Out w w' Y bt args own res vs:=by
 unfold VY at hr;obtain⟨vs,l,z,us',AC,WY,hll,hL,hz,hv⟩:=Ya h hr;obtain⟨os,l',z',q,CL,UQ,TT,hq,hpi,Lk⟩:=Nx h (bt:=bt) (fun _=>rfl) AC (fun k p h1 h2=>by rw[Nat.zero_add];exact⟨p,h1,h2⟩)
 obtain⟨hnd,SO⟩:=Aj CL;cases SO;simp only[Bool.and_eq_true] at hnd;obtain⟨hnd,Aj3⟩:=hnd;obtain⟨JZ,hn2,hn3⟩:=G9 hnd
 have U8:∀i∈z++z',i ∉ (l.filterMap id++l'.filterMap id)++q:=by
  intro i hi H8;have:=List.all_eq_true.1 Aj3 i hi;have h2:((l.filterMap id++l'.filterMap id)++q).any (Nat.beq i)=true:=List.any_eq_true.2 ⟨i,H8,Nat.beq_refl i⟩;rw[h2] at this;cases this
 have TE:J0 s' (z++z'):=by
  intro i hi;rcases List.mem_append.1 hi with hi|hi
  ·exact hz i hi
  ·exact TT i hi
 refine⟨h.dfr,Gx us',MD WY,us',I1 β' (l++l'),rfl,?_⟩;have Az1:Dt ((l++l').filterMap id)=true:=by rw[List.filterMap_append];exact JZ
 have Fe:∀j b o,I1 β' (l++l') j=some (b,o)->∃id,(l++l')[j]?=some (some id)∧β' id=some (b,o):=by
  intro j b o hj;unfold I1 at hj;cases hlj:(l++l')[j]? with
  |none=>rw[hlj] at hj;cases hj
  |some q=>
   cases q with
   |none=>rw[hlj] at hj;cases hj
   |some id=>
    rw[hlj] at hj;exact⟨id,rfl,hj⟩
 have Il:∀(j i:Nat),(l++l')[j]?=some (some i)->i∈l.filterMap id++l'.filterMap id:=by
  intro j i hj;rw[←List.filterMap_append];exact List.mem_filterMap.2 ⟨some i,List.mem_of_getElem? hj,rfl⟩
 have Fq:∀(j i:Nat),(l++l')[j]?=some (some i)->Cx (s'.hp i):=by
  intro j i hj;rcases List.mem_append.1 (List.mem_of_getElem? hj) with H8|H8
  ·exact hL i H8
  ·obtain⟨c,hc⟩:=UQ i H8;rw[hc];trivial
 have Ahs:∀i,i∈(l.filterMap id++l'.filterMap id)++q->Af s'.hp (z++z') i=s'.hp i:=by
  intro i hi;rw[Br,if_neg (fun H8=>U8 i H8 hi)]
 have Agq:∀i b o,bt i 0=some (b,o)->C9 fn.ntmps i∈q∧Cx (s'.hp (C9 fn.ntmps i))∧β' (C9 fn.ntmps i)=some (b,o):=by
  intro i b o AP;obtain⟨p,h1,h2⟩:=Qw.l0 i _ AP;have h3:=hpi i p h1 h2;rw[Nat.zero_add] at h3;exact⟨h3,hq _ h3,(h.pin i ⟨p,h1,h2⟩).2.trans AP⟩
 have hAO:∀b,Yw bt (I1 β' (l++l')) Y b->Cy (Af s'.hp (z++z')) β' Y b:=by
  rintro b (⟨j,o,hj⟩|⟨i,o,AP⟩|hY)
  ·obtain⟨id,h1,h2⟩:=Fe j b o hj;refine .inl ⟨id,o,?_,h2⟩;rw[Ahs id (List.mem_append.2 (.inl (Il j id h1)))];exact Fq j id h1
  ·obtain⟨h1,h2,h3⟩:=Agq i b o AP;refine .inl ⟨_,o,?_,h3⟩;rw[Ahs _ (List.mem_append.2 (.inr h1))];exact h2
  ·exact .inr hY
 have Rb:∀(j id b o:Nat),(l++l')[j]?=some (some id)->β' id=some (b,o)->b<w.heap.size->∃i k o',bt i (k+1)=some (b,o'):=by
  intro j id b o hj hβ B6;rcases h.ownd b ⟨id,o,Fq j id hj,hβ⟩ with⟨i,k,o',AP⟩|XE
  ·cases k with
   |zero=>
    obtain⟨h1,h2,h3⟩:=Agq i b o' AP;have:=h.inj id _ b o o' (Fq j id hj) h2 hβ h3;subst this;exact absurd h1 (hn3 _ (Il j _ hj))
   |succ k=>exact⟨i,k,o',AP⟩
  ·omega
 refine⟨h.fr.os,h.fr.tape,h.fr.output,h.fr.step,h.fr.rng,?_,?_,?_,?_⟩
 ·refine hv (z++z') _ _ (fun i hi=>List.mem_append.2 (.inl hi)) TE hAO (fun id c b o hi hc hβ=>?_) _ 0 (fun j hj=>by rw[Nat.zero_add,Rc hj])
  rcases Nat.lt_or_ge b w.heap.size with B6|XE
  ·obtain⟨k,Jf,p,h1,h2⟩:=h.stp id c b o hc hβ B6;have h3:=hpi k p h1 h2;rw[Nat.zero_add,←Jf] at h3;obtain⟨j,hj⟩:=List.mem_iff_getElem?.1 hi;refine absurd h3 (hn3 id ?_);exact List.mem_append.2 (.inl (List.mem_filterMap.2 ⟨some id,hi,rfl⟩))
  ·exact XE
 ·refine Lk (z++z') _ (fun i hi=>List.mem_append.2 (.inr hi)) TE (fun i hi H8=>U8 i H8 (List.mem_append.2 (.inr hi))) hAO _ _ (fun j hj=>?_)
  rw[←hll,Q8]
 ·intro j b o hj;obtain⟨id,h1,h2⟩:=Fe j b o hj;refine⟨h.blt id b o (Co (Fq j id h1)) h2,fun B6=>⟨Rb j id b o h1 h2 B6,fun x hx=>?_⟩⟩
  cases Jh:s'.hp id with
  |none=>have:=Fq j id h1;rw[Jh] at this;exact this.elim
  |some bx=>
   have Yy:=Fq j id h1;rw[Jh] at Yy;cases bx with
   |st c=>
    obtain⟨k,Jf,p,h3,h4⟩:=h.stp id c b o Jh h2 B6;have h5:=hpi k p h3 h4;rw[Nat.zero_add,←Jf] at h5;exact absurd h5 (hn3 _ (Il j _ h1))
   |ar fz c=>exact h.rngB id _ b o Jh Yy h2 B6 x hx
   |mv=>exact Yy.elim
 ·intro j j' b o o' hj Og;obtain⟨id,h1,h2⟩:=Fe j b o hj;obtain⟨id',FK,h2'⟩:=Fe j' b o' Og;have:=h.inj id id' b o o' (Fq j id h1) (Fq j' id' FK) h2 h2';subst this;exact JN Az1 h1 FK
theorem NW {G:Rs}(Iw:NoNG P)(hm:P.follows .mixedOrders=true){C:F3}{fu:Nat}{call:Ax}(Dk:∀f args res,call f args=some res->C6 G P f args res){f:FuncId}{fn:Func}{c:Code}(hf:P.funcs[f]?=some fn) (hb:fn.body=some c)
  {args:List PV} {res:Ay} (hk:Alj C P fu call f fn c args=some res):C6 G P f args res:=by
 refine⟨⟨fn,hf,by rw[hb];rfl⟩,fun w Y bt us Qw hG hGY=>?_⟩
 unfold Alj at hk;obtain⟨tms,bs,Du,Fd⟩:=UI Qw hk;obtain⟨Eg,Eb⟩:=Aj Du;simp only[Bool.and_eq_true] at Eg
 have Db:us.length<=fn.ntmps:=by
  rw[←Qw.args.len];exact Nat.le_of_ble_eq_true Eg.1
 obtain⟨h8,β0,hs⟩:=Fd Eg.2 Db;refine calls_of_wp hf hb ?_;have hE:JT P G w (NG bt args h8):=⟨Iw,fun w' XB=>G.stable w w' (fun b hb B6=>XB.step.keep b B6 (hGY b hb).2) hG,hGY⟩
 refine QC hE Dk hm c hs Eb (fun s' a' w' β' hr h=>DH Qw hr h) (fun id s' a' w' β' hr h=>by cases hr) (fun s' a' w' β' hr h=>DH Qw hr h)
def DU (G:Rs)(P:Program)(C:F3):Prop:=∀f g args res,C.ext f=some g->g args=some res->C6 G P f args res
theorem Hi {G:Rs}(Iw:NoNG P)(hm:P.follows .mixedOrders=true){C:F3}(hx:DU G P C){fu:Nat}:∀(d:Nat)(f:FuncId)(args:List PV)(res:Ay),Ae C P fu d f args=some res->C6 G P f args res
 |0,_,_,_,h=>by cases h
 |d+1,f,args,res,h=>by
  unfold Ae at h;split at h
  ·rename_i g hg;exact hx f g args res hg h
  ·split at h
   ·cases h
   ·rename_i fn hf;split at h
    ·cases h
    ·rename_i c hb;exact NW Iw hm (Hi Iw hm hx d) hf hb h
end
open Go.ChangeShapes Go.WideShapes Go.ChangeAt Go.RowKit Go.Deep
def HC (P:Program):List Field->Nat->Nat->Bool
 |[],i,n=>Nat.beq i n
 |f::r,i,n=>Nat.beq f.offset i&&HC P r (i+P.cellsOf f.type) n
def J9 (P:Program):Nat->TypeId->Bool
 |0,_=>false
 |d+1,t=>
  match P.underlying t with
  |some .bool=>true
  |some (.int _)=>true
  |some .string=>true
  |some (.slice e)=>J9 P d e&&Nat.blt 0 (P.cellsOf e)
  |some (.struct fs)=>HC P fs.toList 0 (P.cellsOf t)&&fs.toList.all fun f=>J9 P d f.type
  |some (.array n e)=>Nat.beq (P.cellsOf t) (n*P.cellsOf e)&&J9 P d e
  |_=>false
def WT (P:Program):Nat->TypeId->List PV->Prop
 |0,_,_=>False
 |d+1,t,ps=>
  match P.underlying t with
  |some .bool=>∃b,ps=[.sc (.bool b)]
  |some (.int k)=>∃n,ps=[.sc (.int k n)]∧(Lit.int k n).wf=true
  |some .string=>∃s:ByteArray,ps=[.sc (.string s)]∧s.size<=maxLen
  |some (.slice e)=>∃rows:List (List PV),ps=[.lst false (P.cellsOf e) rows.length rows.flatten]∧rows.length<=maxLen∧∀r∈rows,r.length=P.cellsOf e∧WT P d e r
  |some (.struct fs)=>∃rows:List (List PV),ps=rows.flatten∧Bd (fun f r=>WT P d f.type r) fs.toList rows
  |some (.array n e)=>∃rows:List (List PV),ps=rows.flatten∧rows.length=n∧∀r∈rows,r.length=P.cellsOf e∧WT P d e r
  |_=>False
def WTv (P:Program)(t:TypeId)(p:PV):Prop:=
 match Bx P t with
 |true=>∃ps,p=.agg ps∧WT P 12 t ps
 |false=>WT P 12 t [p]
section
variable {P:Program} {d:Nat} {t e:TypeId} {ps:List PV}
theorem Ad4 (hu:P.underlying t=some .bool):WT P (d+1) t ps↔∃b,ps=[.sc (.bool b)]:=by
 show (match P.underlying t with|some .bool=>_|some (.int k)=>_|some .string=>_|some (.slice e)=>_|some (.struct fs)=>_|some (.array n e)=>_|_=>_)↔_
 rw[hu]
theorem YQ {k:IntKind}(hu:P.underlying t=some (.int k)):WT P (d+1) t ps↔∃n,ps=[.sc (.int k n)]∧(Lit.int k n).wf=true:=by
 show (match P.underlying t with|some .bool=>_|some (.int k)=>_|some .string=>_|some (.slice e)=>_|some (.struct fs)=>_|some (.array n e)=>_|_=>_)↔_
 rw[hu]
theorem EE (hu:P.underlying t=some .string):WT P (d+1) t ps↔∃s:ByteArray,ps=[.sc (.string s)]∧s.size<=maxLen:=by
 show (match P.underlying t with|some .bool=>_|some (.int k)=>_|some .string=>_|some (.slice e)=>_|some (.struct fs)=>_|some (.array n e)=>_|_=>_)↔_
 rw[hu]
theorem KW (hu:P.underlying t=some (.slice e)):WT P (d+1) t ps↔∃rows:List (List PV),ps=[.lst false (P.cellsOf e) rows.length rows.flatten]∧rows.length<=maxLen∧∀r∈rows,r.length=P.cellsOf e∧WT P d e r:=by
 show (match P.underlying t with|some .bool=>_|some (.int k)=>_|some .string=>_|some (.slice e)=>_|some (.struct fs)=>_|some (.array n e)=>_|_=>_)↔_
 rw[hu]
theorem VJ {fs:Array Field}(hu:P.underlying t=some (.struct fs)):WT P (d+1) t ps↔∃rows:List (List PV),ps=rows.flatten∧Bd (fun f r=>WT P d f.type r) fs.toList rows:=by
 show (match P.underlying t with|some .bool=>_|some (.int k)=>_|some .string=>_|some (.slice e)=>_|some (.struct fs)=>_|some (.array n e)=>_|_=>_)↔_
 rw[hu]
theorem YG {n:Nat}(hu:P.underlying t=some (.array n e)):WT P (d+1) t ps↔∃rows:List (List PV),ps=rows.flatten∧rows.length=n∧∀r∈rows,r.length=P.cellsOf e∧WT P d e r:=by
 show (match P.underlying t with|some .bool=>_|some (.int k)=>_|some .string=>_|some (.slice e)=>_|some (.struct fs)=>_|some (.array n e)=>_|_=>_)↔_
 rw[hu]
end
inductive Ki where
 |bool
 |int (k:IntKind)
 |str
 |sl (e:TypeId)
 |st (ts:List TypeId)
 |ar (n:Nat) (e:TypeId)
 |no
def K5 (P:Program)(t:TypeId):Ki:=
 match P.underlying t with
 |some .bool=>.bool
 |some (.int k)=>.int k
 |some .string=>.str
 |some (.slice e)=>.sl e
 |some (.struct fs)=>.st (fs.toList.map (·.type))
 |some (.array n e)=>.ar n e
 |_=>.no
section
variable {P:Program} {d:Nat} {t e:TypeId} {ps:List PV} {p:PV}
theorem Bd.cons_inv {α β:Type}{R:α->β->Prop}{a:α}{zs:List α}:∀{rs:List β},Bd R (a::zs) rs->∃r rs',rs=r::rs'∧R a r∧Bd R zs rs'
 |[],h=>h.elim
 |r::rs,h=>⟨r,rs,rfl,h.1,h.2⟩
theorem Bd.nil_inv {α β:Type}{R:α->β->Prop}:∀{rs:List β},Bd R ([]:List α) rs->rs=[]
 |[],_=>rfl
 |_::_,h=>h.elim
theorem Ai4 {k:IntKind}(hk:K5 P t=.int k)(h:WT P d t ps):∃n,ps=[.sc (.int k n)]∧(Lit.int k n).wf=true:=by
 cases d with
 |zero=>exact h.elim
 |succ d=>
 unfold K5 at hk;split at hk<;>first|cases hk|skip
 rename_i hu;exact (YQ hu).1 h
theorem Ajm (hk:K5 P t=.str)(h:WT P d t ps):∃s:ByteArray,ps=[.sc (.string s)]∧s.size<=maxLen:=by
 cases d with
 |zero=>exact h.elim
 |succ d=>
 unfold K5 at hk;split at hk<;>first|cases hk|skip
 rename_i hu;exact (EE hu).1 h
theorem Aoj (hk:K5 P t=.sl e)(h:WT P d t ps):∃rows:List (List PV),ps=[.lst false (P.cellsOf e) rows.length rows.flatten]∧rows.length<=maxLen∧∀r∈rows,r.length=P.cellsOf e∧WT P (d-1) e r:=by
 cases d with
 |zero=>exact h.elim
 |succ d=>
 rw[Nat.add_sub_cancel];unfold K5 at hk;split at hk<;>first|cases hk|skip
 rename_i hu;exact (KW hu).1 h
theorem SM (hk:Bx P t=false)(h:WTv P t p):WT P 12 t [p]:=by
 unfold WTv at h;rw[hk] at h;exact h
theorem Ae9 (ha:Bx P t=false)(hk:K5 P t=.str)(h:WTv P t p):∃s:ByteArray,p=.sc (.string s)∧s.size<=maxLen:=by
 obtain⟨b,e,h⟩:=Ajm hk (SM ha h);exact⟨b,by injection e,h⟩
theorem Vw {α:Type}(f:α->List PV)(Q:α->Prop):∀{rows:List (List PV)},(∀r∈rows,∃x,r=f x∧Q x)->∃xs:List α,rows.flatten=xs.flatMap f∧rows.length=xs.length∧∀x∈xs,Q x
 |[],_=>⟨[],rfl,rfl,by simp⟩
 |r::rows,h=>by
  obtain⟨x,h1,h2⟩:=h r (by simp)
  obtain⟨xs,h3,h4,h5⟩:=Vw (rows:=rows) f Q fun r hr=>h r (by simp[hr])
  refine⟨x::xs,by simp[h1,h3],by simp[h4],fun y hy=>?_⟩
  rcases List.mem_cons.1 hy with rfl|hy
  ·exact h2
  ·exact h5 y hy
end
abbrev No:Nat->Prop:=fun _=>False
section
variable {H:Type} {enc:TypeId × Value->H} {P:Program} {w:World} {base:Nat} {held:Bool}
theorem Bd.flat {α β:Type}{R:α->β->Prop}:∀{l:List Nat}{f:Nat->List α}{g:Nat->List β},(∀i∈l,Bd R (f i) (g i))->Bd R (l.map f).flatten (l.map g).flatten
 |[],_,_,_=>trivial
 |i::l,f,g,h=>by
  simp only[List.map_cons,List.flatten_cons];exact (h i (by simp)).app (Bd.flat fun j hj=>h j (by simp[hj]))
theorem VQ {a:Addr}{v:Value}(h:w.cell? a=some v):a.spot=none∧a.block<w.heap.size:=by
 unfold World.cell? at h;split at h
 ·rename_i c t f e;refine⟨?_,?_⟩
  ·cases hs:a.spot with
   |none=>rfl
   |some x=>rw[hs] at h;simp at h
  ·rcases Nat.lt_or_ge a.block w.heap.size with h1|h1
   ·exact h1
   ·rw[Array.getElem?_eq_none h1] at e;cases e
 ·cases h
theorem Zh {α:Type}{g:Nat->List α}{es:Nat}:∀{n:Nat},(∀i,i<n->(g i).length=es)->((List.range n).map g).flatten.length=n*es
 |0,_=>by simp
 |n+1,h=>by
  rw[List.range_succ,List.map_append,List.flatten_append,List.length_append,Zh (fun i hi=>h i (by omega))]
  simp[h n (by omega),Nat.succ_mul]
theorem Xp {a:Addr}{g:Nat->List Value}{es:Nat}:∀{n:Nat},(∀i,i<n->(g i).length=es)->(∀i,i<n->∀k,k<es->w.cell? (a.add (i*es+k))=(g i)[k]?) ->
  ∀j,j<n*es->w.cell? (a.add j)=(((List.range n).map g).flatten)[j]?
 |0,_,_,j,hj=>by omega
 |n+1,hl,hc,j,hj=>by
  have S9:=Zh (fun i (hi:i<n)=>hl i (by omega))
  rw[List.range_succ,List.map_append,List.flatten_append,List.getElem?_append,S9];rw[Nat.succ_mul] at hj;split
  ·rename_i h1;exact Xp (fun i hi=>hl i (by omega)) (fun i hi=>hc i (by omega)) j h1
  ·rename_i h1;have:=hc n (by omega) (j-n*es) (by omega)
   rw[show n*es+(j-n*es)=j by omega] at this
   simpa using this
abbrev TR (w:World)(c:PV)(v:Value):Prop:=(Qs c∧Ar w No c v)∧v.oneCell'=true
theorem Vj {d:Nat}{cs:List Value}{n:Nat}(hn:cs.length=n):∀(l:List Field)(i:Nat),HC P l i n=true ->
  (∀f∈l,∃ps,WT P d f.type ps∧Bd (TR w) ps ((cs.drop f.offset).take (P.cellsOf f.type)))->∃rows:List (List PV),Bd (fun f r=>WT P d f.type r) l rows∧Bd (TR w) rows.flatten (cs.drop i)
 |[],i,ho,_=>by
  have:=Nat.eq_of_beq_eq_true ho;refine⟨[],trivial,?_⟩;rw[List.drop_of_length_le (by omega)]
  trivial
 |f::l,i,ho,h=>by
  simp only[HC,Bool.and_eq_true] at ho;have ho1:=Nat.eq_of_beq_eq_true ho.1;obtain⟨ps,h1,h2⟩:=h f (by simp)
  obtain⟨rows,h3,h4⟩:=Vj hn l _ ho.2 fun g hg=>h g (by simp[hg])
  refine⟨ps::rows,⟨h1,h3⟩,?_⟩;rw[ho1] at h2;have:cs.drop i=(cs.drop i).take (P.cellsOf f.type)++cs.drop (i+P.cellsOf f.type):=by rw[←List.drop_drop];exact (List.take_append_drop _ _).symm
  rw[this,List.flatten_cons];exact h2.app h4
theorem Yn {d:Nat}{e:TypeId}{cs:List Value}{k:Nat}:∀(n:Nat),n*k<=cs.length ->
  (∀i,i<n->∃ps,(ps.length=k∧WT P d e ps)∧Bd (TR w) ps ((cs.drop (i*k)).take k))->∃rows:List (List PV),rows.length=n∧(∀r∈rows,r.length=k∧WT P d e r)∧Bd (TR w) rows.flatten (cs.take (n*k))
 |0,_,_=>⟨[],rfl,by simp,by simp[Bd]⟩
 |n+1,hl,h=>by
  rw[Nat.succ_mul] at hl;obtain⟨rows,h1,h2,h3⟩:=Yn n (by omega) fun i hi=>h i (by omega)
  obtain⟨ps,h4,h5⟩:=h n (by omega)
  refine⟨rows++[ps],by simp[h1],?_,?_⟩
  ·intro r hr;rcases List.mem_append.1 hr with hr|hr
   ·exact h2 r hr
   ·rw[List.mem_singleton.1 hr];exact h4
  ·rw[List.flatten_append,Nat.succ_mul,List.take_add];refine h3.app ?_
   simpa using h5
theorem Pt:∀(d:Nat)(t:TypeId),J9 P d t=true->∀(fuel:Nat)(cs:List Value)(x:DataW H × List MemPlace),DataW.trod enc P w base (fun _=>true) held fuel t cs=some x ->
  ∃ps,WT P d t ps∧Bd (TR w) ps cs
 |0,_,h,_,_,_,_=>by cases h
 |d+1,t,hp,fuel,cs,x,h=>by
  unfold J9 at hp;split at hp
  ·rename_i hu;obtain⟨b,rfl,_⟩:=DataW.trod_bool hu h;simp only[Ad4 hu];exact⟨[.sc (.bool b)],⟨b,rfl⟩,⟨⟨trivial,Ar.sc _⟩,rfl⟩,trivial⟩
  ·rename_i k hu;obtain⟨n,rfl,_,hw⟩:=DataW.trod_int hu h;simp only[YQ hu];exact⟨[.sc (.int k n)],⟨n,rfl,hw⟩,⟨⟨trivial,Ar.sc _⟩,rfl⟩,trivial⟩
  ·rename_i hu;obtain⟨s,rfl,_,hw⟩:=DataW.trod_string hu h;simp only[EE hu];exact⟨[.sc (.string s)],⟨s,rfl,hw⟩,⟨⟨trivial,Ar.sc _⟩,rfl⟩,trivial⟩
  ·rename_i e hu;simp only[Bool.and_eq_true] at hp;have Qn:0<P.cellsOf e:=Nat.lt_of_succ_le (Nat.le_of_ble_eq_true hp.2);simp only[KW hu];rcases open_slice hu h with⟨rfl,_⟩|⟨a,len,cap,m,n,D,Pl,rfl,_,hl,hm,MN,_,hi⟩
   ·exact⟨[.lst false (P.cellsOf e) 0 []],⟨[],by simp,by simp,by simp⟩,⟨⟨trivial,Ar.lnil _ _⟩,rfl⟩,trivial⟩
   ·simp only[if_true] at MN;subst MN
    have MO:∀i,i<len->∃q:List PV × List Value,(q.2.length=P.cellsOf e∧(∀k,k<P.cellsOf e->w.cell? (a.add (i*P.cellsOf e+k))=q.2[k]?))∧WT P d e q.1∧Bd (TR w) q.1 q.2:=by
     intro i B6;obtain⟨cs',hc,ht⟩:=hi i (by omega)
     obtain⟨_,Kg,hat⟩:=World.cells?_some hc;obtain⟨ps,h1,h2⟩:=Pt d e hp.1 _ _ _ ht;exact⟨(ps,cs'),⟨Kg,fun k hk=>by rw[←Pv.add_add];exact hat k hk⟩,h1,h2⟩
    obtain⟨F,hF⟩:=choose_lt MO;refine⟨[.lst false (P.cellsOf e) len ((List.range len).map fun i=>(F i).1).flatten],⟨(List.range len).map fun i=>(F i).1,by simp,by simp;omega,?_⟩,⟨⟨trivial,?_⟩,rfl⟩,trivial⟩
    ·intro r hr;obtain⟨i,hi1,rfl⟩:=List.mem_map.1 hr;have hi2:=List.mem_range.1 hi1;exact⟨by rw[(hF i hi2).2.2.len];exact (hF i hi2).1.1,(hF i hi2).2.1⟩
    ·rcases Nat.eq_zero_or_pos len with h0|h0
     ·subst h0;exact Ar.lemp _ _ _
     ·have Lh:Bd (TR w) ((List.range len).map fun i=>(F i).1).flatten ((List.range len).map fun i=>(F i).2).flatten:=Bd.flat fun i hi=>(hF i (List.mem_range.1 hi)).2.2
      have Cr:=Xp (w:=w) (a:=a) (g:=fun i=>(F i).2) (fun i hi=>(hF i hi).1.1) (fun i hi=>(hF i hi).1.2)
      have Db:=Zh (g:=fun i=>(F i).2) (fun i (hi:i<len)=>(hF i hi).1.1)
      have h00:w.cell? a≠none:=by
       have:=Cr 0 (Nat.mul_pos h0 Qn);rw[show a.add 0=a by unfold Addr.add;simp] at this
       rw[this,List.getElem?_eq_getElem (by rw[Db];exact Nat.mul_pos h0 Qn)]
       simp
      obtain⟨v0,hv0⟩:=Option.ne_none_iff_exists'.1 h00;obtain⟨hs,hb⟩:=VQ hv0
      have key:∀j c,(((List.range len).map fun i=>(F i).1).flatten)[j]?=some c->∃v,w.cell? (a.add j)=some v∧TR w c v:=by
       intro j c hj
       have hlj:j<len*P.cellsOf e:=by
        rw[←Db,←Lh.len];rcases Nat.lt_or_ge j (((List.range len).map fun i=>(F i).1).flatten).length with h1|h1
        ·exact h1
        ·rw[List.getElem?_eq_none h1] at hj;cases hj
       have h1:=Cr j hlj;rw[List.getElem?_eq_getElem (by rw[Db];exact hlj)] at h1
       exact⟨_,h1,Lh.at_ hj (List.getElem?_eq_getElem (by rw[Db];exact hlj))⟩
      refine Ar.lst _ _ _ a _ (fun j=>(w.cell? (a.add j)).getD undef) hs hb (fun h=>h) hl (fun j c hj=>?_) (fun j c hj=>?_) (fun j c hj=>?_)
      ·obtain⟨v,hv,_⟩:=key j c hj;rw[hv];rfl
      ·obtain⟨v,hv,ht⟩:=key j c hj;rw[hv];exact ht.2
      ·obtain⟨v,hv,ht⟩:=key j c hj;rw[hv];exact ht.1.2
  ·rename_i fs hu;simp only[Bool.and_eq_true] at hp;simp only[VJ hu];obtain⟨xs,n,_,_,Db,hxl,hf⟩:=DataW.trod_struct hu h
   obtain⟨rows,h1,h2⟩:=Vj (P:=P) (w:=w) (d:=d) Db fs.toList 0 hp.1 fun f UX=>by
    obtain⟨i,hi⟩:=List.mem_iff_getElem?.1 UX;have MO:fs[i]?=some f:=by simpa using hi
    have B6:i<fs.size:=(Array.getElem?_eq_some_iff.1 MO).1;have h3:=hf i f MO;rw[List.getElem?_eq_getElem (by omega)] at h3
    exact Pt d f.type (List.all_eq_true.1 hp.2 f UX) _ _ _ h3
   exact⟨_,⟨rows,rfl,h1⟩,by simpa using h2⟩
  ·rename_i n e hu;simp only[Bool.and_eq_true] at hp;simp only[YG hu];obtain⟨xs,m,_,_,Db,hxl,hf⟩:=DataW.trod_array hu h;have La:=Nat.eq_of_beq_eq_true hp.1
   obtain⟨rows,h1,h2,h3⟩:=Yn (P:=P) (w:=w) (d:=d) (e:=e) (cs:=cs) (k:=P.cellsOf e) n (by omega) fun i hi=>by
    have h3:=hf i hi;rw[List.getElem?_eq_getElem (by omega)] at h3
    obtain⟨ps,h4,h5⟩:=Pt d e hp.2 _ _ _ h3;refine⟨ps,⟨?_,h4⟩,h5⟩;rw[h5.len,List.length_take,List.length_drop,Db,La];have:(i+1)*P.cellsOf e<=n*P.cellsOf e:=Nat.mul_le_mul_right _ hi;rw[Nat.succ_mul] at this;omega
   refine⟨_,⟨rows,rfl,h1,h2⟩,?_⟩;rw[List.take_of_length_le (by omega)] at h3
   exact h3
  ·cases hp
theorem Abz {r:Reach}{b0:Nat}{t:TypeId}{v:Value}{dd:DataW H}{p:List MemPlace}(hp:J9 P 12 t=true)(hv:Value.okWide P w r b0 t v)(h:DataW.Trod enc P w base (fun _=>true) held t v dd p):
  ∃q,WTv P t q∧Nl w No q v:=by
 obtain⟨fuel,hf⟩:=h;obtain⟨ps,h1,h2⟩:=Pt 12 t hp fuel _ _ hf;unfold WTv Bx
 have two:∀{cs:Array Value},v=.agg cs->∃q,(∃ps,q=.agg ps∧WT P 12 t ps)∧Nl w No q v:=by
  intro cs e;subst e;exact⟨.agg ps,⟨ps,rfl,h1⟩,cs.toList,by simp,h2.mono fun c v h=>h.1⟩
 have one:v.cells.toList=[v]->∃q,WT P 12 t [q]∧Nl w No q v:=by
  intro e;rw[e] at h2
  match ps,h2 with
  |[q],h2=>
   refine⟨q,h1,?_⟩;have h3:=h2.1.1;cases q<;>first|exact h3|exact h3.1.elim
  |[],h2=>exact h2.elim
  |_::_::_,h2=>exact h2.2.elim
 unfold J9 at hp;split at hp
 ·rename_i hu;simp only[hu];obtain⟨b,rfl,_⟩:=open_bool hu hv ⟨fuel,hf⟩;exact one rfl
 ·rename_i k hu;simp only[hu];obtain⟨b,rfl,_⟩:=open_int hu hv ⟨fuel,hf⟩;exact one rfl
 ·rename_i hu;simp only[hu];obtain⟨b,rfl,_⟩:=ChangeMaps.open_string hu hv ⟨fuel,hf⟩;exact one rfl
 ·rename_i e hu;simp only[hu];obtain⟨a,len,cap,rfl⟩:=okWide_slice hu hv;exact one rfl
 ·rename_i fs hu;simp only[hu];obtain⟨cs,rfl,_⟩:=okWide_struct hu hv;exact two rfl
 ·rename_i n e hu;simp only[hu];unfold Value.okWide at hv;simp only[hu] at hv;obtain⟨cs,rfl,_⟩:=hv;exact two rfl
 ·cases hp
theorem BM:∀{ts:List TypeId}{vs:List Value}{ds:List (DataW H)} {p:List MemPlace}{r:Reach}{b0:Nat},(ts.all fun t=>J9 P 12 t)=true->(∀(j:Nat) t v,ts[j]?=some t->vs[j]?=some v->Value.okWide P w r b0 t v) ->
  DataW.TrodAll enc P w base (fun _=>true) held ts vs ds p->∃qs,Bd (WTv P) ts qs∧Bd (Nl w No) qs vs
 |[],[],[],_,_,_,_,_,_=>⟨[],trivial,trivial⟩
 |t::ts,v::vs,d::ds,_,r,b0,hp,hv,⟨p,q,h1,h2,_⟩=>by
  simp only[List.all_cons,Bool.and_eq_true] at hp;obtain⟨x,h3,h4⟩:=Abz hp.1 (hv 0 t v rfl rfl) h1;obtain⟨xs,h5,h6⟩:=BM hp.2 (fun j t v ht Lk=>hv (j+1) t v ht Lk) h2
  exact⟨x::xs,⟨h3,h5⟩,h4,h6⟩
 |[],_::_,_,_,_,_,_,_,h=>by cases h
 |[],[],_::_,_,_,_,_,_,h=>by cases h
 |_::_,[],_,_,_,_,_,_,h=>by cases h
 |_::_,_::_,[],_,_,_,_,_,h=>by cases h
theorem Q2 (hl:laidOutB P=true){W W':World}{sp:Nat->Bool}:∀{ts:List TypeId}{vs:List Value}{ds:List (DataW H)} {p:List MemPlace},(ts.all fun t=>P.readableRec t&&Nat.blt t P.types.size)=true ->
  DataW.TrodAll enc P W 0 (fun _=>true) true ts vs ds p->(∀x∈p,W.sameAt W' x)->(∀x∈p,sp x.block=true)->DataW.TrodAll enc P W' 0 sp true ts vs ds p
 |[],[],[],_,_,h,_,_=>h
 |t::ts,v::vs,d::ds,_,hr,⟨p,q,h1,h2,e⟩,hs,hsp=>by
  simp only[List.all_cons,Bool.and_eq_true] at hr;refine⟨p,q,WideElems.Trod_stays hl hr.1.1 (Nat.lt_of_succ_le (Nat.le_of_ble_eq_true hr.1.2)) h1 (fun x hx=>hs x ?_) (fun x hx=>hsp x ?_),Q2 hl hr.2 h2 (fun x hx=>hs x ?_) (fun x hx=>hsp x ?_),e⟩
  all_goals rw[e,List.mem_append]
  ·exact .inl hx
  ·exact .inl hx
  ·exact .inr hx
  ·exact .inr hx
 |[],_::_,_,_,_,h,_,_=>by cases h
 |[],[],_::_,_,_,h,_,_=>by cases h
 |_::_,[],_,_,_,h,_,_=>by cases h
 |_::_,_::_,[],_,_,h,_,_=>by cases h
theorem BI {f:Func}{s:ChangeSpec}{apart fresh GT again:Bool}{W W':World}{args:Array Value}{v:Value}{ds gs:List (DataW H)} {before pa pv:List MemPlace}
  (hW:DataW.Whole enc P f.params.toList s.vars apart W args.toList ds gs before)
  (Ar8:∀(b:Nat)(sp:Nat->Bool)(hd:Bool),DataW.TrodAll enc P W' b sp hd f.resultTypes.toList (v.resultList f.resultTypes.size) (s.fn H (ds++gs)).results [])
  (Eh:∀sp:Nat->Bool,(∀p∈before,sp p.block=true)->DataW.TrodAll enc P W' 0 sp true f.params.toList args.toList (s.fn H (ds++gs)).args pa)
  (LF:∀sp:Nat->Bool,(∀p∈before,sp p.block=true)->DataW.TrodVars enc P W' sp s.vars (s.fn H (ds++gs)).vars pv)
  (We:before=pa++pv)(hb:Below W.heap.size W W')
  (hok:∀(j:Nat)(t:TypeId)(r:Value),f.resultTypes[j]?=some t->(v.resultList f.resultTypes.size)[j]?=some r->Value.okWide P W' .any 0 t r):
  s.post enc P f apart fresh GT again W args v W':=by
 have B6:∀p∈before,p.block<W.heap.size:=fun p hp=>hW.lt p hp
 have hold:∀p∈before,(fun b=>decide (b<W.heap.size)) p.block=true:=fun p hp=>by simpa using B6 p hp
 refine⟨ds,gs,before,[],pa,pv,hW,Ar8 _ _ _,Eh _ hold,LF _ hold,World.keptBut_mono (fun p hp=>⟨hp,?_⟩) (hb.frame (· ∈ before)),fun _=>?_⟩
 ·rw[We,List.mem_append] at hp;exact Or.inr hp
 ·obtain⟨_,_,_,_,_,hz,hn⟩:=hW;refine⟨hok,_,_,([]++pa)++pv,⟨[]++pa,pv,trodAll_append (Eh _ (fun _ _=>rfl)) (Ar8 _ _ _),LF _ (fun _ _=>rfl),rfl,?_,?_⟩,?_⟩
  ·intro b off hp;have Qw:MemPlace.cell b off∈before:=by rw[We];simpa using hp
   rw[hb.frozen (B6 _ Qw)];exact hz b off Qw
  ·intro ha;have:=hn ha;rw[We] at this
   simpa using this
  ·intro p hp _;rw[We]
   simpa using hp
theorem law_contract {G:Rs}{C:F3}(hx:DU G P C)(Iw:NoNG P)(hm:P.follows .mixedOrders=true)(hl:laidOutB P=true){f:FuncId}{fn:Func}{s:ChangeSpec}{tb:TypeId}(hfn:P.funcs[f]?=some fn)
  (LF:s.vars=[]) (Ar5:∀ds:List (DataW H),ds.length=fn.params.size->s.fn H ds={ results:=[.lit (.bool true)],args:=ds }) (Amo:(fn.params.toList.all fun t=>J9 P 12 t)=true)
  (Aqb:(fn.params.toList.all fun t=>P.readableRec t&&Nat.blt t P.types.size)=true) (hrt:fn.resultTypes = #[tb]) (hub:P.underlying tb=some .bool)
  {apart fresh GT again:Bool} (W:World) (base:Nat) (args:Array Value) (ds gs:List (DataW H)) (before:List MemPlace)
  (hval:∀(j:Nat) t v,fn.params[j]?=some t->args[j]?=some v->Value.okWide P W .any base t v)
  (hW:DataW.Whole enc P fn.params.toList s.vars apart W args.toList ds gs before)
  (Ay0:∀qs:List PV,Bd (WTv P) fn.params.toList qs->∃fu d,Ae C P fu d f qs=some ⟨[.sc (.bool true)],[]⟩) (hG:G.ok W)(hGY:∀b,G.bl b->b<W.heap.size):
  Calls P f args W fun e W'=>∃v,e=.returned v∧s.post enc P fn apart fresh GT again W args v W':=by
 have hW':=hW;obtain⟨p,q,hA,hV,rfl,U8,hnd⟩:=hW;rw[LF] at hV;obtain⟨rfl,rfl⟩:=trodVars_none hV;obtain⟨qs,h1,h2⟩:=BM Amo (fun j t v ht hv=>hval j t v (by simpa using ht) (by simpa using hv)) hA
 obtain⟨fu,d,hc⟩:=Ay0 qs h1;have hS:=(Hi Iw hm hx d f qs _ hc).2 W No LY args.toList (JW (fun b h=>h.elim) h2) hG (fun b hb=>⟨hGY b hb,Mz b⟩)
 rw[Array.toArray_toList] at hS;refine hS.mono fun e W' ⟨vs,own,he,ho⟩=>?_
 have hv:=ho.vals
 have Ob:vs=[.bool true]:=by
  match vs,hv with
  |[u],hv=>
   have:Ar W' _ (.sc (.bool true)) u:=hv.1;rw[this.val]
  |[],hv=>exact hv.elim
  |_::_::_,hv=>exact hv.2.elim
 subst Ob;subst he;have hb:Below W.heap.size W W':=⟨ho.os,ho.tape,ho.output,ho.ext.size,fun k hk=>ho.ext.keep k hk (Mz k)⟩
 have B6:∀x∈p,x.block<W.heap.size:=fun x hx=>hW'.lt x (by simpa using hx)
 have Db:ds.length=fn.params.size:=by
  have:∀{ts:List TypeId} {vs:List Value} {ds:List (DataW H)} {p:List MemPlace},DataW.TrodAll enc P W 0 (fun _=>true) true ts vs ds p->ds.length=ts.length:=by
   intro ts
   induction ts with
   |nil=>intro vs ds p h;cases vs<;>cases ds<;>first|rfl|cases h
   |cons t ts ih=>
    intro vs ds p h;cases vs with
    |nil=>cases h
    |cons v vs=>
     cases ds with
     |nil=>cases h
     |cons d ds=>obtain⟨_,_,_,h2,_⟩:=h;simp[ih h2]
  simpa using this hA
 have hsp:=Ar5 (ds++[]) (by simpa using Db)
 refine⟨_,rfl,BI (pa:=p) (pv:=[]) hW' ?_ ?_ ?_ rfl hb ?_⟩
 ·intro b sp hd;rw[hsp,hrt];exact trodAll_mk1 (shut_bool hub _)
 ·intro sp Aza;rw[hsp];simp only[List.append_nil];exact Q2 hl Aqb hA (fun x hx=>hb.same (B6 x hx)) (fun x hx=>Aza x (by simpa using hx))
 ·intro sp _;rw[hsp,LF];rfl
 ·exact ok_one hrt rfl (okWide_bool_mk hub _)
end
end
section
open Go.Proofs.Tryd (prog)
set_option maxRecDepth 100000
theorem Ac5 {d:Nat}{ps:List PV}{k:IntKind}{t e:TypeId}(hk:K5 prog t=.sl e)(hc:prog.cellsOf e=1)(he:K5 prog e=.int k)(h:WT prog d t ps):
  ∃l:List Int,ps=[.lst false 1 l.length (Ck k l)]∧l.length<=maxLen∧∀n∈l,(Lit.int k n).wf=true:=by
 obtain⟨rows,rfl,hl,hr⟩:=Aoj hk h;obtain⟨l,h1,h2,h3⟩:=Vw (Aio k) (fun n=>(Lit.int k n).wf=true) fun r hrr=>Ai4 he (hr r hrr).2
 refine⟨l,?_,by omega,h3⟩
 rw[h1,h2,hc]
theorem KV {p:PV}{k:IntKind}{t e:TypeId}(ha:Bx prog t=false)(hk:K5 prog t=.sl e)(hc:prog.cellsOf e=1)(he:K5 prog e=.int k)(h:WTv prog t p):
  ∃l:List Int,p=.lst false 1 l.length (Ck k l)∧l.length<=maxLen∧∀n∈l,(Lit.int k n).wf=true:=by
 have h':=SM (P:=prog) (t:=t) (p:=p) ha h;obtain⟨l,h1,h2,h3⟩:=Ac5 hk hc he h';exact⟨l,by injection h1,h2,h3⟩
end
section
open Go.IntKind (wrap)
theorem Dg:type_of% @Bool.not_true:=@Bool.not_true
theorem D3:type_of% @Bool.not_false:=@Bool.not_false
theorem Zzf:type_of% @List.take_of_length_le.{0}:=@List.take_of_length_le
theorem RS:type_of% @List.length_cons.{0}:=@List.length_cons
theorem N4:type_of% @Int.toNat_natCast:=@Int.toNat_natCast
theorem Dr:type_of% @if_neg.{1}:=@if_neg
theorem Ev:type_of% @if_pos.{1}:=@if_pos
theorem WO:type_of% @Bool.false_and:=@Bool.false_and
end
section
open Go.IntKind (wrap)
structure W4 where
 a:Int
 b:Int
 c:Int
 d:Int
def W4.cells (v:W4):List PV:=[.sc (.int .u64 v.a),.sc (.int .u64 v.b),.sc (.int .u64 v.c),.sc (.int .u64 v.d)]
def Dp (l:List Int):Prop:=∀b∈l,0<=b∧b<=255
theorem FM {a c:Int}(k b:Nat)(h0:0<=a)(h1:a<((2 ^ k:Nat):Int)) (hc:c=((b*2 ^ k:Nat):Int)) (h:a+c<=18446744073709551615):WI .u64 a c=a+c∧WI .u64 c a=a+c:=by
 obtain⟨n,rfl⟩:=Int.eq_ofNat_of_zero_le h0;subst hc;have hn:n<2 ^ k:=by omega
 generalize hB:b*2 ^ k=m at h
 have e4:(BitVec.ofInt 64 (n:Int)).toNat=n:=by
  rw[BitVec.toNat_ofInt];omega
 have e5:(BitVec.ofInt 64 (m:Int)).toNat=m:=by
  rw[BitVec.toNat_ofInt];omega
 have e6:m ||| n=m+n:=by
  have:=Nat.shiftLeft_add_eq_or_of_lt hn b;rw[Nat.shiftLeft_eq,hB] at this;exact this.symm
 constructor
 ·show wrap .u64 ((BitVec.ofInt 64 (n:Int) ||| BitVec.ofInt 64 (m:Int)).toNat:Int)=_;rw[BitVec.toNat_or,e4,e5,Nat.or_comm,e6,Ew (by omega) (by omega)]
  omega
 ·show wrap .u64 ((BitVec.ofInt 64 (m:Int) ||| BitVec.ofInt 64 (n:Int)).toNat:Int)=_;rw[BitVec.toNat_or,e4,e5,e6,Ew (by omega) (by omega)]
  omega
theorem FC {a k:Int}(h0:0<=a)(hk:0<=k)(Jf:k<=64)(h:a*((2 ^ k.toNat:Nat):Int)<=18446744073709551615):Le .u64 a k=a*((2 ^ k.toNat:Nat):Int):=by
 show wrap .u64 (a*2 ^ (min k.toNat IntKind.u64.bits))=_;have e:min k.toNat IntKind.u64.bits=k.toNat:=Nat.min_eq_left (by show k.toNat<=64;omega)
 have e2:(2:Int) ^ k.toNat=((2 ^ k.toNat:Nat):Int):=by simp
 rw[e,e2,Ew (Int.mul_nonneg h0 (Int.natCast_nonneg _)) h]
end
section
open Go.IntKind (wrap)
section
variable {fu d:Nat} {xs:FuncId->Option (List PV->Option Ay)}
theorem Dp.drop {l:List Int}(h:Dp l)(i:Nat):Dp (l.drop i):=fun x hx=>h x (List.mem_of_mem_drop hx)
theorem Dp.take {l:List Int}(h:Dp l)(i:Nat):Dp (l.take i):=fun x hx=>h x (List.mem_of_mem_take hx)
def Atq (l:List Int)(i k:Nat):Int:=if i+k<l.length then l.getD (i+k) 0 else if k=7 then (l.length:Int) % 256 else 0
def pc (l:List Int)(i:Nat):List Int:=(List.range 8).map (Atq l i)
end
end
section
open Go.IntKind (wrap)
def Ea (s:ByteArray):List Int:=s.data.toList.map fun b=>(b.toNat:Int)
def Ab (l:List Int):ByteArray:=⟨(l.map fun n=>n.toNat.toUInt8).toArray⟩
theorem Kp (s:ByteArray):(Ea s).length=s.size:=by
 unfold Ea;rw[List.length_map];rfl
theorem PG (s:ByteArray):Dp (Ea s):=by
 intro x hx;obtain⟨b,_,rfl⟩:=List.mem_map.1 hx;have:=b.toNat_lt;omega
theorem An (l:List Int):(Ab l).size=l.length:=by
 show (l.map fun n=>n.toNat.toUInt8).toArray.size=_
 simp
theorem Cq {l:List Int}(h:Dp l):Ea (Ab l)=l:=by
 unfold Ea Ab;simp only[List.map_map]
 have:∀l:List Int,Dp l->List.map ((fun b:UInt8=>(b.toNat:Int)) ∘ fun n:Int=>n.toNat.toUInt8) l=l:=by
  intro l
  induction l with
  |nil=>intro _;rfl
  |cons x l ih=>
   intro h;have hx:=h x (by simp)
   rw[List.map_cons,ih fun y hy=>h y (by simp[hy])]
   congr 1
   show ((x.toNat.toUInt8.toNat:Nat):Int)=x;rw[Nat.toUInt8,UInt8.toNat_ofNat'];omega
 exact this l h
theorem H0 (s:ByteArray):Ab (Ea s)=s:=by
 unfold Ab Ea;simp only[List.map_map]
 have:∀l:List UInt8,List.map ((fun n:Int=>n.toNat.toUInt8) ∘ fun b:UInt8=>(b.toNat:Int)) l=l:=by
  intro l
  induction l with
  |nil=>rfl
  |cons x l ih=>
   rw[List.map_cons,ih]
   congr 1
   show ((x.toNat:Int).toNat).toUInt8=x;rw[N4];simp
 rw[this]
theorem Vr:∀l:List Int,Gr (Ck .u8 l)=some (l.map fun n=>n.toNat.toUInt8)
 |[]=>rfl
 |x::l=>by
  show (Gr (Ck .u8 l)).map (x.toNat.toUInt8 :: ·)=_
  rw[Vr l];rfl
end
section
open Go.IntKind (wrap)
def E0 (v:Int):Int:=if v<26 then 65+v else if v<52 then 71+v else if v<62 then v-4 else if v<63 then 45 else 95
def Az (c:Int):Int:=if 65<=c∧c<=90 then c-65 else if 97<=c∧c<=122 then c-71 else if 48<=c∧c<=57 then c+4 else if c=45 then 62 else if c=95 then 63 else 64
theorem En {v:Int}(h0:0<=v)(h1:v<64):Az (E0 v)=v:=by
 unfold Az E0;split<;>split<;>(try split)<;>(try split)<;>(try split)<;>(try split)<;>(try split)<;>(try split)<;>omega
theorem J8 {c:Int}(h:Az c<64):E0 (Az c)=c:=by
 unfold Az at h ⊢;unfold E0;split at h<;>(try split at h)<;>(try split at h)<;>(try split at h)<;>(try split at h)<;>simp_all<;>(try split)<;>(try split)<;>(try split)<;>omega
theorem Fc (c:Int):0<=Az c∧Az c<=64:=by
 unfold Az;split
 ·omega
 split
 ·omega
 split
 ·omega
 split
 ·omega
 split<;>omega
def D8:List Int->List Int
 |[]=>[]
 |[a]=>[E0 (a / 4),E0 (a % 4*16)]
 |[a,b]=>[E0 (a / 4),E0 (a % 4*16+b / 16),E0 (b % 16*4)]
 |a::b::c::r=>E0 (a / 4)::E0 (a % 4*16+b / 16)::E0 (b % 16*4+c / 64)::E0 (c % 64)::D8 r
def G3:List Int->Option (List Int)
 |[]=>some []
 |[_]=>none
 |[p,q]=>if Az p<64∧Az q<64∧Az q % 16=0 then some [Az p*4+Az q / 16] else none
 |[p,q,r]=>if Az p<64∧Az q<64∧Az r<64∧Az r % 4=0 then some [Az p*4+Az q / 16,Az q % 16*16+Az r / 4] else none
 |p::q::r::s::t=>if Az p<64∧Az q<64∧Az r<64∧Az s<64 then (G3 t).map (fun l=>(Az p*4+Az q / 16)::(Az q % 16*16+Az r / 4)::(Az r % 4*64+Az s)::l) else none
theorem Be {a:Int}{l:List Int}(h:Dp (a::l)):(0<=a∧a<=255)∧Dp l:=⟨h a (by simp),fun x hx=>h x (by simp[hx])⟩
theorem QS:∀{l:List Int},Dp l->G3 (D8 l)=some l
 |[],_=>rfl
 |[a],h=>by
  obtain⟨ha,_⟩:=Be h;have e1:=En (v:=a / 4) (by omega) (by omega)
  have e2:=En (v:=a % 4*16) (by omega) (by omega)
  unfold D8 G3;rw[e1,e2,Ev (by omega)]
  congr 2
  omega
 |[a,b],h=>by
  obtain⟨ha,h⟩:=Be h;obtain⟨hb,_⟩:=Be h;have e1:=En (v:=a / 4) (by omega) (by omega)
  have e2:=En (v:=a % 4*16+b / 16) (by omega) (by omega)
  have e3:=En (v:=b % 16*4) (by omega) (by omega)
  unfold D8 G3;rw[e1,e2,e3,Ev (by omega)]
  congr 2
  ·omega
  ·congr 1;omega
 |a::b::c::r,h=>by
  obtain⟨ha,h⟩:=Be h;obtain⟨hb,h⟩:=Be h;obtain⟨hc,h⟩:=Be h;have e1:=En (v:=a / 4) (by omega) (by omega)
  have e2:=En (v:=a % 4*16+b / 16) (by omega) (by omega)
  have e3:=En (v:=b % 16*4+c / 64) (by omega) (by omega)
  have e4:=En (v:=c % 64) (by omega) (by omega)
  unfold D8 G3;rw[e1,e2,e3,e4,Ev (by omega),QS h]
  simp only[Option.map_some]
  congr 2
  ·omega
  ·congr 1
   ·omega
   ·congr 1;omega
theorem SL:∀{s l:List Int},G3 s=some l->D8 l=s∧Dp l
 |[],l,h=>by cases h;exact⟨rfl,fun x hx=>by cases hx⟩
 |[_],l,h=>by cases h
 |[p,q],l,h=>by
  unfold G3 at h;split at h
  ·rename_i hc;cases h;have np:=Fc p;have nq:=Fc q;refine⟨?_,fun x hx=>by simp at hx;subst hx;omega⟩
   unfold D8;rw[show (Az p*4+Az q / 16) / 4=Az p by omega,show (Az p*4+Az q / 16) % 4*16=Az q by omega,J8 hc.1,J8 hc.2.1]
  ·cases h
 |[p,q,r],l,h=>by
  unfold G3 at h;split at h
  ·rename_i hc;cases h;have np:=Fc p;have nq:=Fc q;have nr:=Fc r;refine⟨?_,fun x hx=>by simp at hx;rcases hx with rfl|rfl<;>omega⟩
   unfold D8
   rw[show (Az p*4+Az q / 16) / 4=Az p by omega,show (Az p*4+Az q / 16) % 4*16+(Az q % 16*16+Az r / 4) / 16=Az q by omega,
    show (Az q % 16*16+Az r / 4) % 16*4=Az r by omega,J8 hc.1,J8 hc.2.1,J8 hc.2.2.1]
  ·cases h
 |p::q::r::s::t,l,h=>by
  unfold G3 at h;split at h
  ·rename_i hc;cases ht:G3 t with
   |none=>rw[ht] at h;cases h
   |some l'=>
    rw[ht] at h;cases h;obtain⟨h1,h2⟩:=SL ht;have np:=Fc p;have nq:=Fc q;have nr:=Fc r;have ns:=Fc s;refine⟨?_,fun x hx=>?_⟩
    ·show D8 ((Az p*4+Az q / 16)::(Az q % 16*16+Az r / 4)::(Az r % 4*64+Az s)::l')=_;unfold D8
     rw[h1,show (Az p*4+Az q / 16) / 4=Az p by omega,show (Az p*4+Az q / 16) % 4*16+(Az q % 16*16+Az r / 4) / 16=Az q by omega,
      show (Az q % 16*16+Az r / 4) % 16*4+(Az r % 4*64+Az s) / 64=Az r by omega,show (Az r % 4*64+Az s) % 64=Az s by omega,J8 hc.1,J8 hc.2.1,J8 hc.2.2.1,J8 hc.2.2.2]
    ·simp only[List.mem_cons] at hx;rcases hx with rfl|rfl|rfl|hx
     ·omega
     ·omega
     ·omega
     ·exact h2 x hx
  ·cases h
def Jd:Int->Int->List Int->Option (List Int)
 |_,_,[]=>some []
 |n,bits,c::r=>if Az c>63 then none else
  if bits+6>=8 then (Jd ((n*64+Az c) % 65536) (bits-2) r).map (((n*64+Az c) % 65536 / 2 ^ (bits-2).toNat % 256) :: ·)
  else Jd ((n*64+Az c) % 65536) (bits+6) r
theorem RF:∀{l:List Int},Dp l->∀n:Int,0<=n->Jd n 0 (D8 l)=some l
 |[],_,n,_=>rfl
 |[a],h,n,hn=>by
  obtain⟨ha,_⟩:=Be h;have e1:=En (v:=a / 4) (by omega) (by omega)
  have e2:=En (v:=a % 4*16) (by omega) (by omega)
  unfold D8 Jd;rw[e1,Dr (by omega),Dr (by omega)]
  unfold Jd;rw[e2,Dr (by omega),Ev (by omega)]
  unfold Jd;rw[show (2:Int) ^ (0+6-2:Int).toNat=16 by decide]
  simp only[Option.map_some]
  congr 2
  omega
 |[a,b],h,n,hn=>by
  obtain⟨ha,h⟩:=Be h;obtain⟨hb,_⟩:=Be h;have e1:=En (v:=a / 4) (by omega) (by omega)
  have e2:=En (v:=a % 4*16+b / 16) (by omega) (by omega)
  have e3:=En (v:=b % 16*4) (by omega) (by omega)
  unfold D8 Jd;rw[e1,Dr (by omega),Dr (by omega)]
  unfold Jd;rw[e2,Dr (by omega),Ev (by omega)]
  unfold Jd;rw[e3,Dr (by omega),Ev (by omega)]
  unfold Jd;rw[show (2:Int) ^ (0+6-2:Int).toNat=16 by decide,show (2:Int) ^ (0+6-2-2:Int).toNat=4 by decide]
  simp only[Option.map_some]
  congr 2
  ·omega
  ·congr 1;omega
 |a::b::c::r,h,n,hn=>by
  obtain⟨ha,h⟩:=Be h;obtain⟨hb,h⟩:=Be h;obtain⟨hc,h⟩:=Be h;have e1:=En (v:=a / 4) (by omega) (by omega)
  have e2:=En (v:=a % 4*16+b / 16) (by omega) (by omega)
  have e3:=En (v:=b % 16*4+c / 64) (by omega) (by omega)
  have e4:=En (v:=c % 64) (by omega) (by omega)
  unfold D8 Jd;rw[e1,Dr (by omega),Dr (by omega)]
  unfold Jd;rw[e2,Dr (by omega),Ev (by omega)]
  unfold Jd;rw[e3,Dr (by omega),Ev (by omega)]
  unfold Jd;rw[e4,Dr (by omega),Ev (by omega)]
  rw[show (0+6-2-2-2:Int)=0 by decide]
  rw[show (2:Int) ^ (0+6-2:Int).toNat=16 by decide,show (2:Int) ^ (0+6-2-2:Int).toNat=4 by decide,show (2:Int) ^ (0:Int).toNat=1 by decide]
  rw[RF h _ (by omega)]
  simp only[Option.map_some]
  congr 2
  ·omega
  ·congr 1
   ·omega
   ·congr 1;omega
theorem SA:∀l:List Int,(D8 l).length=(4*l.length+2) / 3
 |[]=>rfl
 |[_]=>by simp[D8]
 |[_,_]=>by simp[D8]
 |a::b::c::r=>by
  show (D8 r).length+1+1+1+1=_;rw[SA r];simp only[RS];omega
end
section
open Go.IntKind (wrap)
def VL (c:Int):Bool:=c==32||c==9||c==10||c==13
def Bf:List Int->List Int
 |[]=>[]
 |c::r=>if VL c=true then Bf r else c::r
def NH (c:Int):Option Int:=if 48<=c∧c<=57 then some (c-48) else if 97<=c∧c<=102 then some (c-87) else if 65<=c∧c<=70 then some (c-55) else none
abbrev PR (α:Type):=Option α × List Int
def Qk:Nat->Int->List Int->PR Int
 |0,x,l=>(some x,l)
 |_+1,_,[]=>(none,[])
 |n+1,x,c::r=>match NH c with
  |some v=>Qk n (x*16+v) r
  |none=>(none,c::r)
def EY (x:Int):Bool:=decide (56320<=x)&&decide (x<=57343)
def QF (x:Int)(l:List Int):PR Int:=
 match Qk 4 0 l with
 |(some y,r)=>if EY y=true then (some (65536+(x-55296)*1024+(y-56320)),r) else (none,r)
 |(none,r)=>(none,r)
def XN:List Int->Bool
 |92::117::_=>true
 |_=>false
def Mi (l:List Int):PR Int:=
 match Qk 4 0 l with
 |(none,r)=>(none,r)
 |(some x,r)=>if EY x=true then (none,r) else if x<55296∨56319<x then (some x,r) else if XN r=true then QF x (r.drop 2) else (none,r)
def Rp (c:Int):Option Int:=if c=34∨c=92∨c=47 then some c else if c=98 then some 8 else if c=102 then some 12 else if c=110 then some 10 else if c=114 then some 13 else if c=116 then some 9 else none
def L1:List Int->PR Int
 |[]=>(none,[])
 |c::r=>if c=117 then Mi r else match Rp c with
  |some x=>(some x,r)
  |none=>(none,c::r)
def Jn:Nat->List Int->List Int->PR (List Int)
  |0,_,l=>(none,l)
  |_+1,_,[]=>(none,[])
  |n+1,out,c::r=>if c<32 then (none,c::r) else if c=34 then (some out,r) else if c=92 then
      (match L1 r with
       |(some x,r')=>Jn n (out++Lib.encodeRuneZ x) r'
       |(none,r')=>(none,r'))
    else Jn n (out++[c]) r
def Et:List Int->PR (List Int)
 |[]=>(none,[])
 |c::r=>if c=34 then Jn (r.length+1) [] r else (none,c::r)
def EI (l:List Int):Option (List Int × List Int):=match Et l with|(some s,r)=>some (s,r)|_=>none
def VV (c:Int):Bool:=decide (48<=c)&&decide (c<=57)
def Je:List Int->List Int
 |[]=>[]
 |c::r=>if VV c=true then Je r else c::r
def Ce:List Int->Option (List Int)
 |[]=>none
 |c::r=>if VV c=true then some (Je r) else none
def ZM (c:Int):List Int->List Int
 |[]=>[]
 |d::r=>if d=c then r else d::r
def Rq:List Int->Option (List Int)
 |[]=>some []
 |c::r=>if c=101∨c=69 then (match r with
   |43::r'=>Ce r'
   |r=>Ce (ZM 45 r)) else some (c::r)
def Xz:List Int->Option (List Int)
 |[]=>some []
 |c::r=>if c=46 then (Ce r).bind Rq else Rq (c::r)
def Aep:List Int->Option (List Int)
 |[]=>none
 |c::r=>if c=48 then some r else Ce (c::r)
def Ff (l:List Int):Option (List Int):=(Aep (ZM 45 l)).bind Xz
abbrev JV:=Int × List Int × Bool
abbrev JR (α:Type):=Except Int α
def HJ (V:List Int->JR (JV × List Int)):Nat->List Int->JR (List Int)
 |0,_=>.error 2
 |n+1,l=>match V l with
  |.error e=>.error e
  |.ok (_,r)=>match Bf r with
   |93::r'=>.ok r'
   |44::r'=>HJ V n (Bf r')
   |_=>.error 2
def VF (V:List Int->JR (JV × List Int)) (l:List Int):JR (List Int):=
 match Bf l with
 |93::r=>.ok r
 |l'=>HJ V (l'.length+1) l'
def Ajh (V:List Int->JR (JV × List Int)) (dup:List Int->Bool)(l:List Int):JR ((List Int × JV) × List Int):=
 match EI l with
 |none=>.error 2
 |some (nm,r)=>if dup nm=true then .error 10 else
  match Bf r with
  |58::r'=>(match V (Bf r') with
   |.error e=>.error e
   |.ok (v,r'')=>.ok ((nm,v),r''))
  |_=>.error 2
def Ql (V:List Int->JR (JV × List Int)) (kp:Bool):Nat->List (List Int × JV)->List Int->JR (List (List Int × JV) × List Int)
 |0,_,_=>.error 2
 |n+1,ms,l=>match Ajh V (fun nm=>kp&&ms.any fun m=>m.1==nm) l with
  |.error e=>.error e
  |.ok (m,r)=>match Bf r with
   |125::r'=>.ok (ms++[m],r')
   |44::r'=>Ql V kp n (ms++[m]) (Bf r')
   |_=>.error 2
def Ta (V:List Int->JR (JV × List Int)) (kp:Bool)(l:List Int):JR (List (List Int × JV) × List Int):=
 match Bf l with
 |125::r=>.ok ([],r)
 |l'=>Ql V kp (l'.length+1) [] l'
def Aq (w l:List Int):Option (List Int):=if w.isPrefixOf l=true then some (l.drop w.length) else none
def Fn:Nat->List Int->JR (JV × List Int)
 |k,l=>match l with
  |123::r=>(match k with
   |0=>.error 5
   |k+1=>(match Ta (Fn k) false r with
    |.error e=>.error e
    |.ok (_,r')=>.ok ((6,[],false),r')))
  |91::r=>(match k with
   |0=>.error 5
   |k+1=>(match VF (Fn k) r with
    |.error e=>.error e
    |.ok r'=>.ok ((5,[],false),r')))
  |34::r=>(match EI (34::r) with
   |none=>.error 2
   |some (s,r')=>.ok ((4,s,false),r'))
  |l=>match Aq [116,114,117,101] l with
   |some r=>.ok ((2,[],true),r)
   |none=>match Aq [102,97,108,115,101] l with
    |some r=>.ok ((2,[],false),r)
    |none=>match Aq [110,117,108,108] l with
     |some r=>.ok ((1,[],false),r)
     |none=>match Ff l with
      |some r=>.ok ((3,[],false),r)
      |none=>.error 2
def OC (k:Nat)(l:List Int):JR (List (List Int × JV)):=
 match Bf l with
 |123::r=>(match Ta (Fn k) true r with
  |.error e=>.error e
  |.ok (ms,r')=>if Bf r'=[] then .ok ms else .error 2)
 |_=>.error 2
end
section
open Go.IntKind (wrap)
def Zf:List PV->Option (List Int)
 |[]=>some []
 |.sc (.int .u8 n)::r=>bif decide (0<=n)&&decide (n<=255) then (Zf r).map (n :: ·) else none
 |_=>none
def Aa8 (args:List PV):Option Ay:=
 match args with
 |[.lst _ 1 n c]=>bif Nat.beq c.length n&&Nat.ble n 100000000 then (match Zf c with|some l=>some ⟨[.sc (.string (Ab (D8 l)))],[]⟩|none=>none) else none
 |_=>none
def Aap (args:List PV):Option Ay:=
  match args with
  |[.pbox [.sc (.string t),.sc (.int .i64 p)]]=>bif decide (0<=p)&&decide (p<=t.size)&&Nat.ble t.size 1000000 then
      (match Et ((Ea t).drop p.toNat) with
       |(some s,r)=>some ⟨[.sc (.string (Ab s)),.sc (.bool true)],[[.sc (.string t),.sc (.int .i64 (t.size-r.length:Int))]]⟩
       |(none,r)=>some ⟨[.sc (.string ⟨#[]⟩),.sc (.bool false)],[[.sc (.string t),.sc (.int .i64 (t.size-r.length:Int))]]⟩) else none
  |_=>none
def Aln (args:List PV):Option Ay:=
 match args with
 |[.sc (.string s),.sc (.int .u8 c)]=>some ⟨[.sc (.int .i64 (Lib.indexByte s.data.toList c.toNat.toUInt8))],[]⟩
 |_=>none
def Amf (args:List PV):Option Ay:=
 match args with
 |[.sc (.string s),.sc (.string p)]=>bif Nat.beq p.size 1 then some ⟨[.sc (.int .i64 (Lib.countByte s.data.toList p[0]!))],[]⟩ else none
 |_=>none
def LC (args:List PV):Option Ay:=
 match args with
 |[.sc (.string s),.sc (.string p)]=>bif Nat.ble p.size 1000&&p.data.toList.all (fun b=>decide (b.toNat<128))&&decide (s.size<=1000000000) then some ⟨[.sc (.string ⟨(Lib.trimS s.data.toList p.data.toList).toArray⟩)],[]⟩ else none
 |_=>none
def YD (f:FuncId):Option (List PV->Option Ay):=
 bif Nat.beq f 33 then some NX else
 bif Nat.beq f 40 then some Aln else
 bif Nat.beq f 99 then some Amf else
 bif Nat.beq f 66 then some LC else
 bif Nat.beq f 12 then some Aa8 else
 bif Nat.beq f 68 then some Aap else
 bif Nat.beq f 1000000 then some (fun _=>none) else none
def XK (p:Option (List PV->Option Ay)) (f:FuncId):Option (List PV->Option Ay):=bif Nat.beq f 19 then p else YD f
abbrev CP (p:Option (List PV->Option Ay)):F3:=CX (XK p)
abbrev C0:F3:=CP none
abbrev xs0:=XK none
end
section
open Go.IntKind (wrap)
open Go.RowKit
def Yf (p:PV)(u:Value):Prop:=p=.sc u∨∃vs:List Value,p=.agg (vs.map .sc)∧u=.agg ⟨vs⟩
theorem P3 {w:World}{A:Nat->Prop}{own:Bt}:∀{vs us:List Value}{j:Nat},Ec w A own j (vs.map .sc) us->us=vs
 |[],[],_,_=>rfl
 |[],_::_,_,h=>h.elim
 |_::_,[],_,h=>h.elim
 |v::vs,u::us,j,h=>by
  have h1:Ar w A (.sc v) u:=h.1;rw[h1.val,P3 h.2]
theorem Pr {w:World}{A:Nat->Prop}{own:Bt}:∀{vs:List Value}{j:Nat},Ec w A own j (vs.map .sc) vs
 |[],_=>trivial
 |v::vs,j=>⟨show Ar w A (.sc v) v from .sc v,Pr⟩
theorem Yk {w:World}{A:Nat->Prop}{own:Bt}{z:Nat}:∀{vals:List PV}{us us':List Value}{j:Nat},Bd Yf vals us->CK w A own z j vals us'->us'=us
 |[],[],[],_,_,_=>rfl
 |[],[],_::_,_,_,h=>h.elim
 |[],_::_,_,_,h,_=>h.elim
 |_::_,[],_,_,h,_=>h.elim
 |_::_,_::_,[],_,_,h=>h.elim
 |p::ps,u::us,u'::us',j,hs,h=>by
  rw[Yk hs.2 h.2]
  congr 1
  rcases hs.1 with rfl|⟨vs,rfl,rfl⟩
  ·exact Ar.val (show Ar w A (.sc u) u' from h.1)
  ·obtain⟨vs',rfl,h2⟩:=h.1;rw[P3 h2]
structure Ed (w w':World) (b o n:Nat):Prop where
 os:w'.os=w.os
 tape:w'.tape=w.tape
 output:w'.output=w.output
 size:w.heap.size<=w'.heap.size
 grow:Gi w w' b
 other:∀k,k<w.heap.size->k≠b->w'.heap[k]?=w.heap[k]?
 cells:∀j,(j<o∨o+n<=j)->w'.cell? ⟨b,j,none⟩=w.cell? ⟨b,j,none⟩
 frz:∀j,(j<o∨o+n<=j)->w'.frozen? ⟨b,j,none⟩=w.frozen? ⟨b,j,none⟩
def bt1 (b o:Nat):Tv:=fun i j=>match i,j with|0,0=>some (b,o)|_,_=>none
theorem Ab5 {b o k:Nat}(h:WG (bt1 b o) k):k=b:=by
 obtain⟨i,j,o',h⟩:=h;unfold bt1 at h;split at h
 ·cases h;rfl
 ·cases h
theorem S1 {w:World}{A:Nat->Prop}{bt:Tv}:∀{i:Nat}{ps:List PV}{us:List Value},Bd Yf ps us->Iy w A bt i ps us
 |_,[],[],_=>trivial
 |_,[],_::_,h=>h.elim
 |_,_::_,[],h=>h.elim
 |i,p::ps,u::us,h=>by
  refine⟨?_,S1 h.2⟩;rcases h.1 with rfl|⟨vs,rfl,rfl⟩
  ·exact⟨.inl trivial,show Ar w A (.sc u) u from .sc u⟩
  ·refine⟨vs,rfl,fun p hp=>?_,Pr⟩
   obtain⟨v,_,rfl⟩:=List.mem_map.1 hp;exact .inl trivial
theorem DG {G:Rs}{P:Program}{f:FuncId}{vs vs':List Value}{args vals:List PV}{us rs:List Value}(hs:C6 G P f (.pbox (vs.map .sc)::args) ⟨vals,[vs'.map .sc]⟩) (ha:Bd Yf args us)(hr:Bd Yf vals rs)
  {w:World} {b o:Nat} (hG:G.ok w) (hGl:∀k,G.bl k->k<w.heap.size∧k≠b) (hb:b<w.heap.size) (hc:∀j v,vs[j]?=some v->w.cell? ⟨b,o+j,none⟩=some v) (hf:∀j,j<vs.length->w.frozen? ⟨b,o+j,none⟩=false):
  Calls P f (.pointer (some ⟨b,o,none⟩)::us).toArray w fun e w'=>e=.returned (Gx rs)∧vs'.length=vs.length∧(∀j v,vs'[j]?=some v->w'.cell? ⟨b,o+j,none⟩=some v)∧(∀j,j<vs.length->w'.frozen? ⟨b,o+j,none⟩=false)∧Ed w w' b o vs.length:=by
 have hi:Ins w (fun _=>False) (bt1 b o) (.pbox (vs.map .sc)::args) (.pointer (some ⟨b,o,none⟩)::us):=by
  refine⟨fun _ h=>h.elim,fun _ h=>h.elim,fun k h=>by rw[Ab5 h];exact hb,fun i j i' j' k x x' h h'=>?_,fun i q h=>?_,?_,S1 ha⟩
  ·unfold bt1 at h h';split at h
   ·split at h'
    ·exact⟨rfl,rfl⟩
    ·cases h'
   ·cases h
  ·unfold bt1 at h;split at h
   ·exact⟨_,rfl,rfl⟩
   ·cases h
  ·refine⟨b,o,rfl,rfl,fun p hp=>?_,vs,Pr,hc,fun k hk=>hf k (by simpa using hk)⟩
   obtain⟨v,_,rfl⟩:=List.mem_map.1 hp;exact .inl trivial
 have Db:∀i,∀q,(bt1 b o) i 0=some q->i=0∧q=(b,o):=by
  intro i q h;unfold bt1 at h;split at h
  ·cases h;exact⟨rfl,rfl⟩
  ·cases h
 refine (hs.2 w _ _ _ hi hG (fun k hk=>⟨(hGl k hk).1,fun hx=>(hGl k hk).2 (Ab5 hx)⟩)).mono ?_
 rintro e w' ⟨ws,own,rfl,out⟩
 have hv:=Yk hr out.vals;subst hv;have ho:=out.outs;obtain⟨⟨b',o',h1,h2,zs,h3,h4,h5⟩,_⟩:=(show (∃b' o',(bt1 b o) 0 0=some (b',o')∧(vs'.map PV.sc).length=(vs.map PV.sc).length∧Abt w' (Yw (bt1 b o) own (fun _=>False)) own (Jm vals) b' o' (vs'.map .sc))∧_ from ho)
 cases h1;have hz:=P3 h3;subst hz;simp only[List.length_map] at h2 h5
 have hL:∀k j,k<w.heap.size->(k≠b∨j<o∨o+vs.length<=j)->¬Xi (bt1 b o) (.pbox (vs.map .sc)::args) k j:=by
  rintro k j hk Ek ⟨i,p,hp,hq⟩
  rcases hq with⟨x,y,hq,_⟩|⟨y,ps,hq,hy,Ia⟩
  ·unfold bt1 at hq;split at hq
   ·rename_i h;cases h
   ·cases hq
  ·obtain⟨rfl,h⟩:=Db i _ hq;cases h;have:p=.pbox (vs.map .sc):=by simpa using hp.symm
   subst this;rcases Ia with⟨e,B6⟩|e
   ·injection e with e;subst e;rw[List.length_map] at B6;rcases Ek with h|h|h
    ·exact h rfl
    ·omega
    ·omega
   ·cases e
 refine⟨rfl,h2,h4,fun j hj=>h5 j (by omega),out.os,out.tape,out.output,out.ext.size,out.ext.bs b hb,fun k hk Ek=>out.ext.keep k hk fun hx=>Ek (Ab5 hx),fun j hj=>(out.rng b j hb (hL b j hb (.inr hj))).1,fun j hj=>(out.rng b j hb (hL b j hb (.inr hj))).2⟩
end
section
open Go.IntKind (wrap)
open Go.RowKit
theorem Md {w w':World}{Y:Nat->Prop}{bt:Tv}{args:List PV}{v:Value}(hb:Below w.heap.size w w')(ho:Qt w' (Yw bt (fun _=>none) Y) (fun _=>none) bt (Jm [.sc v]) 0 args []):
  Out w w' Y bt args (fun _=>none) ⟨[.sc v],[]⟩ [v] where
 os:=hb.os
 tape:=hb.tape
 output:=hb.output
 ext:=⟨hb.size,fun b h _=>hb.block b h,fun b h=>Gi.same (hb.block b h)⟩
 rng:=fun b j h _=>⟨by unfold World.cell?;simp only[hb.block b h],by unfold World.frozen?;simp only[hb.block b h]⟩
 vals:=⟨Ar.sc v,trivial⟩
 outs:=ho
 fresh:=fun j b o h=>by cases h
 inj:=fun j j' b o o' h=>by cases h
end
section
open Go.Proofs.Tryd (prog)
open Go.IntKind (wrap)
set_option maxRecDepth 1000000
open Go.RowKit
theorem TL (G:Rs)(args:List PV)(res:Ay)(h:Aln args=some res):C6 G prog 40 args res:=by
 refine⟨⟨_,Tryd.func40,by kernel_rfl⟩,fun w Y bt us hi _ _=>?_⟩
 unfold Aln at h;split at h
 rotate_left
 ·cases h
 rename_i s c;cases h;have ps:=hi.args
 match us,ps with
 |[u1,u2],ps=>
  obtain⟨⟨_,p1⟩,⟨_,p2⟩,_⟩:=ps;have e1:u1=.string s:=Ar.val (show Ar w _ (.sc (.string s)) u1 from p1)
  have e2:u2=.int .u8 c:=Ar.val (show Ar w _ (.sc (.int .u8 c)) u2 from p2)
  subst e1 e2
  have walk:Calls prog 40 #[.string s,.int .u8 c] w fun e w'=>e=.returned (.int .i64 (Lib.indexByte s.data.toList c.toNat.toUInt8))∧w'=w:=by
   go_enter Tryd.func40,Tryd.ntmps40
   go_wp2
   rw[run_callFunc_extern Tryd.func55 (by kernel_rfl) (by kernel_rfl) (by kernel_rfl) (e:=Extern.BytealgIndexByte.indexByte) (by kernel_rfl),Lib.run_indexByteString]
   simp only[Result.andThen];rw[Oper.upon_value]
   go_wp2
   go_ret
   exact⟨rfl,rfl⟩
  refine walk.mono ?_
  rintro e w' ⟨rfl,rfl⟩
  exact⟨[.int .i64 (Lib.indexByte s.data.toList c.toNat.toUInt8)],fun _=>none,rfl,Md (Below.refl _ _) rfl⟩
 |[],ps=>exact ps.elim
 |[_],ps=>exact ps.2.elim
 |_::_::_::_,ps=>exact ps.2.2.elim
theorem Ab7 {p:ByteArray}(h:p.size=1):p=⟨#[p[0]!]⟩:=by
 obtain⟨⟨l⟩⟩:=p
 match l,h with
 |[x],_=>rfl
theorem VK (G:Rs)(args:List PV)(res:Ay)(h:Amf args=some res):C6 G prog 99 args res:=by
 refine⟨⟨_,Tryd.func99,by kernel_rfl⟩,fun w Y bt us hi _ _=>?_⟩
 unfold Amf at h;split at h
 rotate_left
 ·cases h
 rename_i s p;cases hq:Nat.beq p.size 1
 ·rw[hq] at h;cases h
 rw[hq,cond_true] at h;cases h;have hp:=Ab7 (Nat.eq_of_beq_eq_true hq);generalize (p[0]!)=c at hp ⊢;subst hp;have ps:=hi.args
 match us,ps with
 |[u1,u2],ps=>
  obtain⟨⟨_,p1⟩,⟨_,p2⟩,_⟩:=ps;have e1:u1=.string s:=Ar.val (show Ar w _ (.sc (.string s)) u1 from p1)
  have e2:u2=.string ⟨#[c]⟩:=Ar.val (show Ar w _ (.sc (.string ⟨#[c]⟩)) u2 from p2)
  subst e1 e2
  have walk:Calls prog 99 #[.string s,.string ⟨#[c]⟩] w fun e w'=>e=.returned (.int .i64 (Lib.countByte s.data.toList c))∧w'=w:=by
   go_enter Tryd.func99,Tryd.ntmps99
   go_wp2
   rw[run_callFunc_extern Tryd.func110 (by kernel_rfl) (by kernel_rfl) (by kernel_rfl) (e:=Extern.BytealgCount.count) (by kernel_rfl),Lib.run_countString]
   simp only[Result.andThen];rw[Oper.upon_value]
   go_wp2
   go_ret
   exact⟨rfl,rfl⟩
  refine walk.mono ?_
  rintro e w' ⟨rfl,rfl⟩
  exact⟨[.int .i64 (Lib.countByte s.data.toList c)],fun _=>none,rfl,Md (Below.refl _ _) rfl⟩
 |[],ps=>exact ps.elim
 |[_],ps=>exact ps.2.elim
 |_::_::_::_,ps=>exact ps.2.2.elim
end
end Go.Proofs.YtodnjibebeghjaaDoor.Pv
