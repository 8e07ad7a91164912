/-
  The proof of DataWritten, part 3.
-/
import Derived.Test.YtodnjibebeghjaaGreatDoorWB
import Derived.StillTail
import Derived.WalkKit
import Derived.ProofKit
import Derived.OpenShut
import Derived.ShutString
import Derived.ChangeOld
import Derived.Below
import Derived.Deep.Slices
import Derived.ChangeSame
import Derived.WideKeyArgs
import Derived.Carry
import Derived.Test.YtodnjibebeghjaaGreatDoorRows
set_option linter.unusedSimpArgs false
set_option linter.unusedVariables false
namespace Go.Proofs.YtodnjibebeghjaaGreatDoor.Pv
section
section
variable {R R':Type} {Rel:Option R->Option R'->Prop}
theorem Ia (hn:Rel none none){k:IntKind}{p:PV}{K:Int->Option R}{K':Int->Option R'}(hK:∀n,Rel (K n) (K' n)):Rel (Aj k p K) (Aj k p K'):=by
 unfold Aj;split
 ·split<;>first|exact hK _|exact hn
 ·exact hn
theorem D8 (hn:Rel none none){p:PV}{K:IntKind->Int->Option R}{K':IntKind->Int->Option R'}(hK:∀k n,Rel (K k n) (K' k n)):Rel (Ds p K) (Ds p K'):=by
 unfold Ds;split<;>first|exact hK _ _|exact hn
theorem Gn (hn:Rel none none){p:PV}{K:Bool->Option R}{K':Bool->Option R'}(hK:∀n,Rel (K n) (K' n)):Rel (Aq p K) (Aq p K'):=by
 unfold Aq;split<;>first|exact hK _|exact hn
theorem Fj (hn:Rel none none){p:PV}{K:ByteArray->Option R}{K':ByteArray->Option R'}(hK:∀n,Rel (K n) (K' n)):Rel (Ar p K) (Ar p K'):=by
 unfold Ar;split<;>first|exact hK _|exact hn
theorem Fm (hn:Rel none none){es:Nat}{p:PV}{K:Bool->Nat->List PV->Option R}{K':Bool->Nat->List PV->Option R'}(hK:∀z n c,Rel (K z n c) (K' z n c)):Rel (F1 es p K) (F1 es p K'):=by
 unfold F1;split
 ·rename_i es' _ _;cases Nat.beq es' es
  ·exact hn
  ·exact hK _ _ _
 ·exact hK _ _ _
 ·exact hn
theorem Arh (hn:Rel none none){es:Nat}{p:PV}{K:PV->Option R}{K':PV->Option R'}(hK:∀p,Rel (K p) (K' p)):Rel (fsK es p K) (fsK es p K'):=by
 unfold fsK;split
 ·rename_i es' _ _;cases Nat.beq es' es
  ·exact hn
  ·exact hK _
 ·exact Fm hn fun _ _ _=>hK _
theorem Ab7 (hn:Rel none none){es:Nat}{p:PV}{K:Nat->List PV->Option R}{K':Nat->List PV->Option R'}(hK:∀n c,Rel (K n c) (K' n c)):Rel (IU es p K) (IU es p K'):=by
 unfold IU;split
 ·rename_i es' _ _;cases Nat.beq es' es
  ·exact hn
  ·exact hK _ _
 ·exact hn
theorem A0 (hn:Rel none none){b:Bool}{K:Option R}{K':Option R'}(hK:b=true->Rel K K'):Rel (A2 b K) (A2 b K'):=by
 cases b
 ·exact hn
 ·exact hK rfl
theorem EK {b:Bool}{x y:Option R}{x' y':Option R'}(hx:Rel x x')(hy:Rel y y'):Rel (Ba b x y) (Ba b x' y'):=by
 cases b
 ·exact hy
 ·exact hx
theorem Dc (hn:Rel none none){α:Type}{o:Option α}{K:α->Option R}{K':α->Option R'}(hK:∀a,o=some a->Rel (K a) (K' a)):Rel (C5 o K) (C5 o K'):=by
 cases o
 ·exact hn
 ·exact hK _ rfl
theorem Bk (hn:Rel none none){α:Type}{l:List α}{K:α->List α->Option R}{K':α->List α->Option R'}(hK:∀a r,l=a::r->Rel (K a r) (K' a r)):Rel (Aa l K) (Aa l K'):=by
 cases l
 ·exact hn
 ·exact hK _ _ rfl
theorem E8 (hn:Rel none none){α:Type}{l:List α}{K:Option R}{K':Option R'}(hK:Rel K K'):Rel (Ad l K) (Ad l K'):=by
 cases l
 ·exact hK
 ·exact hn
theorem Jo (hn:Rel none none){p:PV}{K:List PV->Option R}{K':List PV->Option R'}(hK:∀c,p=.agg c->Rel (K c) (K' c)):Rel (F7 p K) (F7 p K'):=by
 unfold F7;split
 ·exact hK _ rfl
 ·exact hn
theorem Agi (hn:Rel none none){p:PV}{K:List PV->Option R}{K':List PV->Option R'}(hK:∀c,Rel (K c) (K' c)):Rel (Sn p K) (Sn p K'):=by
 unfold Sn;split
 ·exact hK _
 ·exact hn
theorem KL (hn:Rel none none){r:Option Ap}{K:List PV->List (List PV)->Option R} {K':List PV->List (List PV)->Option R'} (hK:∀v o,Rel (K v o) (K' v o)):Rel (Ah r K) (Ah r K'):=by
 unfold Ah;split
 ·exact hK _ _
 ·exact hn
theorem Ab1 (hn:Rel none none){p:PV}{K:Value->Option R}{K':Value->Option R'}(hK:∀v,Rel (K v) (K' v)):Rel (fnK p K) (fnK p K'):=by
 unfold fnK;split
 ·exact hK _
 ·exact hK _
 ·exact hn
theorem Aoy (hn:Rel none none){p:PV}{K:FuncId->Option R}{K':FuncId->Option R'}(hK:∀v,Rel (K v) (K' v)):Rel (fvK p K) (fvK p K'):=by
 unfold fvK;split
 ·rename_i f a b;cases (a.isEmpty&&b.isEmpty)
  ·exact hn
  ·exact hK _
 ·exact hn
theorem Ox (hn:Rel none none){t:CT}{p:PV}{K:PV->Option R}{K':PV->Option R'}(hK:∀p,Rel (K p) (K' p)):Rel (BG t p K) (BG t p K'):=by
 unfold BG;split
 ·exact Ia hn fun _=>hK _
 ·exact Gn hn fun _=>hK _
 ·exact Fj hn fun _=>hK _
 ·exact Fm hn fun _ _ _=>hK _
 ·exact Ab1 hn fun _=>hK _
theorem Arc (hn:Rel none none){t:CT}{p:PV}{K:PV->Option R}{K':PV->Option R'}(hK:∀p,Rel (K p) (K' p)):Rel (fcK t p K) (fcK t p K'):=by
 unfold fcK;split
 ·exact Arh hn hK
 ·exact Ox hn hK
theorem Ql (hn:Rel none none):∀{ts:List CT}{cells:List PV}{off:Nat}{K:List PV->Option R}{K':List PV->Option R'},(∀c,Rel (K c) (K' c))->Rel (R7 ts cells off K) (R7 ts cells off K')
 |[],_,_,_,_,hK=>hK _
 |_::_,_,_,_,_,hK=>Ox hn fun _=>Ql hn fun _=>hK _
theorem M5 (hn:Rel none none):∀{ts:List CT}{cells:List PV}{off:Nat}{K:List PV->Option R}{K':List PV->Option R'},(∀c,Rel (K c) (K' c))->Rel (Od ts cells off K) (Od ts cells off K')
 |[],_,_,_,_,hK=>hK _
 |_::_,_,_,_,_,hK=>Arc hn fun _=>M5 hn fun _=>hK _
theorem Xo (hn:Rel none none){g:Bool}{cells:List PV}{K:PV->Option R}{K':PV->Option R'}(hK:∀p,Rel (K p) (K' p)):Rel (mkV g cells K) (mkV g cells K'):=by
 cases g
 ·exact Bk hn fun _ _ _=>E8 hn (hK _)
 ·exact hK _
theorem Acj (hn:Rel none none){P:Program}{t:TypeId}{v:Value}{K:PV->Option R}{K':PV->Option R'}(hK:∀p,Bx p=[]->Rel (K p) (K' p)) (hK':∀c,Rel (K (.agg c)) (K' (.agg c))):Rel (cvK P t v K) (cvK P t v K'):=by
 unfold cvK;split
 ·exact A0 hn fun _=>Ql hn fun _=>hK' _
 ·split
  ·exact hK _ rfl
  ·exact hn
 ·exact hK _ rfl
theorem Akf (hn:Rel none none){op:BinOp}{x y:Int}{K:Bool->Option R}{K':Bool->Option R'}(hK:∀n,Rel (K n) (K' n)):Rel (Ans op x y K) (Ans op x y K'):=by
 unfold Ans;split<;>first|exact hK _|exact hn
theorem YE (hn:Rel none none){op:BinOp}{k:IntKind}{x y:Int}{K:PV->Option R}{K':PV->Option R'}(hK:∀n,Rel (K n) (K' n)):Rel (IG op k x y K) (IG op k x y K'):=by
 unfold IG;split<;>first|exact hK _|exact A0 hn fun _=>hK _|exact Akf hn fun _=>hK _
theorem YR (hn:Rel none none){op:BinOp}{x y:ByteArray}{K:PV->Option R}{K':PV->Option R'}(hK:∀n,Rel (K n) (K' n)):Rel (HF op x y K) (HF op x y K'):=by
 unfold HF;split<;>first|exact hK _|exact A0 hn fun _=>hK _|exact hn
theorem LP (hn:Rel none none){e:Bool}{p:PV}{K:PV->Option R}{K':PV->Option R'}(hK:∀n,Rel (K n) (K' n)):Rel (IB e p K) (IB e p K'):=by
 unfold IB;split<;>first|exact hK _|exact EK (hK _) (EK (hK _) (hK _))|exact EK (hK _) (hK _)|exact hn
theorem VU (hn:Rel none none):∀{ts:List CT}{ps qs:List PV}{K:Bool->Option R}{K':Bool->Option R'},(∀b,Rel (K b) (K' b))->Rel (Kz ts ps qs K) (Kz ts ps qs K'):=by
 intro ts
 induction ts with
 |nil=>
  intro ps qs K K' hK;cases ps<;>cases qs<;>first|exact hK _|exact hn
 |cons t ts ih=>
  intro ps qs K K' hK;cases ps with
  |nil=>cases t<;>cases qs<;>exact hn
  |cons p ps=>
   cases qs with
   |nil=>cases t<;>exact hn
   |cons q qs=>
    cases t
    ·exact Ia hn fun _=>Ia hn fun _=>ih fun _=>hK _
    ·exact Gn hn fun _=>Gn hn fun _=>ih fun _=>hK _
    ·exact Fj hn fun _=>Fj hn fun _=>ih fun _=>hK _
    ·exact hn
    ·exact hn
theorem Aj3 (hn:Rel none none){P:Program}{op:BinOp}{t:TypeId}{x y:PV}{K:PV->Option R}{K':PV->Option R'}(hK:∀p,Rel (K p) (K' p)):Rel (Amm P op t x y K) (Amm P op t x y K'):=by
 unfold Amm;split
 ·split
  ·exact Ia hn fun _=>D8 hn fun _ _=>A0 hn fun _=>hK _
  ·exact Ia hn fun _=>D8 hn fun _ _=>A0 hn fun _=>hK _
  ·exact Ia hn fun _=>Ia hn fun _=>YE hn hK
 ·exact Fj hn fun _=>Fj hn fun _=>YR hn hK
 ·split
  ·exact Gn hn fun _=>Gn hn fun _=>hK _
  ·exact Gn hn fun _=>Gn hn fun _=>hK _
  ·exact hn
 ·split
  ·exact LP hn fun _=>hK _
  ·exact LP hn fun _=>hK _
  ·exact hn
 ·split
  ·exact hK _
  ·exact hK _
  ·exact hn
 ·exact hn
theorem UN (hn:Rel none none){P:Program}{op:BinOp}{t:TypeId}{x y:PV}{K:PV->Option R}{K':PV->Option R'}(hK:∀p,Rel (K p) (K' p)):Rel (Ug P op t x y K) (Ug P op t x y K'):=by
 unfold Ug;split
 ·split
  ·exact A0 hn fun _=>Jo hn fun _ _=>Jo hn fun _ _=>VU hn fun _=>hK _
  ·exact A0 hn fun _=>Jo hn fun _ _=>Jo hn fun _ _=>VU hn fun _=>hK _
  ·exact hn
 ·exact Aj3 hn hK
theorem Ao3 (hn:Rel none none){op:UnOp}{x:PV}{K:PV->Option R}{K':PV->Option R'}(hK:∀p,Rel (K p) (K' p)):Rel (unK op x K) (unK op x K'):=by
 unfold unK;split<;>first|exact Gn hn fun _=>hK _|exact D8 hn fun _ _=>hK _|exact hn
theorem D4 (hn:Rel none none){p:Option PV}{d:Nat}{K:Nat->Option R}{K':Nat->Option R'}(hK:∀n,Rel (K n) (K' n)):Rel (Gr p d K) (Gr p d K'):=by
 unfold Gr;split
 ·exact hK _
 ·exact D8 hn fun _ _=>A0 hn fun _=>hK _
theorem Z6 (hn:Rel none none){x:PV}{d:Nat}{K:PV->Option R}{K':PV->Option R'}(hK:∀n,Rel (K n) (K' n)):Rel (Tk x d K) (Tk x d K'):=by
 unfold Tk;split<;>first|exact hK _|exact hn
theorem IL (hn:Rel none none){P:Program}{t:TypeId}{x:PV}{i:Int}{K:PV->Option R}{K':PV->Option R'}(hK:∀p,Rel (K p) (K' p)):Rel (Kc P t x i K) (Kc P t x i K'):=by
 unfold Kc;split
 ·exact A0 hn fun _=>A0 hn fun _=>Z6 hn hK
 ·refine A0 hn fun _=>?_
  split
  ·exact A0 hn fun _=>A0 hn fun _=>hK _
  ·exact Fm hn fun _ _ _=>A0 hn fun _=>hK _
 ·exact hn
theorem Zr (hn:Rel none none){Gu:Nat->Option (Nat × Nat)}:∀{ps:List (Nat × PV)} {cells:List PV}{K:List PV->Option R}{K':List PV->Option R'},(∀c,Rel (K c) (K' c))->Rel (Sy Gu ps cells K) (Sy Gu ps cells K')
 |[],_,_,_,hK=>hK _
 |(_,_)::_,_,_,_,hK=>Dc hn fun _ _=>A0 hn fun _=>Zr hn hK
theorem Sm (hn:Rel none none){P:Program}{t:TypeId}{K:List PV->Option R}{K':List PV->Option R'}(hK:∀p,Rel (K p) (K' p)):Rel (Gv P t K) (Gv P t K'):=
 Dc hn fun _ _=>A0 hn fun _=>Ql hn hK
theorem Ai0 (hn:Rel none none){x y:PV}{K:PV->Option R}{K':PV->Option R'}(hK:∀p,Rel (K p) (K' p)):Rel (An3 x y K) (An3 x y K'):=
 D8 hn fun _ _=>Ia hn fun _=>hK _
theorem Ahp (hn:Rel none none){x y:PV}{K:PV->Option R}{K':PV->Option R'}(hK:∀p,Rel (K p) (K' p)):Rel (An4 x y K) (An4 x y K'):=
 D8 hn fun _ _=>Ia hn fun _=>hK _
theorem Ajc (hn:Rel none none){P:Program}{t:TypeId}{x:PV}{K:Nat->Option R}{K':Nat->Option R'}(hK:∀p,Rel (K p) (K' p)):Rel (Af2 P t x K) (Af2 P t x K'):=by
 unfold Af2;split
 ·exact Fj hn fun _=>hK _
 ·exact hK _
 ·split
  ·exact A0 hn fun _=>hK _
  ·exact Fm hn fun _ _ _=>hK _
 ·exact hn
def QR (Rel:Option R->Option R'->Prop)(f f':Nat->Option (List PV)) (l:List Nat):Prop:=∀i∈l,f i=f' i∨(f i=none∧∀b,Rel none b)
variable {f f':Nat->Option (List PV)}
theorem QR.sub {l l':List Nat}(h:QR Rel f f' l)(hs:∀i∈l',i∈l):QR Rel f f' l':=fun i hi=>h i (hs i hi)
theorem Yu (hn:Rel none none){l:List Nat}{id:Nat}(hf:QR Rel f f' l)(hi:id∈l){K:List PV->Option R}{K':List PV->Option R'}(hK:∀c,f id=some c->Rel (K c) (K' c)):Rel (C5 (f id) K) (C5 (f' id) K'):=by
 rcases hf id hi with h|⟨h,hb⟩
 ·rw[←h];exact Dc hn hK
 ·rw[h];exact hb _
theorem Pz (hn:Rel none none){es:Nat}{p:PV}{K:Nat->List PV->Option R}{K':Nat->List PV->Option R'}(hf:QR Rel f f' (As p)) (hK:∀n c,Rel (K n c) (K' n c)):Rel (RO f es p K) (RO f' es p K'):=by
 unfold RO;split
 ·rename_i id es' off n;cases Nat.beq es' es
  ·exact hn
  ·exact Yu hn hf (by simp[As]) fun _ _=>A0 hn fun _=>hK _ _
 ·exact Fm hn fun _ _ _=>hK _ _
theorem Amq (hn:Rel none none){t:CT}{p:PV}{K:PV->List Nat->Option R}{K':PV->List Nat->Option R'}(hf:QR Rel f f' (As p)) (hK:∀c m,(∀i∈m,f i≠none)->Rel (K c m) (K' c m)):Rel (Oc f t p K) (Oc f' t p K'):=by
 unfold Oc;split
 ·split
  ·rename_i id es' off n;cases Nat.beq es' _
   ·exact hn
   ·exact Yu hn hf (by simp[As]) fun c hc=>A0 hn fun _=>hK _ _ (by simp[hc])
  ·exact Fm hn fun _ _ _=>hK _ _ (by simp)
 ·exact Ox hn fun _=>hK _ _ (by simp)
theorem Tu (hn:Rel none none):∀{ts:List CT}{ps:List PV}{K:List PV->List Nat->Option R}{K':List PV->List Nat->Option R'},QR Rel f f' (ps.flatMap As)->(∀c m,(∀i∈m,f i≠none)->Rel (K c m) (K' c m))->Rel (Ni f ts ps K) (Ni f' ts ps K')
 |[],[],_,_,_,hK=>hK _ _ (by simp)
 |[],_::_,_,_,_,_=>hn
 |_::_,[],_,_,_,_=>hn
 |_::_,p::ps,_,_,hf,hK=>Amq hn (fun i hi=>hf i (by simp only[List.flatMap_cons,List.mem_append];exact .inl hi)) fun _ m hm=>Tu hn (fun i hi=>hf i (by simp only[List.flatMap_cons,List.mem_append];exact .inr hi)) fun _ ms GP=>hK _ _ fun i hi=>by
   rcases List.mem_append.1 hi with h|h
   ·exact hm i h
   ·exact GP i h
theorem Akd (hn:Rel none none){P:Program}{t:TypeId}{p:PV}{K:PV->List Nat->Option R}{K':PV->List Nat->Option R'}(hf:QR Rel f f' (Cf p)) (hK:∀c m,(∀i∈m,f i≠none)->Rel (K c m) (K' c m)):Rel (YM P f t p K) (YM P f' t p K'):=by
 unfold YM
 have h1:∀i,i∈[p].flatMap As->i∈Cf p:=by
  intro i hi;simp only[List.flatMap_cons,List.flatMap_nil,List.append_nil] at hi;cases p<;>first|exact hi|simp[As] at hi
 cases B9 P t
 ·exact Tu hn (fun i hi=>hf i (h1 i hi)) fun _ _ hm=>Bk hn fun _ _ _=>E8 hn (hK _ _ hm)
 ·refine Jo hn fun c hc=>?_
  subst hc;exact Tu hn (fun i hi=>hf i hi) fun _ _ hm=>hK _ _ hm
theorem MS (hn:Rel none none){P:Program}:∀{ts:List TypeId}{ps:List PV}{K:List PV->List Nat->Option R}{K':List PV->List Nat->Option R'},QR Rel f f' (ps.flatMap Cf)->(∀c m,(∀i∈m,f i≠none)->Rel (K c m) (K' c m))->Rel (HI P f ts ps K) (HI P f' ts ps K')
 |[],[],_,_,_,hK=>hK _ _ (by simp)
 |[],_::_,_,_,_,_=>hn
 |_::_,[],_,_,_,_=>hn
 |_::_,p::ps,_,_,hf,hK=>Akd hn (fun i hi=>hf i (by simp only[List.flatMap_cons,List.mem_append];exact .inl hi)) fun _ m hm=>MS hn (fun i hi=>hf i (by simp only[List.flatMap_cons,List.mem_append];exact .inr hi)) fun _ ms GP=>hK _ _ fun i hi=>by
   rcases List.mem_append.1 hi with h|h
   ·exact hm i h
   ·exact GP i h
theorem ZO (hn:Rel none none){P:Program}{t:TypeId}{x:PV}{lo hi:Option PV}{K:PV->Option R}{K':PV->Option R'}(hf:(∃n e,P.underlying t=some (.array n e))->QR Rel f f' (As x)) (hK:∀c,Rel (K c) (K' c)):Rel (AE P f t x lo hi K) (AE P f' t x lo hi K'):=by
 unfold AE;split
 ·exact Fj hn fun _=>D4 hn fun _=>D4 hn fun _=>A0 hn fun _=>hK _
 ·refine A0 hn fun _=>?_
  split
  ·exact A0 hn fun _=>D4 hn fun _=>D4 hn fun _=>A0 hn fun _=>hK _
  ·exact Fm hn fun _ _ _=>D4 hn fun _=>D4 hn fun _=>A0 hn fun _=>hK _
 ·rename_i n e hu;refine A0 hn fun _=>?_
  split
  ·rename_i id off;exact Yu hn (hf ⟨_,_,hu⟩) (by simp[As]) fun _ _=>A0 hn fun _=>D4 hn fun _=>D4 hn fun _=>A0 hn fun _=>hK _
  ·exact hn
 ·exact hn
theorem SI (hn:Rel none none){P:Program}{d:Nat}{t:TypeId}{x:PV}{lo hi mx:Option PV}{K:PV->List (Nat × Bs)->Option R} {K':PV->List (Nat × Bs)->Option R'} (hK:∀c,Rel (K c [(d,.ar false [])]) (K' c [(d,.ar false [])])):Rel (Ua P d t x lo hi mx K) (Ua P d t x lo hi mx K'):=by
 unfold Ua;split
 ·refine A0 hn fun _=>?_
  split
  ·exact A0 hn fun _=>D4 hn fun _=>D4 hn fun _=>D4 hn fun _=>A0 hn fun _=>hK _
  ·exact Fm hn fun _ _ _=>D4 hn fun _=>D4 hn fun _=>D4 hn fun _=>A0 hn fun _=>hK _
 ·exact hn
theorem MO {nz:Bool}{g g':Nat->Option (List PV)} (hn:Rel none none){P:Program}{t:TypeId}{x:PV}{K:PV->Option R}{K':PV->Option R'}(hf:∀i∈As x,(f i=f' i∧g i=g' i)∨(f i=none∧g i=none∧∀b,Rel none b)) (hK:∀c,Rel (K c) (K' c)):Rel (Y4 nz P f g t x K) (Y4 nz P f' g' t x K'):=by
 unfold Y4;split
 ·rename_i id off;refine A0 hn fun _=>?_
  rcases hf id (by simp[As]) with⟨h1,h2⟩|⟨h1,h2,h3⟩
  ·rw[←h1,←h2];split
   ·exact Ql hn fun _=>Xo hn fun _=>hK _
   ·exact Dc hn fun _ _=>M5 hn fun _=>Xo hn hK
  ·rw[h1,h2];exact h3 _
 ·exact A0 hn fun _=>Ql hn fun _=>Xo hn fun _=>hK _
 ·exact hn
theorem Afv (hn:Rel none none){P:Program}{d:Nat}{src dst:TypeId}{x:PV}{K:PV->List (Nat × Bs)->Option R} {K':PV->List (Nat × Bs)->Option R'} (hf:P.underlying dst=some .string->QR Rel f f' (As x)) (hK:∀v b,(∀q∈b,q.1=d)->Rel (K v b) (K' v b)):Rel (HZ P f d src dst x K) (HZ P f' d src dst x K'):=by
 unfold HZ;split
 ·exact A0 hn fun _=>D8 hn fun _ _=>hK _ _ (by simp)
 ·rename_i hds;split
  ·exact Fj hn fun _=>hK _ _ (by simp)
  ·split
   ·exact Pz hn (hf hds) fun _ _=>A0 hn fun _=>Dc hn fun _ _=>hK _ _ (by simp)
   ·exact Pz hn (hf hds) fun _ _=>A0 hn fun _=>Dc hn fun _ _=>hK _ _ (by simp)
   ·exact hn
  ·exact hn
 ·split
  ·exact Fj hn fun _=>A0 hn fun _=>hK _ _ (by simp)
  ·exact hn
 ·exact hn
theorem Ali (hn:Rel none none){shr:Bool}{id:Nat}{t:CT}{p:PV}{K:PV->List (Nat × Bs)->Option R} {K':PV->List (Nat × Bs)->Option R'} (hK:∀c b,(∀q∈b,q.1=id)->Rel (K c b) (K' c b)):Rel (Ahz shr id t p K) (Ahz shr id t p K'):=by
 unfold Ahz;split
 ·cases shr
  ·exact Ab7 hn fun _ _=>hK _ _ (by simp)
  ·exact Fm hn fun _ _ _=>hK _ _ (by simp)
 ·exact Ox hn fun _=>hK _ _ (by simp)
theorem Uh (hn:Rel none none){shr:Bool}{N:Nat}:∀{ts:List CT}{id:Nat}{ps:List PV}{K:List PV->List (Nat × Bs)->Option R} {K':List PV->List (Nat × Bs)->Option R'},(∀c b,(∀q∈b,∃j,q.1=id+N*j)->Rel (K c b) (K' c b))->Rel (Qa shr N id ts ps K) (Qa shr N id ts ps K')
 |[],_,_,_,_,hK=>E8 hn (hK _ _ (by simp))
 |_::_,id,_,_,_,hK=>Bk hn fun _ _ _=>Ali hn fun _ b hb=>Uh hn fun _ bs KC=>hK _ _ fun q hq=>by
   rcases List.mem_append.1 hq with h|h
   ·exact⟨0,by rw[hb q h];simp⟩
   ·obtain⟨j,hj⟩:=KC q h;exact⟨j+1,by rw[hj,Nat.mul_add];omega⟩
theorem Ah5 (hn:Rel none none){P:Program}{shr:Bool}{N id:Nat}{t:TypeId}{p:PV}{K:PV->List (Nat × Bs)->Option R} {K':PV->List (Nat × Bs)->Option R'} (hK:∀c b,(∀q∈b,∃j,q.1=id+N*j)->Rel (K c b) (K' c b)):Rel (Aez P shr N id t p K) (Aez P shr N id t p K'):=by
 unfold Aez;split
 ·refine Agi hn fun ps=>Uh hn fun _ _ hb=>hK _ _ fun q hq=>?_
  rcases List.mem_cons.1 hq with rfl|hq
  ·exact⟨0,by simp⟩
  ·obtain⟨j,hj⟩:=hb q hq;exact⟨j+1,by rw[hj,Nat.mul_add];omega⟩
 cases B9 P t
 ·exact Uh hn fun _ _ hb=>Bk hn fun _ _ _=>E8 hn (hK _ _ hb)
 ·exact Jo hn fun _ _=>Uh hn fun _ _ hb=>hK _ _ hb
theorem Zt (hn:Rel none none){P:Program}{shr:Bool}{N:Nat}:∀{ts:List TypeId}{id:Nat}{ps:List PV}{K:List PV->List (Nat × Bs)->Option R} {K':List PV->List (Nat × Bs)->Option R'},(∀c b,(∀q∈b,∃j,q.1=id+N*j)->Rel (K c b) (K' c b))->Rel (BN P shr N id ts ps K) (BN P shr N id ts ps K')
 |[],_,_,_,_,hK=>E8 hn (hK _ _ (by simp))
 |t::_,id,_,_,_,hK=>Bk hn fun _ _ _=>Ah5 hn fun _ b hb=>Zt hn fun _ bs KC=>hK _ _ fun q hq=>by
   rcases List.mem_append.1 hq with h|h
   ·exact hb q h
   ·obtain⟨j,hj⟩:=KC q h;exact⟨UC P t+j,by rw[hj,Nat.mul_add];omega⟩
end
theorem Sl {p:PV}{i:Nat}(h:i∈As p):i∈Cf p:=by cases p<;>first|exact h|simp[As] at h
theorem Fs {p:PV}{i:Nat}(h:i∈Cf p):i∈Bx p:=by cases p<;>first|exact h|simp[Cf,As] at h
theorem Kd {p:PV}{i:Nat}(h:i∈As p):i∈Bx p:=Fs (Sl h)
section
variable {R R':Type} {Rel:Option R->Option R'->Prop} {P:Program} {N:Nat} {tm tm':Nat->PV} {f f' g g':Nat->Option (List PV)} {o:Oper}
theorem GY (hn:Rel none none){t:TypeId}{x:Operand}{K:PV->Option R}{K':PV->Option R'}(hx:B3 tm x=B3 tm' x)(hK:∀p,Rel (K p) (K' p)):Rel (Z4 P t tm x K) (Z4 P t tm' x K'):=by
 unfold Z4;split
 ·exact Acj hn (fun _ _=>hK _) (fun _=>hK _)
 ·rw[hx];exact hK _
theorem Ak7 (hn:Rel none none){t:CT}{p:PV}{K:PV->Option R}{K':PV->Option R'}(hK:∀p,As p=[]->Rel (K p) (K' p)):Rel (BG t p K) (BG t p K'):=by
 unfold BG;split
 ·exact Ia hn fun _=>hK _ rfl
 ·exact Gn hn fun _=>hK _ rfl
 ·exact Fj hn fun _=>hK _ rfl
 ·exact Fm hn fun _ _ _=>hK _ rfl
 ·exact Ab1 hn fun _=>hK _ rfl
theorem KI (hn:Rel none none):∀{ts:List CT}{cells:List PV}{off:Nat}{K:List PV->Option R}{K':List PV->Option R'},(∀c,(∀p∈c,As p=[])->Rel (K c) (K' c))->Rel (R7 ts cells off K) (R7 ts cells off K')
 |[],_,_,_,_,hK=>hK _ (by simp)
 |_::_,_,_,_,_,hK=>Ak7 hn fun c hc=>KI hn fun cs EN=>hK _ (by
   intro p hp;rcases List.mem_cons.1 hp with h|h
   ·rw[h];exact hc
   ·exact EN p h)
theorem Yv (hn:Rel none none){t:TypeId}{K:List PV->Option R}{K':List PV->Option R'}(hK:∀c,(∀p∈c,As p=[])->Rel (K c) (K' c)):Rel (Gv P t K) (Gv P t K'):=
 Dc hn fun _ _=>A0 hn fun _=>KI hn hK
theorem Th {p c:PV}(h:c∈cellsOf p){i:Nat}(hi:i∈As c):i∈Cf p:=by
 unfold cellsOf at h;split at h
 ·exact List.mem_flatMap.2 ⟨c,h,hi⟩
 ·simp at h;subst h;exact Sl hi
theorem Aai {cells new:List PV}{off:Nat}{c:PV}(h:c∈Ca cells new off):c∈cells∨c∈new:=by
 unfold Ca at h;rcases List.mem_append.1 h with h|h
 ·rcases List.mem_append.1 h with h|h
  ·exact .inl (List.mem_of_mem_take h)
  ·exact .inr h
 ·exact .inl (List.mem_of_mem_drop h)
theorem HO (hn:Rel none none){Gu:Nat->Option (Nat × Nat)} {S:Nat->Prop}:∀{ps:List (Nat × PV)} {cells:List PV}{K:List PV->Option R}{K':List PV->Option R'},(∀c∈cells,∀i∈As c,S i)->(∀q∈ps,∀i∈Cf q.2,S i) ->
  (∀cs,(∀c∈cs,∀i∈As c,S i)->Rel (K cs) (K' cs))->Rel (Sy Gu ps cells K) (Sy Gu ps cells K')
 |[],_,_,_,h1,_,hK=>hK _ h1
 |(_,p)::_,_,_,_,h1,h2,hK=>Dc hn fun _ _=>A0 hn fun _=>HO hn (fun c hc i hi=>by
   rcases Aai hc with h|h
   ·exact h1 c h i hi
   ·exact h2 (_,p) List.mem_cons_self i (Th h hi)) (fun q hq=>h2 q (List.mem_cons_of_mem _ hq)) hK
theorem CY (hn:Rel none none):∀{ts:List CT}{ps:List PV}{K:List PV->List Nat->Option R}{K':List PV->List Nat->Option R'},(∀t∈ts,∀es,t ≠ .sl es)->(∀c,Rel (K c []) (K' c []))->Rel (Ni g ts ps K) (Ni g' ts ps K')
 |[],[],_,_,_,hK=>hK _
 |[],_::_,_,_,_,_=>hn
 |_::_,[],_,_,_,_=>hn
 |t::ts,p::ps,K,K',ht,hK=>by
  show Rel (Oc g t p _) (Oc g' t p _)
  have:∀{g:Nat->Option (List PV)} {S:Type} {L:PV->List Nat->Option S},Oc g t p L=BG t p fun c=>L c []:=by
   intro g S L;cases t with
   |sl es=>exact absurd rfl (ht _ (by simp) es)
   |_=>rfl
  rw[this,this];exact Ox hn fun c=>CY hn (fun t h=>ht t (by simp[h])) fun cs=>hK _
theorem Ahh (hn:Rel none none){es:Nat}{t:TypeId}{x:PV}{K:Nat->List PV->Option R}{K':Nat->List PV->Option R'}(hx:QR Rel g g' (As x)) (hK:∀m c,Rel (K m c) (K' m c)):Rel (ZW P g es t x K) (ZW P g' es t x K'):=by
 unfold ZW;split
 ·exact A0 hn fun _=>Fj hn fun _=>hK _ _
 ·exact Pz hn hx hK
 ·exact hn
theorem Akl (hn:Rel none none){t:TypeId}{x:PV}{K:Nat->Option R}{K':Nat->Option R'}(hK:∀n,Rel (K n) (K' n)):Rel (Af5 P t x K) (Af5 P t x K'):=by
 unfold Af5;split
 ·exact Fm hn fun _ _ _=>A0 hn fun _=>hK _
 ·exact hn
theorem TK (hn:Rel none none){d:Nat}{t tx:TypeId}{x:PV}{K:PV->List (Nat × Bs)->Option R} {K':PV->List (Nat × Bs)->Option R'} (hx:QR Rel g g' (As x)) (hK:∀v nw,Rel (K v nw) (K' v nw)):Rel (Ul P g d t tx x K) (Ul P g' d t tx x K'):=by
 unfold Ul;split
 ·exact A0 hn fun _=>Ahh hn hx fun _ _=>A0 hn fun _=>hK _ _
 ·exact hn
theorem HN (hn:Rel none none){C:G1}{call:Am}{K:PV->List Nat->List (Nat × Bs)->Option R} {K':PV->List Nat->List (Nat × Bs)->Option R'}
  (Jq:∀x∈o.op.operands.toList,B3 tm x=B3 tm' x)
  (hfg:Hp P o.op=true->∀x∈o.op.operands.toList,∀i∈Bx (B3 tm' x),(f i=f' i∧g i=g' i)∨(f i=none∧g i=none∧∀b,Rel none b))
  (hK:∀v fz nw,(Hp P o.op=false->fz=[]∧∀q∈nw,o.dst=some q.1)->(∀i∈fz,g i≠none)->Rel (K v fz nw) (K' v fz nw)):
  Rel (HT C P N call tm f g o K) (HT C P N call tm' f' g' o K'):=by
 have h0:∀v,Rel (K v [] []) (K' v [] []):=fun v=>hK v [] [] (fun _=>⟨rfl,by simp⟩) (by simp)
 have hf:Hp P o.op=true->∀x∈o.op.operands.toList,QR Rel f f' (Bx (B3 tm' x)):=fun h x hx i hi=>(hfg h x hx i hi).imp (·.1) fun h=>⟨h.1,h.2.2⟩
 have hg:Hp P o.op=true->∀x∈o.op.operands.toList,QR Rel g g' (Bx (B3 tm' x)):=fun h x hx i hi=>(hfg h x hx i hi).imp (·.2) fun h=>⟨h.2.1,h.2.2⟩
 unfold HT;generalize hop:o.op=op at *
 split
 ·exact GY hn (Jq _ (by simp[Op.operands])) h0
 ·exact GY hn (Jq _ (by simp[Op.operands])) h0
 ·rename_i c x y;rw[Jq c (by simp[Op.operands]),Jq x (by simp[Op.operands]),Jq y (by simp[Op.operands])]
  exact Gn hn fun _=>EK (h0 _) (h0 _)
 ·exact Dc hn fun d hd=>Sm hn fun _=>hK _ _ _ (fun _=>⟨rfl,by simp[hd]⟩) (by simp)
 ·rename_i t x;rw[Jq x (by simp[Op.operands])]
  refine Dc hn fun d hd=>A0 hn fun _=>?_
  cases S8 P t
  ·exact M5 hn fun _=>hK _ _ _ (fun _=>⟨rfl,by simp[hd]⟩) (by simp)
  ·exact Ql hn fun _=>hK _ _ _ (fun _=>⟨rfl,by simp[hd]⟩) (by simp)
 ·rename_i t ps
  have:(ps.toList.map fun q=>(q.1,B3 tm q.2))=ps.toList.map fun q=>(q.1,B3 tm' q.2):=by
   apply List.map_congr_left;intro q hq;rw[Jq q.2 (by simp only[Op.operands];exact List.mem_map_of_mem hq)]
  rw[this];exact A0 hn fun _=>Sm hn fun _=>Zr hn fun _=>M5 hn fun _=>h0 _
 ·rename_i t n ps
  have:(ps.toList.map fun q=>(q.1,B3 tm q.2))=ps.toList.map fun q=>(q.1,B3 tm' q.2):=by
   apply List.map_congr_left;intro q hq;rw[Jq q.2 (by simp only[Op.operands];exact List.mem_map_of_mem hq)]
  rw[this];refine Dc hn fun d hd=>?_
  split
  ·rename_i e hu;cases EM:Jk P [e]
   ·refine A0 hn fun _=>Yv hn fun z hz=>Zr hn fun cs=>CY hn ?_ fun cs'=>hK _ _ _ (fun _=>⟨rfl,by simp[hd]⟩) (by simp)
    intro c hc es he;obtain⟨l,hl,hc⟩:=List.mem_flatten.1 hc;rw[List.eq_of_mem_replicate hl] at hc;subst he
    have:Jk P [e]=true:=by
     unfold Jk;simp only[List.any_cons,List.any_nil,Bool.or_false,Bool.or_eq_true];exact .inr (List.any_eq_true.2 ⟨_,hc,rfl⟩)
    rw[this] at EM;cases EM
   refine A0 hn fun _=>Yv hn fun z hz=>HO (S:=fun i=>∃x∈(Op.buildSlice t n ps).operands.toList,i∈Bx (B3 tm' x)) hn ?_ ?_ fun cs EN=>?_
   ·intro c hc i hi;obtain⟨l,hl,hc⟩:=List.mem_flatten.1 hc;rw[List.eq_of_mem_replicate hl] at hc;rw[hz c hc] at hi;simp at hi
   ·intro q hq i hi;obtain⟨q',Ft,rfl⟩:=List.mem_map.1 hq;exact⟨q'.2,by simp only[Op.operands];exact List.mem_map_of_mem Ft,Fs hi⟩
   ·refine Tu hn (fun i hi=>?_) fun cs' m hm=>hK _ _ _ (fun h=>by simp[Hp,hu,EM] at h) hm
    obtain⟨c,hc,hi⟩:=List.mem_flatMap.1 hi;obtain⟨x,hx,hxi⟩:=EN c hc i hi;exact hg (by simp[Hp,hu,EM]) x hx i hxi
  ·exact hn
 ·rename_i t x;rw[Jq x (by simp[Op.operands])]
  exact MO hn (fun i hi=>hfg (by simp[Hp]) x (by simp[Op.operands]) i (Kd hi)) h0
 ·rename_i x;rw[Jq x (by simp[Op.operands])]
  exact Z6 hn h0
 ·rename_i op' t x y _;rw[Jq x (by simp[Op.operands]),Jq y (by simp[Op.operands])]
  exact UN hn h0
 ·rename_i op' t x;rw[Jq x (by simp[Op.operands])]
  exact Ao3 hn h0
 ·rename_i src dst x;rw[Jq x (by simp[Op.operands])]
  exact Afv hn (fun hds i hi=>hg (by simp[Hp,hds]) x (by simp[Op.operands]) i (Kd hi)) fun v b hb=>Dc hn fun d hd=>hK _ _ _ (fun _=>⟨rfl,fun q hq=>by rw[hd,hb q hq,hd];rfl⟩) (by simp)
 ·rename_i t x y;rw[Jq x (by simp[Op.operands]),Jq y (by simp[Op.operands])]
  refine Dc hn fun d hd=>?_
  split
  ·exact D8 hn fun _ _=>D8 hn fun _ _=>A0 hn fun _=>Sm hn fun _=>hK _ _ _ (fun _=>⟨rfl,by simp[hd]⟩) (by simp)
  ·exact hn
 ·rename_i t x lo hi mx;split
  ·rw[Jq x (by simp[Op.operands])]
   have h1:lo.map (B3 tm)=lo.map (B3 tm'):=by
    cases lo with
    |none=>rfl
    |some y=>simp only[Option.map_some];rw[Jq y (by simp[Op.operands])]
   have h2:hi.map (B3 tm)=hi.map (B3 tm'):=by
    cases hi with
    |none=>rfl
    |some y=>simp only[Option.map_some];rw[Jq y (by simp[Op.operands])]
   rw[h1,h2];exact ZO hn (fun ⟨n,e,he⟩ i hi=>hf (by simp[Hp,he]) x (by simp[Op.operands]) i (Kd hi)) h0
  ·rename_i m;rw[Jq x (by simp[Op.operands])]
   have h1:lo.map (B3 tm)=lo.map (B3 tm'):=by
    cases lo with
    |none=>rfl
    |some y=>simp only[Option.map_some];rw[Jq y (by simp[Op.operands])]
   have h2:hi.map (B3 tm)=hi.map (B3 tm'):=by
    cases hi with
    |none=>rfl
    |some y=>simp only[Option.map_some];rw[Jq y (by simp[Op.operands])]
   rw[h1,h2,Jq m (by simp[Op.operands])]
   exact Dc hn fun d hd=>SI hn fun c=>hK _ _ _ (fun _=>⟨rfl,by simp[hd]⟩) (by simp)
 ·rename_i t x fl;rw[Jq x (by simp[Op.operands])]
  exact Dc hn fun _ _=>A0 hn fun _=>Z6 hn h0
 ·rename_i t x fl;rw[Jq x (by simp[Op.operands])]
  exact Dc hn fun _ _=>A0 hn fun _=>Jo hn fun _ _=>M5 hn fun _=>Xo hn h0
 ·rename_i t x i;rw[Jq x (by simp[Op.operands]),Jq i (by simp[Op.operands])]
  exact D8 hn fun _ _=>IL hn h0
 ·rename_i t x i;rw[Jq x (by simp[Op.operands]),Jq i (by simp[Op.operands])]
  refine D8 hn fun _ _=>?_
  split
  ·exact Fj hn fun _=>A0 hn fun _=>Dc hn fun _ _=>h0 _
  ·exact Jo hn fun _ _=>A0 hn fun _=>M5 hn fun _=>Xo hn h0
  ·exact hn
 ·rename_i t x k ok;rw[Jq x (by simp[Op.operands]),Jq k (by simp[Op.operands])]
  split
  ·refine A0 hn fun _=>?_
   split
   ·exact Fj hn fun _=>Dc hn fun _ _=>Acj hn (fun _ _=>A0 hn fun _=>h0 _) (fun _=>A0 hn fun _=>h0 _)
   ·exact hn
  ·exact hn
 ·rename_i x i;rw[Jq x (by simp[Op.operands])]
  split
  ·exact Dc hn fun _ _=>h0 _
  ·exact hn
 ·rename_i c
  have Jc:∀x∈c.args.toList,x∈(Op.call c).operands.toList:=by
   intro x hx;simp only[Op.operands,Call.operands,Array.toList_append,List.mem_append];exact .inr hx
  have rc:∀fn,Hp P (.call c)=true->Rel (HS C P N call tm g o c fn K) (HS C P N call tm' g' o c fn K'):=by
   intro fn WW;unfold HS;have:c.args.toList.map (B3 tm)=c.args.toList.map (B3 tm'):=List.map_congr_left fun x hx=>Jq x (Jc x hx)
   rw[this];refine MS hn (fun i hi=>?_) fun vs m hm=>KL hn fun rv ro=>E8 hn (A0 hn fun _=>Zt hn fun ws bs KC=>A0 hn fun _=>hK _ _ _ (fun h=>by rw[WW] at h;cases h) (fun i hi=>?_))
   ·obtain⟨p,hp,hi⟩:=List.mem_flatMap.1 hi;obtain⟨x,hx,rfl⟩:=List.mem_map.1 hp;exact hg WW x (Jc x hx) i (Fs hi)
   ·have WZ:i∈m:=by
     cases hq:Jk P (Nx P o.type)<;>rw[hq] at hi
     ·simp at hi
     ·exact hi
    exact hm i WZ
  split
  ·refine Bk hn fun x _ hx=>Bk hn fun _ _ _=>?_
   rw[Jq x (Jc x (by rw[hx];simp))]
   exact Ajc hn fun _=>h0 _
  ·refine Bk hn fun x _ hx=>Bk hn fun _ _ _=>?_
   rw[Jq x (Jc x (by rw[hx];simp))]
   exact Akl hn fun _=>h0 _
  ·refine Bk hn fun x _ hx=>Bk hn fun y _ hy=>E8 hn ?_
   subst hy;rw[Jq x (Jc x (by rw[hx];simp)),Jq y (Jc y (by rw[hx];simp))]
   exact Ai0 hn h0
  ·refine Bk hn fun x _ hx=>Bk hn fun y _ hy=>E8 hn ?_
   subst hy;rw[Jq x (Jc x (by rw[hx];simp)),Jq y (Jc y (by rw[hx];simp))]
   exact Ahp hn h0
  ·rename_i hc;have WW:Hp P (.call c)=true:=by simp[Hp,hc]
   refine A0 hn fun _=>Dc hn fun d hd=>Bk hn fun _ _ hb=>Bk hn fun x _ hx=>E8 hn (Bk hn fun _ _ _=>Bk hn fun _ _ _=>?_)
   have hxm:x∈c.args.toList:=by rw[hb,hx];simp
   rw[Jq x (Jc x hxm)];exact TK hn (fun i hi=>hg WW x (Jc x hxm) i (Kd hi)) fun v nw=>hK _ _ _ (fun h=>by rw[WW] at h;cases h) (by simp)
  ·rename_i fn hc;have WW:Hp P (.call c)=true:=by simp[Hp,hc]
   exact rc fn WW
  ·rename_i t hc;have WW:Hp P (.call c)=true:=by simp[Hp,hc]
   have ht:=Jq (.tmp t) (by simp[Op.operands,Call.operands,hc])
   change tm t=tm' t at ht;rw[ht];exact Aoy hn fun fn=>rc fn WW
  ·exact hn
 ·exact hn
variable {hp:Nat->Option Bs}
end
open Go.RowKit
abbrev S0:=PV × List Nat × List (Nat × Bs)
def Gz (ops:Array Oper)(o:Oper)(tm:Nat->PV):Option Bool:=
 match o.guard with
 |none=>some true
 |some (j,want)=>
  match (ops[j]?).bind (·.dst) with
  |none=>none
  |some d=>
   match tm d with
   |.sc (.bool b)=>some (b==want)
   |.sc (.tuple _)=>some false
   |_=>none
section
variable {R:Type} {r:R} {C:G1} {P:Program} {N:Nat} {call:Am} {ops:Array Oper} {o x:Oper} {s:St} {K:St->Option R}
theorem PL:Dt C P N call ops o s K=match Gz ops o s.tm with
  |none=>none
  |some true=>SP C P N call o s K
  |some false=>A2 (Gb N o.dst) (K ⟨Bp s.tm o.dst (.sc undef),s.hp⟩):=by
 unfold Dt Gz;cases o.guard with
 |none=>rfl
 |some q=>
  obtain⟨j,want⟩:=q;cases hd:(ops[j]?).bind (·.dst) with
  |none=>simp[hd]
  |some d=>
   simp only[hd];cases ht:s.tm d with
   |sc v=>
    cases v with
    |bool b=>
     cases b<;>cases want<;>simp only[Ba,cond_true,cond_false,Za s.tm ht]<;>rfl
    |_=>rfl
   |_=>rfl
def Aem (C:G1)(P:Program)(N:Nat)(call:Am)(o:Oper)(s:St):Option S0:=
 HT C P N call s.tm (rd s.hp) (Jp s.hp) o fun v fz nw=>some (v,fz,nw)
theorem Aph {K:PV->List Nat->List (Nat × Bs)->Option R}:HT C P N call s.tm (rd s.hp) (Jp s.hp) o K=(Aem C P N call o s).bind fun q=>K q.1 q.2.1 q.2.2:=by
 refine HN (Rel:=fun (a:Option R) (b:Option S0)=>a=b.bind fun q=>K q.1 q.2.1 q.2.2) (K:=K) (K':=fun v fz nw=>some (v,fz,nw)) rfl (fun _ _=>rfl) (fun _ _ _ _ _=>.inl ⟨rfl,rfl⟩) fun v fz nw _ _=>rfl
theorem ZT {q:S0}(h:Aem C P N call o s=some q):(Hp P o.op=false->q.2.1=[]∧∀p∈q.2.2,o.dst=some p.1)∧∀i∈q.2.1,Jp s.hp i≠none:=by
 have:=HN (C:=C) (P:=P) (N:=N) (call:=call) (o:=o) (tm:=s.tm) (tm':=s.tm) (f:=rd s.hp) (f':=rd s.hp) (g:=Jp s.hp) (g':=Jp s.hp)
  (Rel:=fun (a:Option S0)(_:Option S0)=>∀q,a=some q->(Hp P o.op=false->q.2.1=[]∧∀p∈q.2.2,o.dst=some p.1)∧∀i∈q.2.1,Jp s.hp i≠none)
  (K:=fun v fz nw=>some (v,fz,nw)) (K':=fun v fz nw=>some (v,fz,nw)) (fun _ h=>by cases h) (fun _ _=>rfl) (fun _ _ _ _ _=>.inl ⟨rfl,rfl⟩) (fun v fz nw h1 h2 q hq=>by cases hq;exact⟨h1,h2⟩)
 exact this q h
def gE (C:G1)(P:Program)(N:Nat)(call:Am)(ops:Array Oper)(o:Oper)(s:St):Option S0:=
 match Gz ops o s.tm with
 |none=>none
 |some true=>bif Rh C P o.op then none else Aem C P N call o s
 |some false=>some (.sc undef,[],[])
def Gq (C:G1)(P:Program)(ops:Array Oper)(o:Oper)(tm:Nat->PV):Bool:=Rh C P o.op&&(Gz ops o tm==some true)
theorem J7 (h:Gq C P ops o s.tm=false):Dt C P N call ops o s K=(gE C P N call ops o s).bind fun q=>Z3 N s o.dst q.1 q.2.1 q.2.2 K:=by
 rw[PL];unfold gE;unfold Gq at h;cases hv:Gz ops o s.tm with
 |none=>rfl
 |some b=>
  rw[hv] at h;cases b with
  |false=>
   show A2 _ _=Z3 N s o.dst (.sc undef) [] [] K;unfold Z3;have h1:Bw s.hp []=true:=rfl;have h2:At (Ag s.hp []) []=s.hp:=rfl;rw[h1,h2,Bool.and_true]
  |true=>
   have hm:Rh C P o.op=false:=by simpa using h
   simp only[SP,hm,cond_false];exact Aph
theorem Ig (h:Gq C P ops o s.tm=true):Dt C P N call ops o s K=Uz C P N call s o K:=by
 rw[PL];unfold Gq at h;simp only[Bool.and_eq_true,beq_iff_eq] at h;rw[h.2];simp only[SP,h.1,cond_true]
theorem Sr {q:S0}(h:gE C P N call ops o s=some q):(Hp P o.op=false->q.2.1=[]∧∀p∈q.2.2,o.dst=some p.1)∧∀i∈q.2.1,Jp s.hp i≠none:=by
 unfold gE at h;split at h
 ·cases h
 ·cases hm:Rh C P o.op<;>rw[hm] at h
  ·exact ZT h
  ·cases h
 ·cases h;exact⟨fun _=>⟨rfl,by simp⟩,by simp⟩
theorem Fg {tm tm':Nat->PV}(h:∀t∈looks ops o,tm t=tm' t):∀y∈o.op.operands.toList,B3 tm y=B3 tm' y:=by
 intro y hy;cases y with
 |tmp t=>
  refine h t ?_;unfold looks Ahs;refine List.mem_append.2 (.inl (List.mem_filterMap.2 ⟨.tmp t,hy,rfl⟩))
 |const v=>cases v<;>rfl
 |func f=>rfl
 |«global» g=>rfl
theorem Kq {tm tm':Nat->PV}(h:∀t∈looks ops o,tm t=tm' t):Gz ops o tm=Gz ops o tm':=by
 unfold Gz;cases hg:o.guard with
 |none=>rfl
 |some q=>
  obtain⟨j,want⟩:=q;cases hd:(ops[j]?).bind (·.dst) with
  |none=>simp[hd]
  |some d=>
   have:tm d=tm' d:=h d (by
    unfold looks;rw[hg];refine List.mem_append.2 (.inr ?_);simp only[hd];simp)
   simp only[hd,this]
theorem Zh {s':St}{q:S0}(ht:∀t∈looks ops o,s.tm t=s'.tm t)
  (hm:Hp P o.op=true->∀y∈o.op.operands.toList,∀i∈Bx (B3 s'.tm y),(rd s.hp i=rd s'.hp i∧Jp s.hp i=Jp s'.hp i)∨(rd s.hp i=none∧Jp s.hp i=none))
  (h:gE C P N call ops o s=some q):gE C P N call ops o s'=some q:=by
 unfold gE at h ⊢;rw[←Kq ht];split at h
 ·cases h
 ·cases hM:Rh C P o.op<;>rw[hM] at h
  ·have:=HN (C:=C) (P:=P) (N:=N) (call:=call) (o:=o) (tm:=s.tm) (tm':=s'.tm) (f:=rd s.hp) (f':=rd s'.hp) (g:=Jp s.hp) (g':=Jp s'.hp)
    (Rel:=fun (a b:Option S0)=>a=some q->b=some q)
    (K:=fun v fz nw=>some (v,fz,nw)) (K':=fun v fz nw=>some (v,fz,nw)) (fun h=>h) (Fg ht)
    (fun J1 y hy i hi=>(hm J1 y hy i hi).imp id fun h=>⟨h.1,h.2,fun _ h=>by cases h⟩) (fun v fz nw _ _ h=>h)
   exact this h
  ·cases h
 ·exact h
end
open Go.RowKit
theorem Ps:∀{nw:List (Nat × Bs)} {hp Cy:Nat->Option Bs},Bw hp nw=true->(∀i b,(i,b)∈nw->Cy i=none)->Bw Cy nw=true
 |[],_,_,_,_=>rfl
 |(i,b)::nw,hp,Cy,h,h'=>by
  simp only[Bw,Bool.and_eq_true,Option.isNone_iff_eq_none] at h ⊢;exact⟨⟨h' i b (by simp),h.1.2⟩,Ps h.2 fun j c hj=>h' j c (by simp[hj])⟩
section
variable {hp:Nat->Option Bs} {fz:List Nat} {nw:List (Nat × Bs)}
theorem Fw (ha:Bw hp nw=true){i:Nat}(hi:hp i≠none):At (Ag hp fz) nw i=if i∈fz then (hp i).map Tm else hp i:=by
 obtain⟨h1,h2⟩:=Bn ha;rw[(Ei h2).2 i (fun bx hb=>hi (h1 i bx hb)),B0]
theorem It (ha:Bw hp nw=true){i:Nat}{b:Bs}(hi:(i,b)∈nw):At (Ag hp fz) nw i=some b:=
 (Ei (Bn ha).2).1 i b hi
theorem M6 (ha:Bw hp nw=true){i:Nat}(hi:hp i=none)(hn:∀b,(i,b) ∉ nw):At (Ag hp fz) nw i=none:=by
 rw[(Ei (Bn ha).2).2 i hn,B0,hi];simp
theorem Na (ha:Bw hp nw=true){i:Nat}(hi:hp i≠none):At (Ag hp fz) nw i≠none:=by
 rw[Fw ha hi];cases h:hp i with
 |none=>exact absurd h hi
 |some b=>split<;>simp
theorem Aql (b:Option Bs):(match b.map Tm with|some (.st c)=>some c|some (.ar _ c)=>some c|_=>none)=(match b with|some (.st c)=>some c|some (.ar _ c)=>some c|_=>none):=by
 cases b with
 |none=>rfl
 |some b=>cases b<;>rfl
theorem Ag6 (b:Option Bs):(match b.map Tm with|some (.ar _ c)=>some c|_=>none)=(match b with|some (.ar _ c)=>some c|_=>none):=by
 cases b with
 |none=>rfl
 |some b=>cases b<;>rfl
theorem VQ (ha:Bw hp nw=true){i:Nat}(hi:hp i≠none):rd (At (Ag hp fz) nw) i=rd hp i:=by
 unfold rd;rw[Fw ha hi];by_cases h:i∈fz
 ·rw[if_pos h];exact Aql _
 ·rw[if_neg h]
theorem KH (ha:Bw hp nw=true){i:Nat}(hi:hp i≠none):Jp (At (Ag hp fz) nw) i=Jp hp i:=by
 unfold Jp;rw[Fw ha hi];by_cases h:i∈fz
 ·rw[if_pos h];exact Ag6 _
 ·rw[if_neg h]
theorem Ab2 {i:Nat}(hi:hp i=none):rd hp i=none:=by unfold rd;rw[hi]
theorem K2 {i:Nat}(hi:hp i=none):Jp hp i=none:=by unfold Jp;rw[hi]
theorem A5g (b:Option Bs):(b.map Tm).map Tm=b.map Tm:=by
 cases b with
 |none=>rfl
 |some b=>cases b<;>rfl
theorem XN {fx fo:List Nat}{nx no:List (Nat × Bs)} (hx:Bw hp nx=true)(ho:Bw (At (Ag hp fx) nx) no=true) (VX:Bw hp no=true)
  (Tg:Bw (At (Ag hp fo) no) nx=true) (h1:∀i∈fx,hp i≠none)(h2:∀i∈fo,hp i≠none):
  At (Ag (At (Ag hp fx) nx) fo) no=At (Ag (At (Ag hp fo) no) fx) nx:=by
 funext i
 by_cases hi:hp i=none
 ·by_cases Y2:∃b,(i,b)∈no
  ·obtain⟨b,hb⟩:=Y2
   have hnx:∀b',(i,b') ∉ nx:=fun b' H5=>by
    have:=(Bn ho).1 i b hb;rw[It hx H5] at this;cases this
   rw[It ho hb,Fw Tg (by rw[It VX hb];simp),It VX hb,if_neg (fun h=>h1 i h hi)]
  ·have Y2:∀b,(i,b) ∉ no:=fun b hb=>Y2 ⟨b,hb⟩
   by_cases hnx:∃b,(i,b)∈nx
   ·obtain⟨b,hb⟩:=hnx;rw[It Tg hb,Fw ho (by rw[It hx hb];simp),It hx hb,if_neg (fun h=>h2 i h hi)]
   ·have hnx:∀b,(i,b) ∉ nx:=fun b hb=>hnx ⟨b,hb⟩
    rw[M6 ho (M6 hx hi hnx) Y2,M6 Tg (M6 VX hi Y2) hnx]
 ·rw[Fw ho (Na hx hi),Fw hx hi,Fw Tg (Na VX hi),Fw VX hi];split<;>split<;>first|rfl|rw[A5g]
end
section
variable {R:Type} {r:R} {C:G1} {P:Program} {N:Nat} {call:Am} {ops:Array Oper} {o x:Oper} {s:St} {K:St->Option R}
structure Yf (C:G1) (P:Program) (ops:Array Oper) (x o:Oper):Prop where
 xo:∀d,x.dst=some d->d ∉ looks ops o
 ne:∀d,x.dst=some d->o.dst≠some d
 ox:∀d,o.dst=some d->d ∉ looks ops x
 mx:Rh C P x.op=true->Hp P o.op=false
 mo:Rh C P o.op=true->Hp P x.op=false
theorem Rb {l:List Nat}{d:Nat}(h:l.any (Nat.beq d)=false):d ∉ l:=by
 intro hm;have:l.any (Nat.beq d)=true:=List.any_eq_true.2 ⟨d,hm,Nat.beq_refl d⟩;rw[this] at h;cases h
theorem Alp (h:GD C P ops x o=false):Yf C P ops x o:=by
 unfold GD at h;simp only[Bool.or_eq_false_iff,Bool.and_eq_false_iff] at h;obtain⟨⟨⟨h1,h2⟩,h3⟩,h4⟩:=h;refine⟨fun d hd=>?_,fun d hd he=>?_,fun d hd=>?_,fun hm=>?_,fun hm=>?_⟩
 ·simp only[hd,Bool.or_eq_false_iff] at h1;exact Rb h1.1
 ·simp only[hd,he,Bool.or_eq_false_iff] at h1;rw[Nat.beq_refl] at h1;cases h1.2
 ·simp only[hd] at h2;exact Rb h2
 ·rw[hm] at h3;rcases h3 with h|h
  ·cases h
  ·exact h
 ·rw[hm] at h4;rcases h4 with h|h
  ·cases h
  ·exact h
theorem Et {tm:Nat->PV}{d:Option Tmp}{v:PV}{l:List Nat}(h:∀i,d=some i->i ∉ l):∀t∈l,Bp tm d v t=tm t:=by
 intro t ht;cases d with
 |none=>rfl
 |some d=>exact Ak _ _ (by rintro rfl;exact h _ rfl ht)
theorem J9 {tm:Nat->PV}{d e:Option Tmp}{u v:PV}(h:∀i,d=some i->e≠some i):Bp (Bp tm d u) e v=Bp (Bp tm e v) d u:=by
 cases d with
 |none=>rfl
 |some d=>
  cases e with
  |none=>rfl
  |some e=>exact WE _ _ _ (by rintro rfl;exact h _ rfl rfl)
def WR (C:G1)(P:Program)(o:Oper)(s:St):Prop:=(∀y∈o.op.operands.toList,∀i∈Bx (B3 s.tm y),s.hp i≠none) ∧
 (Rh C P o.op=true->M9 o.op=false->∀y∈o.op.operands.toList,∀i∈Bx (B3 s.tm y),∀c,s.hp i=some (.st c)->∀p∈c,∀k∈As p,s.hp k≠none)
theorem Hj {tm tm':Nat->PV}(h:∀t∈looks ops o,tm t=tm' t):Gq C P ops o tm=Gq C P ops o tm':=by
 unfold Gq;rw[Kq h]
theorem Abq (hw:WR C P o s)(xo:∀d,x.dst=some d->d ∉ looks ops o)(ne:∀d,x.dst=some d->o.dst≠some d)(ox:∀d,o.dst=some d->d ∉ looks ops x)(hx:Gq C P ops x s.tm=false)(ho:Gq C P ops o s.tm=false)
  (h:Dt C P N call ops x s (fun s1=>Dt C P N call ops o s1 K)=some r):Dt C P N call ops o s (fun s1=>Dt C P N call ops x s1 K)=some r:=by
 rw[J7 hx] at h;cases ex:gE C P N call ops x s with
 |none=>rw[ex] at h;cases h
 |some q=>
 obtain⟨vx,fx,nx⟩:=q;rw[ex] at h;obtain⟨hb,h1⟩:=Al h;simp only[Bool.and_eq_true] at hb;have t1:∀t∈looks ops o,Bp s.tm x.dst vx t=s.tm t:=Et xo;change Dt C P N call ops o ⟨Bp s.tm x.dst vx,At (Ag s.hp fx) nx⟩ K=some r at h1;rw[J7 (by rw[Hj t1];exact ho)] at h1
 cases eo:gE C P N call ops o ⟨Bp s.tm x.dst vx,At (Ag s.hp fx) nx⟩ with
 |none=>rw[eo] at h1;cases h1
 |some q=>
 obtain⟨vo,fo,no⟩:=q;rw[eo] at h1;obtain⟨hc,h2⟩:=Al h1;change K ⟨Bp (Bp s.tm x.dst vx) o.dst vo,At (Ag (At (Ag s.hp fx) nx) fo) no⟩=some r at h2;simp only[Bool.and_eq_true] at hc
 have eo':gE C P N call ops o s=some (vo,fo,no):=by
  refine Zh t1 (fun _ y hy i hi=>?_) eo
  have:=hw.1 y hy i hi;exact .inl ⟨VQ hb.2 this,KH hb.2 this⟩
 have VX:Bw s.hp no=true:=Ps hc.2 fun i b hi=>by
  cases hs:s.hp i with
  |none=>rfl
  |some c=>exact absurd ((Bn hc.2).1 i b hi) (Na hb.2 (by rw[hs];simp))
 rw[J7 ho,eo']
 have Tg:Bw (At (Ag s.hp fo) no) nx=true:=Ps hb.2 fun i b hi=>by
  refine M6 VX ((Bn hb.2).1 i b hi) fun c Q6=>?_
  have:=(Bn hc.2).1 i c Q6;rw[It hb.2 hi] at this;cases this
 have t2:∀t∈looks ops x,s.tm t=Bp s.tm o.dst vo t:=fun t ht=>(Et ox t ht).symm
 have ex':gE C P N call ops x ⟨Bp s.tm o.dst vo,At (Ag s.hp fo) no⟩=some (vx,fx,nx):=by
  refine Zh t2 (fun _ y hy i hi=>?_) ex
  by_cases hs:s.hp i=none
  ·exact .inr ⟨Ab2 hs,K2 hs⟩
  ·exact .inl ⟨(VQ VX hs).symm,(KH VX hs).symm⟩
 show A2 _ _=_;rw[hc.1,VX];show Dt C P N call ops x ⟨Bp s.tm o.dst vo,At (Ag s.hp fo) no⟩ K=some r;rw[J7 (by rw[←Hj t2];exact hx),ex']
 show A2 _ _=_;rw[hb.1,Tg];rw[←h2];have hfx:∀i∈fx,s.hp i≠none:=fun i hi hs=>(Sr ex).2 i hi (K2 hs)
 have hfo:∀i∈fo,s.hp i≠none:=fun i hi hs=>(Sr eo').2 i hi (K2 hs)
 show K ⟨Bp (Bp s.tm o.dst vo) x.dst vx,At (Ag (At (Ag s.hp fo) no) fx) nx⟩=K _;rw[J9 ne,XN hb.2 hc.2 VX Tg hfx hfo]
end
open Go.RowKit
theorem Yi {C:G1}{P:Program}{o:Op}(h:Rh C P o=true):Hp P o=true:=by
 unfold Rh at h;split at h
 ·rfl
 ·rename_i c;unfold Hp;simp only;split at h<;>rename_i hc
  ·rw[hc]
  ·rw[hc]
  ·cases h
  ·rw[hc]
  ·cases h
 ·cases h
structure JY (N:Nat) (S:Nat->Prop) (dst:Option Nat) (hp Cj Cy Fc:Nat->Option Bs):Prop where
 keep:∀i,hp i≠none->Cy i≠none
 off:∀i,i<N->dst≠some i->(¬S i∨hp i=none)->Cy i=hp i∧Fc i=Cj i
 same:∀i,hp i=Cj i->Cy i=Fc i
 far:∀i,¬S i->hp i≠none->Cy i=hp i
section
variable {R R':Type} {Rel:Option R->Option R'->Prop} {P:Program} {N:Nat} {tm tm':Nat->PV} {hp Cj:Nat->Option Bs} {f f':Nat->Option (List PV)} {o:Oper}
theorem LI (hn:Rel none none){t:CT}{p:PV}{K:PV->List Nat->Option R}{K':PV->List Nat->Option R'}(hf:QR Rel f f' (As p)) (hK:∀c m,(∀i∈m,f i≠none∧i∈As p)->Rel (K c m) (K' c m)):Rel (Oc f t p K) (Oc f' t p K'):=by
 unfold Oc;split
 ·split
  ·rename_i id es' off n;cases Nat.beq es' _
   ·exact hn
   ·exact Yu hn hf (by simp[As]) fun c hc=>A0 hn fun _=>hK _ _ (by simp[hc,As])
  ·exact Fm hn fun _ _ _=>hK _ _ (by simp)
 ·exact Ox hn fun _=>hK _ _ (by simp)
theorem HD (hn:Rel none none):∀{ts:List CT}{ps:List PV}{K:List PV->List Nat->Option R}{K':List PV->List Nat->Option R'},QR Rel f f' (ps.flatMap As)->(∀c m,(∀i∈m,f i≠none∧i∈ps.flatMap As)->Rel (K c m) (K' c m))->Rel (Ni f ts ps K) (Ni f' ts ps K')
 |[],[],_,_,_,hK=>hK _ _ (by simp)
 |[],_::_,_,_,_,_=>hn
 |_::_,[],_,_,_,_=>hn
 |_::_,p::ps,_,_,hf,hK=>LI hn (fun i hi=>hf i (by simp only[List.flatMap_cons,List.mem_append];exact .inl hi)) fun _ m hm=>HD hn (fun i hi=>hf i (by simp only[List.flatMap_cons,List.mem_append];exact .inr hi)) fun _ ms GP=>hK _ _ fun i hi=>by
   simp only[List.flatMap_cons,List.mem_append];rcases List.mem_append.1 hi with h|h
   ·exact⟨(hm i h).1,.inl (hm i h).2⟩
   ·exact⟨(GP i h).1,.inr (GP i h).2⟩
theorem Tw {S:Nat->Prop}{dst:Option Nat}{id:Nat}{b:Bs}{h0 h1:Nat->Option Bs}(hS:S id)(Bm:hp id≠none)(h:JY N S dst hp Cj h0 h1):JY N S dst hp Cj (Cs h0 id (some b)) (Cs h1 id (some b)):=by
 refine⟨fun i hi=>?_,fun i hN hd hi=>?_,fun i hi=>?_,fun i hn hi=>?_⟩
 ·by_cases e:i=id
  ·subst e;rw[An];simp
  ·rw[Ak _ _ e];exact h.keep i hi
 ·have e:i≠id:=by
   rintro rfl
   rcases hi with hi|hi
   ·exact hi hS
   ·exact Bm hi
  rw[Ak _ _ e,Ak _ _ e];exact h.off i hN hd hi
 ·by_cases e:i=id
  ·subst e;rw[An,An]
  ·rw[Ak _ _ e,Ak _ _ e];exact h.same i hi
 ·rw[Ak _ _ (by rintro rfl;exact hn hS)];exact h.far i hn hi
theorem PE {S:Nat->Prop}{d:Nat}{b:Bs}{h0 h1:Nat->Option Bs}(hz:hp d=none)(h:JY N S (some d) hp Cj h0 h1):JY N S (some d) hp Cj (Cs h0 d (some b)) (Cs h1 d (some b)):=by
 refine⟨fun i hi=>?_,fun i hN hd hi=>?_,fun i hi=>?_,fun i hn hi=>?_⟩
 ·by_cases e:i=d
  ·subst e;rw[An];simp
  ·rw[Ak _ _ e];exact h.keep i hi
 ·have e:i≠d:=by rintro rfl;exact hd rfl
  rw[Ak _ _ e,Ak _ _ e];exact h.off i hN hd hi
 ·by_cases e:i=d
  ·subst e;rw[An,An]
  ·rw[Ak _ _ e,Ak _ _ e];exact h.same i hi
 ·rw[Ak _ _ (by rintro rfl;exact hi hz)];exact h.far i hn hi
theorem Td (S:Nat->Prop)(dst:Option Nat):JY N S dst hp Cj hp Cj:=⟨fun _ h=>h,fun _ _ _ _=>⟨rfl,rfl⟩,fun _ h=>h,fun _ _ _=>rfl⟩
theorem Aa2 {S:Nat->Prop}{dst:Option Nat}{m:List Nat}(hm:∀i∈m,hp i≠none∧S i):JY N S dst hp Cj (Ag hp m) (Ag Cj m):=by
 refine⟨fun i hi=>fun h=>hi (D7.1 h),fun i hN hd hi=>?_,fun i hi=>?_,fun i hn hi=>?_⟩
 ·have e:i ∉ m:=by
   intro h;rcases hi with hi|hi
   ·exact hi (hm i h).2
   ·exact (hm i h).1 hi
  rw[B0,B0,if_neg e,if_neg e];exact⟨rfl,rfl⟩
 ·rw[B0,B0,hi]
 ·rw[B0,if_neg (fun h=>hn (hm i h).2)]
theorem OK {S:Nat->Prop}(h:∀i,S i->hp i=Cj i∨(hp i=none∧∀b,Rel none b)) {l:List Nat}(hl:∀i∈l,S i):QR Rel (Jp hp) (Jp Cj) l:=by
 intro i hi;rcases h i (hl i hi) with h|⟨h,h'⟩
 ·left;unfold Jp;rw[h]
 ·exact .inr ⟨K2 h,h'⟩
theorem RF (hn:Rel none none){t:TypeId}{a x:PV}{K:St->Option R}{K':St->Option R'}{S:Nat->Prop}(hS:∀i,S i->hp i=Cj i∨(hp i=none∧∀b,Rel none b)) (ha:∀i∈As a,S i)(hx:∀i∈Cf x,S i)
  (hK:∀Cy Fc,JY N S none hp Cj Cy Fc->Rel (K ⟨tm,Cy⟩) (K' ⟨tm',Fc⟩)):Rel (AR P ⟨tm,hp⟩ t a x K) (AR P ⟨tm',Cj⟩ t a x K'):=by
 unfold AR;split
 ·rename_i id off;show Rel (match hp id with|some (.st c)=>_|some (.ar false c)=>_|_=>none) (match Cj id with|some (.st c)=>_|some (.ar false c)=>_|_=>none)
  have Bm:S id:=ha id (by simp[As])
  rcases hS id Bm with h|⟨h,hb⟩
  ·rw[←h];split
   ·rename_i c hc;exact A0 hn fun _=>M5 hn fun _=>hK _ _ (Tw Bm (by rw[hc];simp) (Td _ _))
   ·rename_i c hc;refine A0 hn fun _=>HD hn (OK hS fun i hi=>hx i ?_) fun _ m hm=>A0 hn fun _=>hK _ _ (Tw Bm (by rw[hc];simp) (Aa2 fun i hi=>⟨fun h=>(hm i hi).1 (K2 h),hx i ?_⟩))
    ·obtain⟨c,hc,hi⟩:=List.mem_flatMap.1 hi;exact Th hc hi
    ·obtain⟨c,hc,hi⟩:=List.mem_flatMap.1 (hm i hi).2;exact Th hc hi
   ·exact hn
  ·rw[h];exact hb _
 ·exact hn
theorem AV (hn:Rel none none){es:Nat}{t:TypeId}{x:PV}{K:Nat->List PV->Option R}{K':Nat->List PV->Option R'}{S:Nat->Prop}(hS:∀i,S i->hp i=Cj i∨(hp i=none∧∀b,Rel none b)) (hx:∀i∈Cf x,S i)(hK:∀m c,Rel (K m c) (K' m c)):Rel (ZJ P ⟨tm,hp⟩ es t x K) (ZJ P ⟨tm',Cj⟩ es t x K'):=by
 unfold ZJ ZW;split
 ·exact A0 hn fun _=>Fj hn fun _=>hK _ _
 ·exact Pz hn (OK hS fun i hi=>hx i (Sl hi)) hK
 ·exact hn
theorem Yt (hn:Rel none none){d:Nat}{t tx:TypeId}{b x:PV}{K:St->Option R}{K':St->Option R'}{S:Nat->Prop}(hS:∀i,S i->hp i=Cj i∨(hp i=none∧∀b,Rel none b)) (KO:hp d=Cj d)(hb:∀i∈Cf b,S i)(hx:∀i∈Cf x,S i)
  (hK:∀v Cy Fc,(∀M,JY M S (some d) hp Cj Cy Fc)->Rel (K ⟨Cs tm d v,Cy⟩) (K' ⟨Cs tm' d v,Fc⟩)):Rel (Ov P N ⟨tm,hp⟩ d t tx b x K) (Ov P N ⟨tm',Cj⟩ d t tx b x K'):=by
 unfold Ov;split
 ·refine A0 hn fun _=>?_
  cases Y5 P tx
  rotate_left
  ·show Rel (Tf P N ⟨tm,hp⟩ d _ b x K) (Tf P N ⟨tm',Cj⟩ d _ b x K');refine D8 hn fun _ n=>Fm hn fun z _ _=>?_
   show Rel (A2 (z&&Nat.blt d N&&(hp d).isNone&&_&&_&&_) _) (A2 (z&&Nat.blt d N&&(Cj d).isNone&&_&&_&&_) _);rw[←KO];exact A0 hn fun hb=>hK _ _ _ (fun M=>PE (by simp only[Bool.and_eq_true,Option.isNone_iff_eq_none] at hb;simp only[hb]) (Td _ _))
  rw[cond_false,cond_false];refine AV hn hS hx fun m new=>?_
  split
  ·rename_i id es off n;show Rel (match hp id with|some (.ar false c)=>A2 (Nat.beq es _&&Nat.beq off 0&&Nat.blt d N&&(hp d).isNone&&_&&_&&_&&_) _|_=>none) (match Cj id with|some (.ar false c)=>A2 (Nat.beq es _&&Nat.beq off 0&&Nat.blt d N&&(Cj d).isNone&&_&&_&&_&&_) _|_=>none)
   have Bm:S id:=hb id (by simp[Cf,As])
   rw[←KO];rcases hS id Bm with h|⟨h,hbb⟩
   ·rw[←h];split
    ·rename_i c hc;exact A0 hn fun hb=>hK _ _ _ (fun M=>PE (by simp only[Bool.and_eq_true,Option.isNone_iff_eq_none] at hb;simp only[hb]) (Tw Bm (by rw[hc];simp) (Td _ _)))
    ·exact hn
   ·rw[h];exact hbb _
  ·refine Fm hn fun z _ _=>?_
   show Rel (A2 (z&&Nat.blt d N&&(hp d).isNone&&_&&_&&_) _) (A2 (z&&Nat.blt d N&&(Cj d).isNone&&_&&_&&_) _);rw[←KO];exact A0 hn fun hb=>hK _ _ _ (fun M=>PE (by simp only[Bool.and_eq_true,Option.isNone_iff_eq_none] at hb;simp only[hb]) (Td _ _))
 ·exact hn
theorem XY (hn:Rel none none){d:Option Tmp}{t tx:TypeId}{b x:PV}{K:St->Option R}{K':St->Option R'}{S:Nat->Prop}(hS:∀i,S i->hp i=Cj i∨(hp i=none∧∀b,Rel none b)) (hb:∀i∈Cf b,S i)(hx:∀i∈Cf x,S i)
  (hK:∀v Cy Fc,JY N S d hp Cj Cy Fc->Rel (K ⟨Bp tm d v,Cy⟩) (K' ⟨Bp tm' d v,Fc⟩)):Rel (LU P N ⟨tm,hp⟩ d t tx b x K) (LU P N ⟨tm',Cj⟩ d t tx b x K'):=by
 unfold LU;split
 ·refine A0 hn fun _=>?_
  refine AV hn hS hx fun m new=>?_
  split
  ·rename_i id es off n;show Rel (match hp id with|some (.ar false c)=>A2 (Nat.beq es _&&_&&_) _|_=>none) (match Cj id with|some (.ar false c)=>A2 (Nat.beq es _&&_&&_) _|_=>none)
   have Bm:S id:=hb id (by simp[Cf,As])
   rcases hS id Bm with h|⟨h,hbb⟩
   ·rw[←h];split
    ·rename_i c hc;exact A0 hn fun _=>hK _ _ _ (Tw Bm (by rw[hc];simp) (Td _ _))
    ·exact hn
   ·rw[h];exact hbb _
  ·exact hn
 ·exact hn
def Ar0 (o:Oper)(tm:Nat->PV)(i:Nat):Prop:=∃x∈o.op.operands.toList,i∈Bx (B3 tm x)
def V3 (o:Oper)(tm:Nat->PV)(hp:Nat->Option Bs)(i:Nat):Prop:=Ar0 o tm i∨M9 o.op=false∧∃id c,Ar0 o tm id∧hp id=some (.st c)∧∃p∈c,i∈As p
theorem Aek (hn:Rel none none){mv:Bool}{t:CT}{p:PV}{K:PV->List Nat->List Nat->Option R}{K':PV->List Nat->List Nat->Option R'}{S:Nat->Prop}(hS:∀i,S i->hp i=Cj i∨(hp i=none∧∀b,Rel none b)) (hp_:∀i∈As p,S i)
  (hK:∀c m x,(∀i∈m++x,hp i≠none∧S i)->Rel (K c m x) (K' c m x)):Rel (Aeu mv hp t p K) (Aeu mv Cj t p K'):=by
 have frz:∀{t:CT} {p:PV},(∀i∈As p,S i)->Rel (Oc (Jp hp) t p fun c m=>K c m []) (Oc (Jp Cj) t p fun c m=>K' c m []):=fun h=>LI hn (OK hS h) fun c m hm=>hK _ _ _ fun i hi=>by
  rw[List.append_nil] at hi;exact⟨fun e=>(hm i hi).1 (K2 e),h i (hm i hi).2⟩
 unfold Aeu;split
 ·rename_i es;cases mv<;>simp only[cond_true,cond_false]
  ·exact frz hp_
  ·split
   ·rename_i id es' off n;rcases hS id (hp_ id (by simp[As])) with h|⟨h,hb⟩
    ·rw[←h];split
     ·rename_i c hc;cases (Nat.beq es' es&&Nat.beq off 0)<;>simp only[cond_true,cond_false]
      ·exact frz hp_
      ·exact A0 hn fun _=>hK _ _ _ fun i hi=>by
        simp only[List.nil_append,List.mem_singleton] at hi;subst hi;exact⟨by rw[hc];simp,hp_ i (by simp[As])⟩
     ·exact frz hp_
    ·rw[h]
     have:(Oc (Jp hp) (.sl es) (.view id es' off n) fun c m=>K c m [])=none:=by
      unfold Oc;simp only;cases Nat.beq es' es
      ·rfl
      ·simp only[cond_true,K2 h,C5]
     show Rel (Oc (Jp hp) (.sl es) (.view id es' off n) fun c m=>K c m []) _
     rw[this];exact hb _
   ·refine Fm hn fun z n c=>?_
    cases z
    ·exact hK _ _ _ (by simp)
    ·exact hK _ _ _ (by simp)
 ·exact Ox hn fun _=>hK _ _ _ (by simp)
theorem Rj (hn:Rel none none){mv:Bool}{S:Nat->Prop}(hS:∀i,S i->hp i=Cj i∨(hp i=none∧∀b,Rel none b)):∀{ts:List CT}{ps:List PV}{K:List PV->List Nat->List Nat->Option R}{K':List PV->List Nat->List Nat->Option R'},(∀p∈ps,∀i∈As p,S i) ->
  (∀c m x,(∀i∈m++x,hp i≠none∧S i)->Rel (K c m x) (K' c m x))->Rel (CC mv hp ts ps K) (CC mv Cj ts ps K')
 |[],[],_,_,_,hK=>hK _ _ _ (by simp)
 |[],_::_,_,_,_,_=>hn
 |_::_,[],_,_,_,_=>hn
 |_::_,p::ps,_,_,hp_,hK=>Aek hn hS (hp_ p (by simp)) fun _ m x hm=>Rj hn hS (fun q hq=>hp_ q (by simp[hq])) fun _ ms xs GP=>hK _ _ _ fun i hi=>by
   simp only[List.mem_append] at hi hm GP;rcases hi with (hi|hi)|(hi|hi)
   ·exact hm i (.inl hi)
   ·exact GP i (.inl hi)
   ·exact hm i (.inr hi)
   ·exact GP i (.inr hi)
theorem SF (hn:Rel none none){C:G1}{f:FuncId}{i:Nat}{t:TypeId}{p:PV}{K:PV->List Nat->List Nat->List Gm->Option R}{K':PV->List Nat->List Nat->List Gm->Option R'}{S:Nat->Prop}(hS:∀i,S i->hp i=Cj i∨(hp i=none∧∀b,Rel none b))
  (hp_:∀i∈Bx p,S i)(hc:∀i∈Bx p,∀c,Cj i=some (.st c)->∀q∈c,∀k∈As q,S k)
  (hK:∀v m x l,(∀i∈m++x++l.flatMap Gm.ids,hp i≠none∧S i)->Rel (K v m x l) (K' v m x l)):Rel (AQ C P f hp i t p K) (AQ C P f Cj i t p K'):=by
 unfold AQ;split
 ·split
  ·rename_i id off;have Bm:S id:=hp_ id (by simp[Bx,Cf,As])
   rcases hS id Bm with h|⟨h,hb⟩
   ·rw[h];split
    ·rename_i c IZ;refine A0 hn fun _=>Rj hn hS (fun q hq k hk=>hc id (by simp[Bx,Cf,As]) c IZ q (List.mem_of_mem_drop (List.mem_of_mem_take hq)) k hk) fun cs m x hm=>hK _ _ _ _ fun k hk=>?_
     rcases List.mem_append.1 hk with hk|hk
     ·exact hm k hk
     ·simp only[List.flatMap_cons,List.flatMap_nil,Gm.ids,List.append_nil,List.mem_singleton] at hk;subst hk;exact⟨by rw[h,IZ];simp,Bm⟩
    ·exact hn
   ·rw[h];exact hb _
  ·exact hn
 ·cases C.lnd f i
  ·cases B9 P t
   ·exact Rj hn hS (fun q hq k hk=>by
     simp at hq;subst hq;exact hp_ k (Kd hk)) fun cs m x hm=>Bk hn fun _ _ _=>E8 hn (hK _ _ _ _ (by simpa using hm))
   ·refine Jo hn fun cs EN=>Rj hn hS (fun q hq k hk=>hp_ k ?_) fun cs m x hm=>hK _ _ _ _ (by simpa using hm)
    subst EN;exact List.mem_flatMap.2 ⟨q,hq,hk⟩
  ·refine Dc hn fun e he=>?_
   unfold Ah3;split
   ·rename_i id es' off n;have Bm:S id:=hp_ id (by simp[Bx,Cf,As])
    rcases hS id Bm with h|⟨h,hb⟩
    ·rw[h];split
     ·rename_i c IZ;refine A0 hn fun _=>hK _ _ _ _ fun k hk=>?_
      simp only[List.nil_append,List.flatMap_cons,List.flatMap_nil,Gm.ids,List.append_nil,List.mem_singleton] at hk;subst hk;exact⟨by rw[h,IZ];simp,Bm⟩
     ·exact hn
    ·rw[h];exact hb _
   ·exact Fm hn fun _ _ _=>A0 hn fun _=>hK _ _ _ _ (by simp[Gm.ids])
theorem FJ (hn:Rel none none){C:G1}{f:FuncId}{S:Nat->Prop}(hS:∀i,S i->hp i=Cj i∨(hp i=none∧∀b,Rel none b)):∀{ts:List TypeId}{ps:List PV}{i:Nat}{K:List PV->List Nat->List Nat->List Gm->Option R}{K':List PV->List Nat->List Nat->List Gm->Option R'},
  (∀p∈ps,∀i∈Bx p,S i)->(∀p∈ps,∀i∈Bx p,∀c,Cj i=some (.st c)->∀q∈c,∀k∈As q,S k) ->
  (∀v m x l,(∀i∈m++x++l.flatMap Gm.ids,hp i≠none∧S i)->Rel (K v m x l) (K' v m x l))->Rel (LT C P f hp i ts ps K) (LT C P f Cj i ts ps K')
 |[],[],_,_,_,_,_,hK=>hK _ _ _ _ (by simp)
 |[],_::_,_,_,_,_,_,_=>hn
 |_::_,[],_,_,_,_,_,_=>hn
 |_::_,p::ps,_,_,_,hp_,hc,hK=>SF hn hS (hp_ p (by simp)) (hc p (by simp)) fun _ m x l hm=>FJ hn hS (fun q hq=>hp_ q (by simp[hq])) (fun q hq=>hc q (by simp[hq])) fun _ ms xs ls GP=>hK _ _ _ _ fun i hi=>by
   simp only[List.mem_append,List.flatMap_append] at hi hm GP;rcases hi with ((hi|hi)|(hi|hi))|(hi|hi)
   ·exact hm i (.inl (.inl hi))
   ·exact GP i (.inl (.inl hi))
   ·exact hm i (.inl (.inr hi))
   ·exact GP i (.inl (.inr hi))
   ·exact hm i (.inr hi)
   ·exact GP i (.inr hi)
theorem Aml (hn:Rel none none){t:Nat}{ct:CT}{was p:PV}{K:Nat->PV->List (Nat × Bs)->Option R} {K':Nat->PV->List (Nat × Bs)->Option R'} (hK:∀t c b,(∀q∈b,∃k,q.1=WU N k)->Rel (K t c b) (K' t c b)):Rel (Adt N t ct was p K) (Adt N t ct was p K'):=by
 unfold Adt;split
 ·split
  ·exact Ab7 hn fun _ _=>hK _ _ _ (by intro q hq;simp only[List.mem_singleton] at hq;subst hq;exact⟨t,rfl⟩)
  ·exact Fm hn fun _ _ _=>hK _ _ _ (by simp)
 ·exact Ox hn fun _=>hK _ _ _ (by simp)
theorem KN (hn:Rel none none):∀{cts:List CT}{ws ps:List PV}{t:Nat}{K:Nat->List PV->List (Nat × Bs)->Option R} {K':Nat->List PV->List (Nat × Bs)->Option R'},(∀t c b,(∀q∈b,∃k,q.1=WU N k)->Rel (K t c b) (K' t c b))->Rel (LY N t cts ws ps K) (LY N t cts ws ps K')
 |[],[],_,_,_,_,hK=>E8 hn (hK _ _ _ (by simp))
 |[],_::_,_,_,_,_,_=>hn
 |_::_,[],_,_,_,_,_=>hn
 |_::_,_::_,_,_,_,_,hK=>Bk hn fun _ _ _=>Aml hn fun _ _ b hb=>KN hn fun _ _ bs KC=>hK _ _ _ fun q hq=>by
   rcases List.mem_append.1 hq with h|h
   ·exact hb q h
   ·exact KC q h
theorem Ub (hn:Rel none none){S:Nat->Prop}{dst:Option Nat}:∀{l:List Gm}{ro:List (List PV)} {t:Nat}{h0 h1:Nat->Option Bs}{K:(Nat->Option Bs)->List (Nat × Bs)->Option R} {K':(Nat->Option Bs)->List (Nat × Bs)->Option R'},
  JY N S dst hp Cj h0 h1->(∀i∈l.flatMap Gm.ids,hp i≠none∧S i∧hp i=Cj i)->(∀h0' PB b,JY N S dst hp Cj h0' PB->(∀q∈b,∃k,q.1=WU N k)->Rel (K h0' b) (K' PB b))->Rel (Wy N t l ro h0 K) (Wy N t l ro h1 K')
 |[],_,_,_,_,_,_,hT,_,hK=>E8 hn (hK _ _ _ hT (by simp))
 |.var id off cts ws::l,ro,t,h0,h1,K,K',hT,hl,hK=>by
  unfold Wy;refine Bk hn fun cs ro _=>KN hn fun t' cs' bs KC=>?_
  have Bm:=hl id (by simp[Gm.ids])
  rw[←hT.same id Bm.2.2];split
  ·exact Ub hn (Tw Bm.2.1 Bm.1 hT) (fun i hi=>hl i (by simp only[List.flatMap_cons,List.mem_append];exact .inr hi)) fun h0' PB b hT' hb=>hK _ _ _ hT' fun q hq=>by
    rcases List.mem_append.1 hq with h|h
    ·exact KC q h
    ·exact hb q h
  ·exact hn
 |.row id::l,ro,t,h0,h1,K,K',hT,hl,hK=>by
  unfold Wy;have Bm:=hl id (by simp[Gm.ids])
  exact Bk hn fun cs ro _=>Ub hn (Tw Bm.2.1 Bm.1 hT) (fun i hi=>hl i (by simp only[List.flatMap_cons,List.mem_append];exact .inr hi)) hK
 |.none::l,ro,t,h0,h1,K,K',hT,hl,hK=>by
  unfold Wy;exact Bk hn fun cs ro _=>Ub hn hT (fun i hi=>hl i (by simp only[List.flatMap_cons,List.mem_append];exact .inr hi)) hK
theorem TS (h:∀i,N<=i->hp i=Cj i)(hN:0<N):∀k t,RG N hp k t=RG N Cj k t
 |0,_=>rfl
 |k+1,t=>by
  unfold RG;rw[h (WU N t) (by unfold WU;exact Nat.le_mul_of_pos_right _ (by omega)),TS h hN k (t+1)]
theorem LG {h0 h1:Nat->Option Bs}:∀{nw:List (Nat × Bs)},(∀q∈nw,h0 q.1=h1 q.1)->Bw h0 nw=Bw h1 nw
 |[],_=>rfl
 |(i,b)::nw,h=>by
  unfold Bw;rw[h (i,b) (by simp),LG (fun q hq=>h q (by simp[hq]))]
theorem HY {S:Nat->Prop}{dst:Option Nat}{h0 h1:Nat->Option Bs}(hT:JY N S dst hp Cj h0 h1):∀{nw:List (Nat × Bs)} {g0 g1:Nat->Option Bs},JY N S dst hp Cj g0 g1->(∀q∈nw,N<=q.1∨dst=some q.1)->(∀q∈nw,hp q.1=none)->JY N S dst hp Cj (At g0 nw) (At g1 nw)
 |[],_,_,h,_,_=>h
 |(i,b)::nw,g0,g1,h,hi,hz=>by
  refine HY hT (nw:=nw) ⟨fun k hk=>?_,fun k hN hd hk=>?_,fun k hk=>?_,fun k hn hk=>?_⟩ (fun q hq=>hi q (by simp[hq])) (fun q hq=>hz q (by simp[hq]))
  ·by_cases e:k=i
   ·subst e;rw[An];simp
   ·rw[Ak _ _ e];exact h.keep k hk
  ·have e:k≠i:=by
    rintro rfl
    rcases hi (k,b) (by simp) with q|q
    ·simp only at q;omega
    ·exact hd q
   rw[Ak _ _ e,Ak _ _ e];exact h.off k hN hd hk
  ·by_cases e:k=i
   ·subst e;rw[An,An]
   ·rw[Ak _ _ e,Ak _ _ e];exact h.same k hk
  ·rw[Ak _ _ (by rintro rfl;exact hk (hz (k,b) (by simp)))];exact h.far k hn hk
theorem Axa {S:Nat->Prop}{dst:Option Nat}{m x:List Nat}(hm:∀i∈m++x,hp i≠none∧S i):JY N S dst hp Cj (Ts (Ag hp m) x) (Ts (Ag Cj m) x):=by
 refine⟨fun i hi h=>?_,fun i hN hd hi=>?_,fun i hi=>?_,fun i hn hi=>?_⟩
 ·rw[F3] at h;have h1:Ag hp m i≠none:=fun e=>hi (D7.1 e)
  split at h
  ·cases hq:Ag hp m i with
   |none=>exact h1 hq
   |some b=>rw[hq] at h;cases h
  ·exact h1 h
 ·have e:i ∉ m∧i ∉ x:=by
   refine⟨fun h=>?_,fun h=>?_⟩<;>(rcases hi with hi|hi)
   ·exact hi (hm i (by simp[h])).2
   ·exact (hm i (by simp[h])).1 hi
   ·exact hi (hm i (by simp[h])).2
   ·exact (hm i (by simp[h])).1 hi
  rw[F3,F3,if_neg e.2,if_neg e.2,B0,B0,if_neg e.1,if_neg e.1];exact⟨rfl,rfl⟩
 ·rw[F3,F3,B0,B0,hi]
 ·rw[F3,B0,if_neg (fun h=>hn (hm i (by simp[h])).2),if_neg (fun h=>hn (hm i (by simp[h])).2)]
theorem TL (hn:Rel none none){C:G1}{call:Am}{f:FuncId}{c:Call}{K:St->Option R}{K':St->Option R'}{S:Nat->Prop}(Jq:c.args.toList.map (B3 tm)=c.args.toList.map (B3 tm')) (hS:∀i,S i->hp i=Cj i∨(hp i=none∧∀b,Rel none b))
  (hp_:∀p∈c.args.toList.map (B3 tm'),∀i∈Bx p,S i) (hc:∀p∈c.args.toList.map (B3 tm'),∀i∈Bx p,∀c,Cj i=some (.st c)->∀q∈c,∀k∈As q,S k)
  (KO:∀d,o.dst=some d->hp d=Cj d)(hNN:∀i,N<=i->hp i=Cj i)
  (hK:∀v Cy Fc,JY N S o.dst hp Cj Cy Fc->Rel (K ⟨Bp tm o.dst v,Cy⟩) (K' ⟨Bp tm' o.dst v,Fc⟩)):Rel (Z1 C P N call ⟨tm,hp⟩ o f c K) (Z1 C P N call ⟨tm',Cj⟩ o f c K'):=by
 unfold Z1;simp only[Jq];refine FJ hn hS hp_ hc fun vs m x l hm=>A0 hn fun hb=>KL hn fun rv ro=>Zt hn fun ws bs KC=>A0 hn fun _=>?_
 simp only[Bool.and_eq_true] at hb;have hN:0<N:=Nat.lt_of_succ_le (Nat.le_of_ble_eq_true hb.1.2);rw[TS hNN hN];by_cases Aew:∃i∈l.flatMap Gm.ids,hp i≠Cj i
 ·obtain⟨i,hi,E2⟩:=Aew;obtain⟨h1,h2⟩:=hm i (List.mem_append.2 (.inr hi));rcases hS i h2 with h|⟨h,_⟩
  ·exact absurd h E2
  ·exact absurd h h1
 have hl:∀i∈l.flatMap Gm.ids,hp i≠none∧S i∧hp i=Cj i:=fun i hi=>⟨(hm i (List.mem_append.2 (.inr hi))).1,(hm i (List.mem_append.2 (.inr hi))).2,Classical.byContradiction fun h=>Aew ⟨i,hi,h⟩⟩
 have hT0:JY N S o.dst hp Cj (Ts (Ag hp m) x) (Ts (Ag Cj m) x):=Axa fun i hi=>hm i (List.mem_append.2 (.inl hi))
 refine Ub hn hT0 hl fun h0 h1 bs' hT Bb0=>?_
 have Afu:∀q∈bs++bs',N<=q.1∨o.dst=some q.1:=by
  intro q hq;rcases List.mem_append.1 hq with hq|hq
  ·obtain⟨j,hj⟩:=KC q hq;cases hd:o.dst with
   |none=>
    rw[hd] at hj;left;rw[hj];exact Nat.le_add_right _ _
   |some d=>
    rw[hd] at hj;change q.1=d+N*j at hj;cases j with
    |zero=>right;rw[hj];simp
    |succ j=>left;rw[hj,Nat.mul_add];omega
  ·obtain⟨k,hk⟩:=Bb0 q hq;left;rw[hk];unfold WU;exact Nat.le_mul_of_pos_right _ (by omega)
 have BT:∀q∈bs++bs',h0 q.1=h1 q.1:=by
  intro q hq;refine hT.same q.1 ?_;rcases Afu q hq with h|h
  ·exact hNN _ h
  ·exact KO _ h
 rw[LG BT]
 exact A0 hn fun hb=>hK _ _ _ (HY hT hT Afu fun q hq=>by
  cases hz:hp q.1 with
  |none=>rfl
  |some c=>exact absurd ((BT q hq).trans ((Bn hb).1 q.1 q.2 hq)) (hT.keep q.1 (by rw[hz];simp)))
theorem Kb (hn:Rel none none){C:G1}{call:Am}{K:St->Option R}{K':St->Option R'}(Jq:∀x∈o.op.operands.toList,B3 tm x=B3 tm' x)
  (hS:∀i,V3 o tm' Cj i->hp i=Cj i∨(hp i=none∧∀b,Rel none b)) (KO:∀d,o.dst=some d->hp d=Cj d)(hNN:∀i,N<=i->hp i=Cj i)
  (hK:∀v Cy Fc,JY N (V3 o tm' Cj) o.dst hp Cj Cy Fc->Rel (K ⟨Bp tm o.dst v,Cy⟩) (K' ⟨Bp tm' o.dst v,Fc⟩)):Rel (Uz C P N call ⟨tm,hp⟩ o K) (Uz C P N call ⟨tm',Cj⟩ o K'):=by
 unfold Uz;have hl:∀x∈o.op.operands.toList,∀i∈Bx (B3 tm' x),V3 o tm' Cj i:=fun x hx i hi=>.inl ⟨x,hx,hi⟩
 have Ru:M9 o.op=false->∀x∈o.op.operands.toList,∀i∈Bx (B3 tm' x),∀c,Cj i=some (.st c)->∀q∈c,∀k∈As q,V3 o tm' Cj k:=fun ha x hx i hi c hc q hq k hk=>.inr ⟨ha,i,c,⟨x,hx,hi⟩,hc,q,hq,hk⟩
 generalize hLd:V3 o tm' Cj=S at *
 generalize hop:o.op=op at *
 split
 ·rename_i t x y;simp only[Jq x (by simp[Op.operands]),Jq y (by simp[Op.operands])]
  refine A0 hn fun hd=>RF (N:=N) hn hS (fun i hi=>hl x (by simp[Op.operands]) i (Kd hi)) (fun i hi=>hl y (by simp[Op.operands]) i (Fs hi)) fun Cy Fc hh=>?_
  have hd':=Option.isNone_iff_eq_none.1 hd;have:=hK .top Cy Fc (by rw[hd'];exact hh)
  rw[hd'] at this;exact this
 ·rename_i c
  have Jc:∀x∈c.args.toList,x∈(Op.call c).operands.toList:=by
   intro x hx;simp only[Op.operands,Call.operands,Array.toList_append,List.mem_append];exact .inr hx
  split
  ·rename_i hc;refine Dc hn fun d hd=>Bk hn fun x _ hx=>Bk hn fun y _ hy=>E8 hn (Bk hn fun _ _ _=>Bk hn fun _ _ _=>?_)
   subst hy;have hxm:=Jc x (by rw[hx];simp)
   have hym:=Jc y (by rw[hx];simp)
   simp only[Jq x hxm,Jq y hym];refine Yt hn hS (KO d hd) (fun i hi=>hl x hxm i (Fs hi)) (fun i hi=>hl y hym i (Fs hi)) fun v Cy Fc hh=>?_
   have:=hK v Cy Fc (by rw[hd];exact hh N)
   rw[hd] at this;exact this
  ·rename_i hc;refine Bk hn fun x _ hx=>Bk hn fun y _ hy=>E8 hn (Bk hn fun _ _ _=>Bk hn fun _ _ _=>?_)
   subst hy;have hxm:=Jc x (by rw[hx];simp)
   have hym:=Jc y (by rw[hx];simp)
   simp only[Jq x hxm,Jq y hym];exact XY hn hS (fun i hi=>hl x hxm i (Fs hi)) (fun i hi=>hl y hym i (Fs hi)) hK
  ·rename_i f hcf;refine TL hn (List.map_congr_left fun x hx=>Jq x (Jc x hx)) hS (fun p hp i hi=>?_) (fun p hp i hi=>?_) KO hNN hK
   ·obtain⟨x,hx,rfl⟩:=List.mem_map.1 hp;exact hl x (Jc x hx) i hi
   ·obtain⟨x,hx,rfl⟩:=List.mem_map.1 hp;exact Ru (by simp only[M9,hcf]) x (Jc x hx) i hi
  ·exact hn
 ·exact hn
theorem GV (hn:Rel none none){C:G1}{call:Am}{K:St->Option R}{K':St->Option R'}(Jq:∀x∈o.op.operands.toList,B3 tm x=B3 tm' x)(hK:∀v Cy,(∀i,hp i≠none->Cy i≠none)->Rel (K ⟨Bp tm o.dst v,Cy⟩) (K' ⟨Bp tm' o.dst v,Cy⟩)):Rel (Uz C P N call ⟨tm,hp⟩ o K) (Uz C P N call ⟨tm',hp⟩ o K'):=
 Kb hn Jq (fun _ _=>.inl rfl) (fun _ _=>rfl) (fun _ _=>rfl) fun v Cy Fc hT=>by
  have:Cy=Fc:=funext fun i=>hT.same i rfl
  subst this;exact hK v Cy hT.keep
end
section
variable {R:Type} {r:R} {C:G1} {P:Program} {N:Nat} {call:Am} {ops:Array Oper} {o x:Oper} {s:St} {K:St->Option R}
theorem OX {tm:Nat->PV}{hp Cy:Nat->Option Bs}{tm':Nat->PV}{q:S0}(hm:Hp P o.op=false)(ht:∀t∈looks ops o,tm t=tm' t)(h:gE C P N call ops o ⟨tm,hp⟩=some q):gE C P N call ops o ⟨tm',Cy⟩=some q:=
 Zh (s:=⟨tm,hp⟩) (s':=⟨tm',Cy⟩) ht (fun h=>by rw[hm] at h;cases h) h
theorem AA {tm:Nat->PV}{hp:Nat->Option Bs}(hm:Hp P o.op=false)(h:Dt C P N call ops o ⟨tm,hp⟩ K=some r):
  ∃v nw,gE C P N call ops o ⟨tm,hp⟩=some (v,[],nw)∧Gb N o.dst=true∧Bw hp nw=true∧(∀p∈nw,o.dst=some p.1)∧K ⟨Bp tm o.dst v,At hp nw⟩=some r:=by
 have hM:Rh C P o.op=false:=by
  cases hh:Rh C P o.op
  ·rfl
  ·rw[Yi hh] at hm;cases hm
 rw[J7 (by simp[Gq,hM])] at h
 cases e:gE C P N call ops o ⟨tm,hp⟩ with
 |none=>rw[e] at h;cases h
 |some q=>
  obtain⟨v,fz,nw⟩:=q;obtain⟨h1,h2⟩:=(Sr e).1 hm;simp only at h1 h2;subst h1;rw[e] at h;obtain⟨hb,h⟩:=Al h;simp only[Bool.and_eq_true] at hb;exact⟨v,nw,rfl,hb.1,hb.2,h2,h⟩
theorem FZ {tm:Nat->PV}{hp:Nat->Option Bs}{v:PV}{nw:List (Nat × Bs)} (hm:Hp P o.op=false)(e:gE C P N call ops o ⟨tm,hp⟩=some (v,[],nw)) (hd:Gb N o.dst=true)(ha:Bw hp nw=true)(h:K ⟨Bp tm o.dst v,At hp nw⟩=some r):Dt C P N call ops o ⟨tm,hp⟩ K=some r:=by
 have hM:Rh C P o.op=false:=by
  cases hh:Rh C P o.op
  ·rfl
  ·rw[Yi hh] at hm;cases hm
 rw[J7 (by simp[Gq,hM]),e]
 show A2 _ _=_;have ha':Bw hp nw=true:=ha;rw[hd,ha'];exact h
theorem Mj {hp:Nat->Option Bs}{nw:List (Nat × Bs)} (ha:Bw hp nw=true){i:Nat}(hi:∀p∈nw,p.1≠i):At hp nw i=hp i:=
 (Ei (Bn ha).2).2 i fun b hb=>hi _ hb rfl
theorem Aip {hp Cy:Nat->Option Bs}{nw:List (Nat × Bs)} (ha:Bw hp nw=true){g:Nat->Option Bs}(h1:∀i,(∀p∈nw,p.1≠i)->g i=Cy i) (h2:∀i,(∃p∈nw,p.1=i)->g i=At hp nw i) (ha':Bw Cy nw=true):g=At Cy nw:=by
 funext i
 by_cases h:∃p∈nw,p.1=i
 ·rw[h2 i h];obtain⟨⟨j,b⟩,hp,rfl⟩:=h;rw[(Ei (Bn ha).2).1 j b hp,(Ei (Bn ha').2).1 j b hp]
 ·have h':∀p∈nw,p.1≠i:=fun p hp e=>h ⟨p,hp,e⟩
  rw[h1 i h',Mj ha' h']
theorem Anc (ap:Yf C P ops x o)(hx:Gq C P ops x s.tm=true)
  (h:Dt C P N call ops x s (fun s1=>Dt C P N call ops o s1 K)=some r):Dt C P N call ops o s (fun s1=>Dt C P N call ops x s1 K)=some r:=by
 have hm:Hp P o.op=false:=ap.mx (by unfold Gq at hx;simp only[Bool.and_eq_true] at hx;exact hx.1)
 rw[Ig hx] at h;obtain⟨tm,hp⟩:=s;have look:∀v,∀t∈looks ops o,Bp tm x.dst v t=tm t:=fun v=>Et ap.xo
 have h1:=Kb (P:=P) (N:=N) (o:=x) (tm:=tm) (tm':=tm) (hp:=hp) (Cj:=hp) (K:=fun s1=>Dt C P N call ops o s1 K) (K':=fun _=>none)
  (Rel:=fun (a:Option R)(_:Option R)=>a=some r->∃v nw,gE C P N call ops o ⟨tm,hp⟩=some (v,[],nw)∧Gb N o.dst=true∧(∀p∈nw,o.dst=some p.1)∧Bw hp nw=true) (fun h=>by cases h) (fun _ _=>rfl) (fun _ _=>.inl rfl) (fun _ _=>rfl) (fun _ _=>rfl) (fun v Cy _ hT h=>by
   obtain⟨u,nw,hu,hd,ha,hn,_⟩:=AA hm h;refine⟨u,nw,OX hm (look v) hu,hd,hn,Ps ha fun i b hi=>?_⟩
   cases hh:hp i with
   |none=>rfl
   |some c=>exact absurd ((Bn ha).1 i b hi) (hT.keep i (by rw[hh];simp))) h
 obtain⟨v,nw,hv,hd,hn,ha⟩:=h1;refine FZ hm hv hd ha ?_;have t2:∀t∈looks ops x,tm t=Bp tm o.dst v t:=fun t ht=>(Et ap.ox t ht).symm
 rw[Ig (by rw[←Hj t2];exact hx)]
 refine Kb (P:=P) (N:=N) (o:=x) (tm:=tm) (tm':=Bp tm o.dst v) (hp:=hp) (Cj:=At hp nw) (Rel:=fun (a b:Option R)=>a=some r->b=some r) (fun h=>by cases h) (Fg t2) (fun i _=>?_) (fun d hxd=>?_) (fun i hi=>(Mj ha fun p hp e=>by have:=P7 hd (hn p hp);omega).symm) (fun u Cy Fc hT h=>?_) h
 ·by_cases hi:∃p∈nw,p.1=i
  ·obtain⟨⟨j,b⟩,Cj,rfl⟩:=hi;exact .inr ⟨(Bn ha).1 j b Cj,fun _ h=>by cases h⟩
  ·exact .inl (Mj ha fun p hp e=>hi ⟨p,hp,e⟩).symm
 ·refine (Mj ha fun p hp e=>?_).symm
  have:=hn p hp;rw[e] at this;exact ap.ne d hxd this
 ·obtain⟨v',nw',N2,_,ha',_,h'⟩:=AA hm h;have he:=OX (Cy:=hp) hm (look u) N2;rw[hv] at he;simp only[Option.some.injEq,Prod.mk.injEq,true_and] at he;obtain⟨rfl,rfl⟩:=he
  have hh:Fc=At Cy nw:=by
   refine Aip ha (fun i hi=>?_) (fun i hi=>?_) ha'
   ·exact (hT.same i (Mj ha hi).symm).symm
   ·obtain⟨⟨j,b⟩,Cj,rfl⟩:=hi;refine (hT.off j (P7 hd (hn _ Cj)) (fun e=>ap.ne j e (hn _ Cj)) (.inr ((Bn ha).1 j b Cj))).2
  rw[hh,←J9 ap.ne];exact h'
theorem Aoz (hw:WR C P o s)(ap:Yf C P ops x o)(ho:Gq C P ops o s.tm=true)
  (h:Dt C P N call ops x s (fun s1=>Dt C P N call ops o s1 K)=some r):Dt C P N call ops o s (fun s1=>Dt C P N call ops x s1 K)=some r:=by
 have hm:Hp P x.op=false:=ap.mo (by unfold Gq at ho;simp only[Bool.and_eq_true] at ho;exact ho.1)
 obtain⟨tm,hp⟩:=s;obtain⟨v,nw,hv,hd,ha,hn,h1⟩:=AA hm h;have t1:∀t∈looks ops o,Bp tm x.dst v t=tm t:=Et ap.xo;change Dt C P N call ops o ⟨Bp tm x.dst v,At hp nw⟩ K=some r at h1;rw[Ig (by rw[Hj t1];exact ho)] at h1
 rw[Ig ho];have hMo:Rh C P o.op=true:=by unfold Gq at ho;simp only[Bool.and_eq_true] at ho;exact ho.1
 have Ar9:∀i,V3 o tm hp i->hp i≠none:=by
  rintro i (⟨y,hy,hi⟩|⟨Sk,id,c,⟨y,hy,hi⟩,hc,p,Cj,hk⟩)
  ·exact hw.1 y hy i hi
  ·exact hw.2 hMo Sk y hy id hi c hc p Cj i hk
 refine Kb (P:=P) (N:=N) (o:=o) (tm:=Bp tm x.dst v) (tm':=tm) (hp:=At hp nw) (Cj:=hp) (Rel:=fun (a b:Option R)=>a=some r->b=some r) (fun h=>by cases h) (Fg t1) (fun i hi=>?_) (fun d hod=>?_) (fun i hi=>Mj ha fun p hp e=>by have:=P7 hd (hn p hp);omega) (fun u Cy Fc hT h=>?_) h1
 ·refine .inl (Mj ha fun p Cy e=>Ar9 i hi ?_)
  rw[←e];exact (Bn ha).1 p.1 p.2 Cy
 ·refine Mj ha fun p Cy e=>?_
  have:=hn p Cy;rw[e] at this;exact ap.ne d this hod
 ·have Pj:∀p∈nw,Cy p.1=At hp nw p.1∧Fc p.1=none:=by
   intro p hp2;have Y2:=(Bn ha).1 p.1 p.2 hp2;have h3:=hT.off p.1 (P7 hd (hn p hp2)) (fun e=>ap.ne p.1 (hn p hp2) e) (.inl fun hL=>Ar9 _ hL Y2)
   exact⟨h3.1,h3.2.trans Y2⟩
  have ha':Bw Fc nw=true:=Ps ha fun i b hi=>(Pj (i,b) hi).2
  refine FZ hm (OX hm (fun t ht=>(Et ap.ox t ht).symm) hv) hd ha' ?_
  have hh:Cy=At Fc nw:=by
   refine Aip ha (fun i hi=>?_) (fun i hi=>?_) ha'
   ·exact hT.same i (Mj ha hi)
   ·obtain⟨p,hp2,rfl⟩:=hi;exact (Pj p hp2).1
  rw[←J9 ap.ne,←hh];exact h
theorem swap (hw:WR C P o s)(ap:Yf C P ops x o)
  (h:Dt C P N call ops x s (fun s1=>Dt C P N call ops o s1 K)=some r):Dt C P N call ops o s (fun s1=>Dt C P N call ops x s1 K)=some r:=by
 cases hx:Gq C P ops x s.tm
 ·cases ho:Gq C P ops o s.tm
  ·exact Abq hw ap.xo ap.ne ap.ox hx ho h
  ·exact Aoz hw ap ho h
 ·exact Anc ap hx h
theorem Km (h:Su P o.op=true):Rh C P o.op=false:=by
 unfold Su at h;split at h
 ·rename_i ho;rw[ho];rfl
 ·rename_i ho;rw[ho];rfl
 ·cases h
def KA (P:Program)(ops:Array Oper)(o:Oper)(tm:Nat->PV):Prop:=Su P o.op=true∨Gz ops o tm=some false
theorem Wi {tm tm':Nat->PV}(h:∀t∈looks ops o,tm t=tm' t)(hl:KA P ops o tm):KA P ops o tm':=by
 rcases hl with hl|hl
 ·exact .inl hl
 ·exact .inr (by rw[←Kq h];exact hl)
theorem KJ {tm:Nat->PV}(hl:KA P ops o tm):Gq C P ops o tm=false:=by
 rcases hl with hl|hl
 ·simp[Gq,Km hl]
 ·simp[Gq,hl]
theorem Aci {q:S0}(hl:KA P ops o s.tm)(h:gE C P N call ops o s=some q):q.2.1=[]∧q.2.2=[]:=by
 unfold gE at h;split at h
 ·cases h
 ·rename_i hv
  have hl:Su P o.op=true:=by
   rcases hl with hl|hl
   ·exact hl
   ·rw[hv] at hl;cases hl
  rw[Km hl] at h;have h:Aem C P N call o s=some q:=h;unfold Su at hl;split at hl
  ·rename_i t a ho;unfold Aem HT at h;rw[ho] at h
   have:=MO (nz:=C.nz N) (P:=P) (f:=rd s.hp) (f':=rd s.hp) (g:=Jp s.hp) (g':=Jp s.hp) (t:=t) (x:=B3 s.tm a) (Rel:=fun (a b:Option S0)=>∀q,a=some q->q.2.1=[]∧q.2.2=[])
    (K:=fun v=>some (v,[],[])) (K':=fun v=>some (v,[],[])) (fun _ h=>by cases h) (fun _ _=>.inl ⟨rfl,rfl⟩) (fun v q hq=>by cases hq;exact⟨rfl,rfl⟩)
   exact this q h
  ·rename_i src dst y ho;unfold Aem HT at h;rw[ho] at h;simp only at h;unfold HZ at h;split at hl
   ·rename_i hd;rw[hd] at h;simp only at h;split at h
    ·obtain⟨_,_,h⟩:=Dq h;obtain⟨_,_,h⟩:=Ce h;cases h;exact⟨rfl,rfl⟩
    ·split at h
     ·exact Pz (f:=Jp s.hp) (f':=Jp s.hp) (K':=fun _ _=>(none:Option S0)) (Rel:=fun (a _:Option S0)=>a=some q->q.2.1=[]∧q.2.2=[]) (fun h=>by cases h) (fun _ _=>.inl rfl) (fun n c h=>by
       obtain⟨_,h⟩:=Al h;obtain⟨_,_,h⟩:=Ce h;obtain⟨_,_,h⟩:=Ce h;cases h;exact⟨rfl,rfl⟩) h
     ·exact Pz (f:=Jp s.hp) (f':=Jp s.hp) (K':=fun _ _=>(none:Option S0)) (Rel:=fun (a _:Option S0)=>a=some q->q.2.1=[]∧q.2.2=[]) (fun h=>by cases h) (fun _ _=>.inl rfl) (fun n c h=>by
       obtain⟨_,h⟩:=Al h;obtain⟨_,_,h⟩:=Ce h;obtain⟨_,_,h⟩:=Ce h;cases h;exact⟨rfl,rfl⟩) h
     ·cases h
    ·cases h
   ·cases hl
  ·cases hl
 ·cases h;exact⟨rfl,rfl⟩
theorem Af6 {tm tm':Nat->PV}{hp:Nat->Option Bs}(h:∀t∈looks ops o,tm t=tm' t){i:Nat}(hi:V3 o tm hp i):V3 o tm' hp i:=by
 have he:=Fg (ops:=ops) (o:=o) h;rcases hi with⟨y,hy,hi⟩|⟨Sk,id,c,⟨y,hy,hi⟩,hc,q⟩
 ·exact .inl ⟨y,hy,by rw[←he y hy];exact hi⟩
 ·exact .inr ⟨Sk,id,c,⟨y,hy,by rw[←he y hy];exact hi⟩,hc,q⟩
theorem Arv {hp Cy:Nat->Option Bs}{i:Nat}(h:Cy i=hp i):rd Cy i=rd hp i∧Jp Cy i=Jp hp i:=by
 unfold rd Jp;rw[h];exact⟨rfl,rfl⟩
theorem Z8 {tm:Nat->PV}{hp:Nat->Option Bs}(hl:KA P ops o tm)(h:Dt C P N call ops o ⟨tm,hp⟩ K=some r):
  ∃v,gE C P N call ops o ⟨tm,hp⟩=some (v,[],[])∧Gb N o.dst=true∧K ⟨Bp tm o.dst v,hp⟩=some r:=by
 rw[J7 (KJ hl)] at h;cases e:gE C P N call ops o ⟨tm,hp⟩ with
 |none=>rw[e] at h;cases h
 |some q=>
  obtain⟨v,fz,nw⟩:=q;obtain⟨h1,h2⟩:=Aci hl e;simp only at h1 h2;subst h1;subst h2;rw[e] at h;obtain⟨hb,h⟩:=Al h;simp only[Bool.and_eq_true] at hb;exact⟨v,rfl,hb.1,h⟩
theorem IJ {tm:Nat->PV}{hp:Nat->Option Bs}{v:PV}(hl:KA P ops o tm)(e:gE C P N call ops o ⟨tm,hp⟩=some (v,[],[])) (hd:Gb N o.dst=true)(h:K ⟨Bp tm o.dst v,hp⟩=some r):Dt C P N call ops o ⟨tm,hp⟩ K=some r:=by
 rw[J7 (KJ hl),e];show A2 _ _=_;have ha:Bw hp []=true:=rfl;simp only[hd,ha,Bool.and_self];exact h
theorem Ant (hw:WR C P o s)(xo:∀d,x.dst=some d->d ∉ looks ops o)(ne:∀d,x.dst=some d->o.dst≠some d)(ox:∀d,o.dst=some d->d ∉ looks ops x)(hl:KA P ops o s.tm)
  (UQ:∀y∈o.op.operands.toList,∀i∈Bx (B3 s.tm y),¬V3 x s.tm s.hp i) (hx:Gq C P ops x s.tm=true)
  (h:Dt C P N call ops x s (fun s1=>Dt C P N call ops o s1 K)=some r):Dt C P N call ops o s (fun s1=>Dt C P N call ops x s1 K)=some r:=by
 rw[Ig hx] at h;obtain⟨tm,hp⟩:=s;have look:∀v,∀t∈looks ops o,Bp tm x.dst v t=tm t:=fun v=>Et xo
 have Ay5:∀{u:PV} {Cy:Nat->Option Bs} {q:S0},(∀y∈o.op.operands.toList,∀i∈Bx (B3 tm y),Cy i=hp i)->gE C P N call ops o ⟨Bp tm x.dst u,Cy⟩=some q->gE C P N call ops o ⟨tm,hp⟩=some q:=
  fun hh e=>Zh (s:=⟨Bp tm x.dst _,_⟩) (s':=⟨tm,hp⟩) (look _) (fun _ y hy i hi=>.inl (Arv (hh y hy i hi))) e
 have h1:=Kb (P:=P) (N:=N) (o:=x) (tm:=tm) (tm':=tm) (hp:=hp) (Cj:=hp) (K:=fun s1=>Dt C P N call ops o s1 K) (K':=fun _=>none)
  (Rel:=fun (a:Option R)(_:Option R)=>a=some r->∃v,gE C P N call ops o ⟨tm,hp⟩=some (v,[],[])∧Gb N o.dst=true) (fun h=>by cases h) (fun _ _=>rfl) (fun _ _=>.inl rfl) (fun _ _=>rfl) (fun _ _=>rfl) (fun v Cy _ hT h=>by
   obtain⟨u,hu,hd,_⟩:=Z8 (Wi (fun t ht=>(look v t ht).symm) hl) h
   exact⟨u,Ay5 (fun y hy i hi=>hT.far i (UQ y hy i hi) (hw.1 y hy i hi)) hu,hd⟩) h
 obtain⟨v,hv,hd⟩:=h1;refine IJ hl hv hd ?_;have t2:∀t∈looks ops x,tm t=Bp tm o.dst v t:=fun t ht=>(Et ox t ht).symm
 rw[Ig (by rw[←Hj t2];exact hx)]
 refine Kb (P:=P) (N:=N) (o:=x) (tm:=tm) (tm':=Bp tm o.dst v) (hp:=hp) (Cj:=hp) (Rel:=fun (a b:Option R)=>a=some r->b=some r) (fun h=>by cases h) (Fg t2) (fun _ _=>.inl rfl) (fun _ _=>rfl) (fun _ _=>rfl) (fun u Cy Fc hT h=>?_) h
 have e1:Cy=Fc:=funext fun i=>hT.same i rfl
 subst e1;obtain⟨v',N2,_,h'⟩:=Z8 (Wi (fun t ht=>(look u t ht).symm) hl) h
 have he:=Ay5 (fun y hy i hi=>hT.far i (fun hR=>UQ y hy i hi (Af6 (fun t ht=>(t2 t ht).symm) hR)) (hw.1 y hy i hi)) N2
 rw[hv] at he;simp only[Option.some.injEq,Prod.mk.injEq,and_true] at he;subst he;rw[←J9 ne];exact h'
theorem Arg (xo:∀d,x.dst=some d->d ∉ looks ops o)(ne:∀d,x.dst=some d->o.dst≠some d)(ox:∀d,o.dst=some d->d ∉ looks ops x)(hl:KA P ops x s.tm)
  (UQ:∀y∈x.op.operands.toList,∀i∈Bx (B3 s.tm y),¬V3 o s.tm s.hp i) (ho:Gq C P ops o s.tm=true)
  (h:Dt C P N call ops x s (fun s1=>Dt C P N call ops o s1 K)=some r):Dt C P N call ops o s (fun s1=>Dt C P N call ops x s1 K)=some r:=by
 obtain⟨tm,hp⟩:=s;obtain⟨v,hv,hd,h1⟩:=Z8 hl h;have t1:∀t∈looks ops o,Bp tm x.dst v t=tm t:=Et xo;rw[Ig (by rw[Hj t1];exact ho)] at h1
 rw[Ig ho];refine Kb (P:=P) (N:=N) (o:=o) (tm:=Bp tm x.dst v) (tm':=tm) (hp:=hp) (Cj:=hp) (Rel:=fun (a b:Option R)=>a=some r->b=some r) (fun h=>by cases h) (Fg t1) (fun _ _=>.inl rfl) (fun _ _=>rfl) (fun _ _=>rfl) (fun u Cy Fc hT h=>?_) h1
 have e1:Cy=Fc:=funext fun i=>hT.same i rfl
 subst e1;have t2:∀t∈looks ops x,tm t=Bp tm o.dst u t:=fun t ht=>(Et ox t ht).symm
 refine IJ (Wi t2 hl) (Zh (s:=⟨tm,hp⟩) (s':=⟨Bp tm o.dst u,Cy⟩) t2 (fun _ y hy i hi=>?_) hv) hd ?_
 ·have hi:i∈Bx (B3 tm y):=by rw[Fg t2 y hy];exact hi
  by_cases hn:hp i=none
  ·exact .inr ⟨Ab2 hn,K2 hn⟩
  ·obtain⟨h3,h4⟩:=Arv (hT.far i (UQ y hy i hi) hn);exact .inl ⟨h3.symm,h4.symm⟩
 ·rw[←J9 ne];exact h
def MB (P:Program)(x:Oper)(s s1:St):Prop:=(∀t,x.dst≠some t->s1.tm t=s.tm t)∧(∀i,s.hp i≠none->s1.hp i≠none)∧(Hp P x.op=false->∀i,s.hp i≠none->s1.hp i=s.hp i)
theorem Ou {tm:Nat->PV}{d:Option Tmp}{v:PV}{t:Nat}(h:d≠some t):Bp tm d v t=tm t:=by
 cases d with
 |none=>rfl
 |some d=>exact Ak _ _ (by rintro rfl;exact h rfl)
theorem GE {K':St->Option R}(h:Dt C P N call ops x s K=some r)(hK:∀s1,MB P x s s1->K s1=some r->K' s1=some r):Dt C P N call ops x s K'=some r:=by
 cases hx:Gq C P ops x s.tm
 ·rw[J7 hx] at h ⊢;cases ex:gE C P N call ops x s with
  |none=>rw[ex] at h;cases h
  |some q=>
   rw[ex] at h;obtain⟨hb,h1⟩:=Al h;simp only[Bool.and_eq_true] at hb;show A2 _ _=_;rw[hb.1,hb.2];refine hK _ ⟨fun t ht=>Ou ht,fun i hi=>Na hb.2 hi,fun hm i hi=>?_⟩ h1
   show At (Ag s.hp q.2.1) q.2.2 i=s.hp i;rw[Fw hb.2 hi,((Sr ex).1 hm).1];simp
 ·rw[Ig hx] at h ⊢
  exact GV (P:=P) (N:=N) (o:=x) (tm:=s.tm) (tm':=s.tm) (hp:=s.hp) (Rel:=fun (a b:Option R)=>a=some r->b=some r) (fun h=>by cases h) (fun _ _=>rfl) (fun v Cy hh h=>hK _ ⟨fun t ht=>Ou ht,hh,fun hm=>by
   have hM:Rh C P x.op=true:=by unfold Gq at hx;simp only[Bool.and_eq_true] at hx;exact hx.1
   rw[Yi hM] at hm;cases hm⟩ h) h
theorem WR.keeps {s1:St}(h:WR C P o s)(ap:Yf C P ops x o)(hk:MB P x s s1):WR C P o s1:=by
 have hop:∀y∈o.op.operands.toList,B3 s1.tm y=B3 s.tm y:=fun y hy=>Fg (ops:=ops) (o:=o) (fun t ht=>hk.1 t fun hd=>ap.xo t hd ht) y hy
 refine⟨fun y hy i hi=>?_,fun hM hA y hy i hi c hc p hp k hkk=>?_⟩
 ·rw[hop y hy] at hi;exact hk.2.1 i (h.1 y hy i hi)
 ·rw[hop y hy] at hi;have hi0:=h.1 y hy i hi;rw[hk.2.2 (ap.mo hM) i hi0] at hc;exact hk.2.1 k (h.2 hM hA y hy i hi c hc p hp k hkk)
theorem GX:∀(l:List Oper){s:St}{K:St->Option R},WR C P o s->(∀x∈l,Yf C P ops x o)->Nf C P N call ops l s (fun s1=>Dt C P N call ops o s1 K)=some r->Dt C P N call ops o s (fun s1=>Nf C P N call ops l s1 K)=some r
 |[],_,_,_,_,h=>h
 |x::l,s,K,hw,ap,h=>by
  refine swap hw (ap x (by simp)) ?_
  refine GE (K:=fun s1=>Nf C P N call ops l s1 (fun s2=>Dt C P N call ops o s2 K)) h fun s1 hk h1=>?_
  exact GX l (hw.keeps (ap x (by simp)) hk) (fun y hy=>ap y (List.mem_cons_of_mem _ hy)) h1
theorem S4:∀(l l':List Oper){s:St}{K:St->Option R},Nf C P N call ops (l++l') s K=Nf C P N call ops l s (fun s1=>Nf C P N call ops l' s1 K)
 |[],_,_,_=>rfl
 |x::l,l',s,K=>by
  show Dt C P N call ops x s (fun s1=>Nf C P N call ops (l++l') s1 K)=Dt C P N call ops x s (fun s1=>Nf C P N call ops l s1 _)
  congr 1
  funext s1
  exact S4 l l'
theorem Agl {l l':List Oper}(hw:WR C P o s)(ap:∀x∈l,Yf C P ops x o)(h:Nf C P N call ops (l++o::l') s K=some r):Dt C P N call ops o s (fun s1=>Nf C P N call ops (l++l') s1 K)=some r:=by
 rw[S4] at h;have:=GX l hw ap h;refine GE this fun s1 _ h1=>?_
 rw[S4];exact h1
end
open Go.RowKit
section
variable {R:Type} {r:R} {P:Program} {N:Nat} {w0:World} {X0:H0} {Y:Nat->Prop} {β β':Bt} {s:St} {a:Act} {w w':World} {o:Oper} {ops:Array Oper} {C:G1} {call:Am} {K:St->Option R}
theorem GF (h:Cw N w0 X0 Y β s a w){j d:Nat}(hd:(ops[j]?).bind (·.dst)=some d) {v:Value}(ht:s.tm d=.sc v):yielded ops a.tmps j=match v with | .bool b=>some b|_=>none:=by
 have Cb:d<N:=by
  rcases Nat.lt_or_ge d N with h'|h'
  ·exact h'
  ·rw[h.tmo d h'] at ht;cases ht
 have hv:=h.tms d Cb;rw[ht] at hv;have hv:=AF hv;have Al0:d<a.tmps.size:=by rw[h.tsz];exact Cb
 have he:a.tmps[d]?=some v:=by
  rw[Array.getElem?_eq_getElem Al0];simp[Al0] at hv;rw[hv]
 unfold yielded;rw[hd];simp only[Option.bind_some,he];cases v<;>rfl
theorem V5 (h:Cw N w0 X0 Y β s a w){G:Xg}(Ko:RV P G w0 X0)(Dz:∀f args res,call f args=some res->Dh G P f args res){i:Nat}(hi:ops[i]?=some o) (hk:Dt C P N call ops o s K=some r):
  ∃s',K s'=some r∧∀(next:Act->World->Prop) (Q:Exit->Act->World->Prop),(∀a' w' β',Cw N w0 X0 Y β' s' a' w'->next a' w')->wpOp P ops Q i next a w:=by
 rw[PL] at hk
 have hw:∀b,Gz ops o s.tm=some b->Region.wanted o (yielded ops a.tmps)=b:=by
  intro b hb;unfold Gz at hb;unfold Region.wanted;cases hg:o.guard with
  |none=>rw[hg] at hb;simpa using hb
  |some q=>
   obtain⟨j,want⟩:=q;rw[hg] at hb;simp only at hb ⊢;cases hd:(ops[j]?).bind (·.dst) with
   |none=>rw[hd] at hb;cases hb
   |some d=>
    rw[hd] at hb;simp only at hb;split at hb
    ·rename_i b' ht;rw[GF h hd ht];simp at hb;rw[←hb];cases b'<;>cases want<;>rfl
    ·rename_i ht;rw[GF h hd ht];simp at hb;rw[hb];rfl
    ·cases hb
 split at hk
 ·cases hk
 ·rename_i hv;obtain⟨s',hs',hn⟩:=YG h Ko Dz hk;refine⟨s',hs',fun next Q Ajk=>?_⟩
  unfold wpOp;rw[hi];simp only[hw _ hv,if_true];exact .inl (hn next Q Ajk)
 ·rename_i hv;obtain⟨hd,hk⟩:=Al hk;refine⟨_,hk,fun next Q Ajk=>?_⟩
  unfold wpOp;rw[hi];simp only[hw _ hv];refine Ajk _ _ β (h.put hd (Ay.sc _) (by simp[Bx,Cf,As]))
theorem Cw.known (h:Cw N w0 X0 Y β s a w){d:Nat}(hd:s.tm d=.ub):∃b,Cw N w0 X0 Y β ⟨Cs s.tm d (.sc (.bool b)),s.hp⟩ a w:=by
 have Cb:d<N:=by
  rcases Nat.lt_or_ge d N with h'|h'
  ·exact h'
  ·rw[h.tmo d h'] at hd;cases hd
 have hu:=h.tms d Cb;rw[hd] at hu;have I3:Ay w (Db s.hp β Y) .ub (a.tmps.getD d undef):=hu
 obtain⟨b,hv⟩:∃b,a.tmps.getD d undef=.bool b:=by
  generalize a.tmps.getD d undef=x at I3;cases I3 with
  |ub b=>exact⟨b,rfl⟩
 refine⟨b,⟨h.dfr,h.tsz,fun i hi=>?_,fun i hi=>?_,h.box,h.inj,h.blt,fun i hi=>?_,h.wfB,h.ownd,h.rngB,h.pin,h.stp,h.Yx,h.Ylt,h.fr⟩⟩
 ·show Cs s.tm d _ i=_;rw[Ak _ _ (by omega)]
  exact h.tmo i hi
 ·by_cases e:i=d
  ·subst e;show El _ _ _ (Cs s.tm i _ i) _;rw[An,hv];exact Ay.sc _
  ·show El _ _ _ (Cs s.tm d _ i) _;rw[Ak _ _ e];exact h.tms i hi
 ·by_cases e:i=d
  ·subst e;show ∀id∈Bx (Cs s.tm i _ i),_;rw[An];simp[Bx,Cf,As]
  ·show ∀id∈Bx (Cs s.tm d _ i),_;rw[Ak _ _ e];exact h.wfT i hi
theorem ME {x y:Option R}(h:KE x y=some r):x=some r∧y=some r:=by
 unfold KE at h;split at h
 ·rename_i e;exact⟨h,e ▸ h⟩
 ·cases h
theorem PJ (h:Cw N w0 X0 Y β s a w){F:St->Option R}(hk:XQ ops o s F=some r):∃s',F s'=some r∧Cw N w0 X0 Y β s' a w:=by
 unfold XQ at hk;split at hk
 ·exact⟨s,hk,h⟩
 ·split at hk
  ·exact⟨s,hk,h⟩
  ·split at hk
   ·rename_i d _ ht;obtain⟨b,hb⟩:=h.known ht;obtain⟨h1,h2⟩:=ME hk;cases b
    ·exact⟨_,h2,hb⟩
    ·exact⟨_,h1,hb⟩
   ·exact⟨s,hk,h⟩
theorem Y1 {G:Xg}(Ko:RV P G w0 X0)(Dz:∀f args res,call f args=some res->Dh G P f args res){Q:Exit->Act->World->Prop}(hQ:∀s' a' w' β',K s'=some r->Cw N w0 X0 Y β' s' a' w'->Q .normal a' w'):
  ∀(l:List Nat) (os:List Oper),l.length=os.length->(∀(k i:Nat),l[k]?=some i->ops[i]?=os[k]?)->∀{s:St} {a:Act} {w:World} {β:Bt},Cw N w0 X0 Y β s a w->PS C P N call ops os s K=some r->wpOps P ops Q l a w
 |[],[],_,_,s,a,w,β,h,hk=>by
  show Q .normal a w;exact hQ s a w β hk h
 |[],_::_,hl,_,_,_,_,_,_,_=>by cases hl
 |_::_,[],hl,_,_,_,_,_,_,_=>by cases hl
 |i::l,o::os,hl,hi,s,a,w,β,h,hk=>by
  rw[wpOps_cons];obtain⟨s1,hk,h⟩:=PJ h hk;obtain⟨s',hs',hn⟩:=V5 h Ko Dz (by simpa using hi 0 i rfl) hk
  exact hn _ _ fun a' w' β' h'=>Y1 Ko Dz hQ l os (by simpa using hl) (fun k j hj=>by simpa using hi (k+1) j (by simpa using hj)) h' hs'
theorem Cw.drew (h:Cw N w0 X0 Y β s a w):Cw N w0 X0 Y β s a { w with drawn:=w.drawn+1 }:=by
 have:=h.stepR (d:=none) (v:=.top) (nw:=[]) (val:=undef) (w':={ w with drawn:=w.drawn+1 }) (β':=β) rfl rfl
  ⟨rfl,rfl,rfl,⟨Nat.le_refl _,fun _ _ _=>rfl,fun _ _=>Hh.refl _ _⟩,fun _ _=>rfl,by simp,by simp,by simp,by simp,by simp,.top _,by simp[Bx,Cf,As]⟩
 exact this
theorem NF (h:Cw N w0 X0 Y β s a w){G:Xg}(Ko:RV P G w0 X0)(Dz:∀f args res,call f args=some res->Dh G P f args res){id:Nat}{Q:Exit->Act->World->Prop}
  (hk:PS C P N call ops ops.toList s K=some r)(hQ:∀s' a' w' β',K s'=some r->Cw N w0 X0 Y β' s' a' w'->Q .normal a' w'):(Code.region id ops false).wp P Q a w:=by
 refine wp_region (Y1 Ko Dz hQ (List.range ops.size) ops.toList (by simp) (fun k i hi=>?_) h hk)
 rw[List.getElem?_range] at hi
 ·simp at hi;subst hi;simp
 ·rcases Nat.lt_or_ge k ops.size with h'|h'
  ·exact h'
  ·rw[List.getElem?_eq_none (by simpa using h')] at hi;cases hi
def Ml (n:Nat)(listed:Array Bool):List Nat:=(List.range n).filter fun i=> !listed.getD i true
def Azq (ops:Array Oper)(listed:Array Bool)(o:Oper):Prop:=∀e∈o.after,Region.binds .any e=true->listed.getD e.on false=true
theorem testBit_or {a b j:Nat}:(a ||| b).testBit j=(a.testBit j||b.testBit j):=Nat.testBit_or a b j
theorem LK {acc:List Nat}{j:Nat}:∀(es:List Edge)(v:Nat),(es.foldl (fun s e=>bif Region.binds .any e then s ||| 2 ^ e.on ||| acc.getD e.on 0 else s) v).testBit j=true ->
  v.testBit j=true∨∃e∈es,Region.binds .any e=true∧(j=e.on∨(acc.getD e.on 0).testBit j=true)
 |[],v,h=>.inl h
 |e::es,v,h=>by
  rcases LK es _ h with h|⟨e',he',h⟩
  ·cases hb:Region.binds .any e<;>simp only[hb] at h
   ·exact .inl h
   ·simp only[cond_true,Nat.testBit_or,Bool.or_eq_true] at h;rcases h with (h|h)|h
    ·exact .inl h
    ·refine .inr ⟨e,by simp,hb,.inl ?_⟩
     rw[Nat.testBit_two_pow] at h;exact (of_decide_eq_true h).symm
    ·exact .inr ⟨e,by simp,hb,.inr h⟩
  ·exact .inr ⟨e',by simp[he'],h⟩
theorem Rk {listed:Array Bool}(hc:∀(j:Nat) oj,ops[j]?=some oj->listed.getD j false=true->Azq ops listed oj):
  ∀(rest done:List Oper) (acc:List Nat),ops.toList=done++rest->acc.length=done.length ->
   (∀(k:Nat) o,done[k]?=some o->Azq ops listed o->∀j,(acc.getD k 0).testBit j=true->listed.getD j false=true) ->
   ∀(k:Nat) o,ops[k]?=some o->Azq ops listed o->∀j,((Ic rest acc).getD k 0).testBit j=true->listed.getD j false=true
 |[],done,acc,he,_,h,k,o,ho,hf,j,hj=>by
  refine h k o ?_ hf j hj;rw[List.append_nil] at he;rw[←he]
  simpa using ho
 |o'::rest,done,acc,he,hl,h,k,o,ho,hf,j,hj=>by
  refine Rk hc rest (done++[o']) _ (by rw[he];simp) (by simp[hl]) ?_ k o ho hf j hj
  intro k o ho hf j hj;rcases Nat.lt_trichotomy k done.length with Cb|heq|hgt
  ·rw[List.getElem?_append_left Cb] at ho;rw[List.getD_eq_getElem?_getD,List.getElem?_append_left (by omega),←List.getD_eq_getElem?_getD] at hj
   exact h k o ho hf j hj
  ·subst heq;simp at ho;subst ho;rw[←hl] at hj;simp only[List.getD_eq_getElem?_getD,List.getElem?_append_right (Nat.le_refl _),Nat.sub_self,List.getElem?_cons_zero,Option.getD_some] at hj
   have hj:(o'.after.toList.foldl (fun s e=>bif Region.binds .any e then s ||| 2 ^ e.on ||| acc.getD e.on 0 else s) 0).testBit j=true:=by
    simpa only[List.getD_eq_getElem?_getD] using hj
   rcases LK _ _ hj with h0|⟨e,hm,hb,h1⟩
   ·simp at h0
   ·have GT:=hf e (by simpa using hm) hb
    rcases h1 with h1|h1
    ·rw[h1];exact GT
    ·cases hd:done[e.on]? with
     |none=>
      have:acc.getD e.on 0=0:=by
       rw[List.getD_eq_getElem?_getD,List.getElem?_eq_none (by rw[hl];exact List.getElem?_eq_none_iff.1 hd)]
       rfl
      rw[this] at h1;simp at h1
     |some oe=>
      have hoe:ops[e.on]?=some oe:=by
       rw[←Array.getElem?_toList,he,List.getElem?_append_left (by
        rcases Nat.lt_or_ge e.on done.length with h'|h'
        ·exact h'
        ·rw[List.getElem?_eq_none h'] at hd;cases hd)]
       exact hd
      exact h e.on oe hd (hc e.on oe hoe GT) j h1
  ·rw[List.getElem?_eq_none (by simp;omega)] at ho
   cases ho
theorem Y8 {bs:List Nat}:∀(l:List Oper)(n:Nat),EL C P ops bs l n=true->∀(k:Nat) o,l[k]?=some o->∀(j:Nat) x,ops[j]?=some x->j<n+k->GD C P ops x o=true->(bs.getD (n+k) 0).testBit j=true
 |[],_,_,k,o,ho,_,_,_,_,_=>by simp at ho
 |o'::l,n,h,k,o,ho,j,x,hx,hj,I7=>by
  simp only[EL,Bool.and_eq_true] at h;cases k with
  |zero=>
   simp at ho;subst ho
   have:=List.all_eq_true.1 h.1 (x,j) (by
    rw[List.mem_zipIdx_iff_getElem?]
    simpa using hx)
   simp only[I7,Bool.not_true,Bool.or_false,Bool.or_eq_true,Bool.not_eq_true'] at this;rcases this with h'|h'
   ·have:Nat.blt j n=true:=Nat.ble_eq_true_of_le (by omega)
    rw[this] at h';cases h'
   ·exact h'
  |succ k=>
   have:=Y8 l (n+1) h.2 k o (by simpa using ho) j x hx (by omega) I7
   rwa [show n+(k+1)=n+1+k by omega]
theorem Jn {n i:Nat}{listed:Array Bool}:i∈Ml n listed↔i<n∧listed.getD i true=false:=by
 unfold Ml;simp[List.mem_filter]
theorem Xf {n i:Nat}{listed:Array Bool}(hi:i∈Ml n listed)(My:listed.size=n):∃l1 l2,Ml n listed=l1++i::l2∧Ml n (listed.setIfInBounds i true)=l1++l2∧∀j∈l1,j<i:=by
 obtain⟨Cb,Js⟩:=Jn.1 hi
 have hr:List.range n=List.range i++i::(List.range (n-i-1)).map (i+1 + ·):=by
  conv=>lhs;rw[show n=i+(1+(n-i-1)) by omega]
  rw[List.range_add,List.range_add];simp[Nat.add_assoc]
 refine⟨(List.range i).filter fun i=> !listed.getD i true,((List.range (n-i-1)).map (i+1 + ·)).filter fun i=> !listed.getD i true,?_,?_,fun j hj=>?_⟩
 ·unfold Ml;rw[hr,List.filter_append,List.filter_cons_of_pos (by rw[Js];rfl)]
 ·unfold Ml;rw[hr,List.filter_append,List.filter_cons_of_neg (by simp[My,Cb])]
  congr 1
  ·refine List.filter_congr fun j hj=>?_
   rw[getD_set_ne true (by have:=List.mem_range.1 hj;omega)]
  ·refine List.filter_congr fun j hj=>?_
   obtain⟨k,_,rfl⟩:=List.mem_map.1 hj;rw[getD_set_ne true (by omega)]
 ·exact List.mem_range.1 (List.mem_filter.1 hj).1
theorem Ajz (h:Cw N w0 X0 Y β s a w)(o:Oper):WR C P o s:=by
 refine⟨fun y _ i hi=>E9 h y i hi,fun _ _ y _ i hi c hc p hp k hk=>h.wfB i c hc p hp k hk⟩
theorem MU (Aks:(ops.toList.zipIdx.all fun q=>q.1.after.toList.all fun e=> !Region.binds .any e||Nat.blt e.on q.2)=true) {listed:Array Bool}(inv:HeadInv .any ops ops.size listed)(hr:Region.ready .any ops listed=[]):Ml ops.size listed=[]:=by
 cases hp:Ml ops.size listed with
 |nil=>rfl
 |cons i l=>
  exfalso;have hi:i∈Ml ops.size listed:=by rw[hp];simp
  obtain⟨Cb,Js⟩:=Jn.1 hi;obtain⟨l1,l2,h1,_,h3⟩:=Xf hi inv.size
  have GT:l1=[]:=by
   cases l1 with
   |nil=>rfl
   |cons j l1=>
    rw[hp] at h1;simp at h1;have:=h3 j (by simp)
    omega
  subst GT
  have A8y:∀j,j<i->listed.getD j false=true:=by
   intro j hj;cases hh:listed.getD j false with
   |true=>rfl
   |false=>
    have:j∈Ml ops.size listed:=Jn.2 ⟨by omega,getD_in (by rw[inv.size];omega) hh⟩
    have hs:(Ml ops.size listed).Pairwise (· < ·):=List.Pairwise.filter _ List.pairwise_lt_range
    rw[h1] at this hs;simp at this;rcases this with e|e
    ·omega
    ·have:=(List.pairwise_cons.1 hs).1 j e;omega
  have:i∈Region.ready .any ops listed:=by
   refine mem_ready.2 ⟨Js,ops[i],Array.getElem?_eq_getElem Cb,fun e he hb=>A8y _ ?_⟩
   have:=List.all_eq_true.1 Aks (ops[i],i) (by
    rw[List.mem_zipIdx_iff_getElem?];simp[Cb])
   have:=List.all_eq_true.1 this e (Array.mem_toList_iff.2 he);simp only[hb,Bool.not_true,Bool.false_or] at this;exact Nat.lt_of_succ_le (Nat.le_of_ble_eq_true this)
  rw[hr] at this;simp at this
theorem OW {G:Xg}(Ko:RV P G w0 X0)(Dz:∀f args res,call f args=some res->Dh G P f args res)(hok:NA C P ops=true){Q:Exit->Act->World->Prop}(hQ:∀s' a' w' β',K s'=some r->Cw N w0 X0 Y β' s' a' w'->Q .normal a' w'):
  ∀(fuel:Nat) {listed:Array Bool} {s:St} {a:Act} {w:World} {β:Bt},HeadInv .any ops ops.size listed->(Ml ops.size listed).length=fuel->Cw N w0 X0 Y β s a w->Nf C P N call ops ((Ml ops.size listed).filterMap (ops[·]?)) s K=some r->wpAny P .any ops Q fuel listed a w:=by
 unfold NA at hok;simp only[Bool.and_eq_true] at hok;obtain⟨Aks,Au8⟩:=hok;intro fuel
 induction fuel with
 |zero=>
  intro listed s a w β inv hf h hk;have hp:=List.eq_nil_of_length_eq_zero hf;rw[hp] at hk;refine⟨?_,hQ s a w β hk h⟩;cases hr:Region.ready .any ops listed with
  |nil=>rfl
  |cons i l=>
   exfalso;have hi:i∈Region.ready .any ops listed:=by rw[hr];simp
   obtain⟨Js,o,ho,_⟩:=mem_ready.1 hi;have:i∈Ml ops.size listed:=Jn.2 ⟨(Array.getElem?_eq_some_iff.1 ho).1,Js⟩;rw[hp] at this;simp at this
 |succ fuel ih=>
  intro listed s a w β inv hf h hk;refine⟨fun hr=>?_,fun i hi=>?_⟩
  ·rw[MU Aks inv hr] at hf;cases hf
  ·obtain⟨Js,o,ho,N3⟩:=mem_ready.1 hi;have Cb:i<ops.size:=(Array.getElem?_eq_some_iff.1 ho).1;obtain⟨l1,l2,h1,h2,h3⟩:=Xf (Jn.2 ⟨Cb,Js⟩) inv.size;rw[h1,List.filterMap_append,List.filterMap_cons_some ho] at hk
   have Sk:∀x∈l1.filterMap (ops[·]?),Yf C P ops x o:=by
    intro x hx;obtain⟨j,hj,hxj⟩:=List.mem_filterMap.1 hx;refine Alp ?_;cases I7:GD C P ops x o with
    |false=>rfl
    |true=>
     exfalso;have JH:=Y8 ops.toList 0 Au8 i o (by simpa using ho) j x hxj (by have:=h3 j hj;omega) I7
     rw[Nat.zero_add] at JH;have hjl:=Rk (listed:=listed) (fun j oj hj hl=>inv.closed j oj hj hl) ops.toList [] [] (by simp) rfl (by simp) i o ho N3 j JH
     have:j∈Ml ops.size listed:=by rw[h1];simp[hj]
     have:=getD_both (Jn.1 this).2;rw[hjl] at this;cases this
   obtain⟨s',hs',hn⟩:=V5 h Ko Dz ho (Agl (Ajz h o) Sk hk);refine hn _ _ fun a' w' β' h'=>ih (inv.set hi Cb) ?_ h' ?_
   ·rw[h2];rw[h1] at hf;simp at hf ⊢;omega
   ·rw[h2,List.filterMap_append];exact hs'
theorem BE (h:Cw N w0 X0 Y β s a w){G:Xg}(Ko:RV P G w0 X0)(Dz:∀f args res,call f args=some res->Dh G P f args res)(hm:P.follows .mixedOrders=true)(hok:NA C P ops=true){Q:Exit->Act->World->Prop}
  (hk:Nf C P N call ops ops.toList s K=some r)(hQ:∀s' a' w' β',K s'=some r->Cw N w0 X0 Y β' s' a' w'->Q .normal a' w'):wpAny P .any ops Q ops.size (Array.replicate ops.size false) a { w with drawn:=w.drawn+1 }:=by
 have hp:Ml ops.size (Array.replicate ops.size false)=List.range ops.size:=by
  unfold Ml;refine List.filter_eq_self.2 fun i hi=>?_
  have:=List.mem_range.1 hi;simp[this]
 refine OW (C:=C) Ko Dz hok hQ ops.size ⟨by simp,fun j oj _ hl=>(by rw[getD_replicate_false] at hl;cases hl),fun t ht ht'=>by omega⟩ (by rw[hp];simp) h.drew ?_
 rw[hp]
 have:(List.range ops.size).filterMap (ops[·]?)=ops.toList:=by
  refine List.ext_getElem? fun k=>?_
  have:∀(n:Nat),n<=ops.size->(List.range n).filterMap (ops[·]?)=ops.toList.take n:=by
   intro n
   induction n with
   |zero=>intro _;rfl
   |succ n ih=>
    intro hn;rw[List.range_succ,List.filterMap_append,ih (by omega),List.take_add_one]
    congr 1
    have:ops[n]?=some ops[n]:=Array.getElem?_eq_getElem (by omega)
    simp[this]
  rw[this ops.size (Nat.le_refl _)]
  congr 1
  exact List.take_of_length_le (by simp)
 rw[this];exact hk
theorem OJ (h:Cw N w0 X0 Y β s a w){G:Xg}(Ko:RV P G w0 X0)(Dz:∀f args res,call f args=some res->Dh G P f args res)(hm:P.follows .mixedOrders=true)(hok:NA C P ops=true){id:Nat}{Q:Exit->Act->World->Prop}
  (hk:Nf C P N call ops ops.toList s K=some r)(hQ:∀s' a' w' β',K s'=some r->Cw N w0 X0 Y β' s' a' w'->Q .normal a' w'):(Code.region id ops true).wp P Q a w:=
 wp_region_any hm (BE h Ko Dz hm hok hk hQ)
end
end
section
open Go.RowKit
section
variable {R R':Type} {Rel:Option R->Option R'->Prop} {P:Program} {N:Nat} {tm tm':Nat->PV} {hp Cj:Nat->Option Bs} {o:Oper}
theorem Ae5 (hn:Rel none none){C:G1}{call:Am}{K:St->Option R}{K':St->Option R'}(Sk:M9 o.op=true)(Jq:∀x∈o.op.operands.toList,B3 tm x=B3 tm' x)
  (hS:∀i,V3 o tm' Cj i->hp i=Cj i∨(hp i=none∧∀b,Rel none b)) (KO:∀d,o.dst=some d->hp d=Cj d)
  (hK:∀v Cy Fc,(∀M,JY M (V3 o tm' Cj) o.dst hp Cj Cy Fc)->Rel (K ⟨Bp tm o.dst v,Cy⟩) (K' ⟨Bp tm' o.dst v,Fc⟩)):Rel (Uz C P N call ⟨tm,hp⟩ o K) (Uz C P N call ⟨tm',Cj⟩ o K'):=by
 unfold Uz;have hl:∀x∈o.op.operands.toList,∀i∈Bx (B3 tm' x),V3 o tm' Cj i:=fun x hx i hi=>.inl ⟨x,hx,hi⟩
 generalize hLd:V3 o tm' Cj=S at *
 generalize hop:o.op=op at *
 unfold M9 at Sk;split at Sk
 ·rename_i c
  have Jc:∀x∈c.args.toList,x∈(Op.call c).operands.toList:=by
   intro x hx;simp only[Op.operands,Call.operands,Array.toList_append,List.mem_append];exact .inr hx
  split at Sk
  ·rename_i hc;simp only[hc];refine Dc hn fun d hd=>Bk hn fun x _ hx=>Bk hn fun y _ hy=>E8 hn (Bk hn fun _ _ _=>Bk hn fun _ _ _=>?_)
   subst hy;have hxm:=Jc x (by rw[hx];simp)
   have hym:=Jc y (by rw[hx];simp)
   simp only[Jq x hxm,Jq y hym];refine Yt hn hS (KO d hd) (fun i hi=>hl x hxm i (Fs hi)) (fun i hi=>hl y hym i (Fs hi)) fun v Cy Fc hh=>?_
   have:=hK v Cy Fc (by rw[hd];exact hh)
   rw[hd] at this;exact this
  ·cases Sk
 ·cases Sk
theorem Pu {C:G1}{call:Am}(Sk:M9 o.op=true)(Jq:∀x∈o.op.operands.toList,B3 tm x=B3 tm' x)(hS:∀i,V3 o tm' Cj i->hp i=Cj i)(KO:∀d,o.dst=some d->hp d=Cj d){s1:St}
  (h:Uz C P N call ⟨tm,hp⟩ o some=some s1):∃v Cy Fc,s1=⟨Bp tm o.dst v,Cy⟩∧Uz C P N call ⟨tm',Cj⟩ o some=some ⟨Bp tm' o.dst v,Fc⟩∧∀M,JY M (V3 o tm' Cj) o.dst hp Cj Cy Fc:=by
 have:=Ae5 (P:=P) (N:=N) (C:=C) (call:=call) (o:=o) (tm:=tm) (tm':=tm') (hp:=hp) (Cj:=Cj) (K:=some) (K':=some)
  (Rel:=fun (a b:Option St)=>∀s1,a=some s1->∃v Cy Fc,s1=⟨Bp tm o.dst v,Cy⟩∧b=some ⟨Bp tm' o.dst v,Fc⟩∧∀M,JY M (V3 o tm' Cj) o.dst hp Cj Cy Fc) (fun _ h=>by cases h) Sk Jq (fun i hi=>.inl (hS i hi)) KO
  (fun v Cy Fc hT s1 h=>by cases h;exact⟨v,Cy,Fc,rfl,rfl,hT⟩)
 exact this s1 h
end
section
variable {R R':Type} {r:R} {r':R'} {C:G1} {P:Program} {N:Nat} {call:Am} {ops:Array Oper} {o x:Oper} {s s1 s2:St} {K:St->Option R}
theorem Tb {tm:Nat->PV}(h:Gq C P ops o tm=true):Rh C P o.op=true:=by
 unfold Gq at h;simp only[Bool.and_eq_true] at h;exact h.1
theorem NN (h:M9 o.op=true):Rh C P o.op=true:=by
 unfold M9 at h;split at h
 ·rename_i c hc;rw[hc];split at h
  ·rename_i hcc;simp only[Rh,hcc];exact h
  ·cases h
 ·cases h
theorem M3 (h:Dt C P N call ops x s K=some r):∃s1,Dt C P N call ops x s some=some s1∧MB P x s s1∧(Su P x.op=true->s1.hp=s.hp)∧K s1=some r:=by
 cases hx:Gq C P ops x s.tm
 ·rw[J7 hx] at h ⊢;cases ex:gE C P N call ops x s with
  |none=>rw[ex] at h;cases h
  |some q=>
   rw[ex] at h;obtain⟨hb,h1⟩:=Al h;simp only[Bool.and_eq_true] at hb;refine⟨_,?_,⟨fun t ht=>Ou ht,fun i hi=>Na hb.2 hi,fun hm i hi=>?_⟩,fun hl=>?_,h1⟩
   ·show A2 _ _=_;rw[hb.1,hb.2];rfl
   ·show At (Ag s.hp q.2.1) q.2.2 i=s.hp i;rw[Fw hb.2 hi,((Sr ex).1 hm).1];simp
   ·show At (Ag s.hp q.2.1) q.2.2=s.hp;obtain⟨h1,h2⟩:=Aci (.inl hl) ex;rw[h1,h2]
    funext i
    show Ag s.hp [] i=_;rw[B0];simp
 ·rw[Ig hx] at h ⊢
  exact GV (P:=P) (N:=N) (o:=x) (tm:=s.tm) (tm':=s.tm) (hp:=s.hp) (K':=some) (Rel:=fun (a:Option R) (b:Option St)=>a=some r->∃s1,b=some s1∧MB P x s s1∧(Su P x.op=true->s1.hp=s.hp)∧K s1=some r) (fun h=>by cases h) (fun _ _=>rfl) (fun v Cy hh h=>⟨_,rfl,⟨fun t ht=>Ou ht,hh,fun hm=>(by
   rw[Yi (Tb hx)] at hm;cases hm)⟩,fun hl=>(by
   have:=Tb hx;rw[Km hl] at this;cases this),h⟩) h
theorem Um {K':St->Option R'}(h:Dt C P N call ops x s some=some s1)(hk:K' s1=some r'):Dt C P N call ops x s K'=some r':=by
 cases hx:Gq C P ops x s.tm
 ·rw[J7 hx] at h ⊢;cases ex:gE C P N call ops x s with
  |none=>rw[ex] at h;cases h
  |some q=>
   rw[ex] at h;obtain⟨hb,h1⟩:=Al h;show A2 _ _=_;rw[hb];cases h1;exact hk
 ·rw[Ig hx] at h ⊢;exact GV (P:=P) (N:=N) (o:=x) (tm:=s.tm) (tm':=s.tm) (hp:=s.hp) (K:=some) (Rel:=fun (a:Option St) (b:Option R')=>a=some s1->b=some r') (fun h=>by cases h) (fun _ _=>rfl) (fun v Cy hh h=>by cases h;exact hk) h
theorem PF {d:Nat}{t tx:TypeId}{b y:PV}(h:Ov P N s d t tx b y K=some r):s.hp d=none:=by
 unfold Ov at h;split at h
 ·obtain⟨_,h⟩:=Al h;cases hI:Y5 P tx
  ·rw[hI,cond_false] at h;refine AV (P:=P) (tm:=s.tm) (tm':=s.tm) (hp:=s.hp) (Cj:=s.hp) (S:=fun _=>True) (K':=fun _ _=>(none:Option R)) (Rel:=fun (a:Option R) (_:Option R)=>a=some r->s.hp d=none) (fun h=>by cases h) (fun _ _=>.inl rfl) (fun _ _=>trivial) (fun m new h=>?_) h
   split at h
   ·split at h
    ·obtain⟨hb,_⟩:=Al h;simp only[Bool.and_eq_true,Option.isNone_iff_eq_none] at hb;simp only[hb]
    ·cases h
   ·obtain⟨_,_,_,h,_⟩:=Fk h;obtain⟨hb,_⟩:=Al h;simp only[Bool.and_eq_true,Option.isNone_iff_eq_none] at hb;simp only[hb]
  ·rw[hI,cond_true] at h;unfold Tf at h;obtain⟨_,_,_,h⟩:=Dn h;obtain⟨_,_,_,h,_⟩:=Fk h;obtain⟨hb,_⟩:=Al h;simp only[Bool.and_eq_true,Option.isNone_iff_eq_none] at hb;simp only[hb]
 ·cases h
theorem Ano (hw:WR C P o s)(hwx:∀y∈x.op.operands.toList,∀i∈Bx (B3 s.tm y),s.hp i≠none) (xo:∀d,x.dst=some d->d ∉ looks ops o)(ne:∀d,x.dst=some d->o.dst≠some d)(ox:∀d,o.dst=some d->d ∉ looks ops x)
  (De:M9 x.op=true)(hao:M9 o.op=true)(UQ:∀i,V3 x s.tm s.hp i->¬V3 o s.tm s.hp i)(hx:Gq C P ops x s.tm=true)(ho:Gq C P ops o s.tm=true)
  (h:Dt C P N call ops x s (fun s1=>Dt C P N call ops o s1 K)=some r):Dt C P N call ops o s (fun s1=>Dt C P N call ops x s1 K)=some r:=by
 obtain⟨tm,hp⟩:=s;obtain⟨s1,e1,_,_,h⟩:=M3 h;obtain⟨s2,e2,_,_,h⟩:=M3 h;rw[Ig hx] at e1
 have hSx:∀i,V3 x tm hp i->hp i≠none:=by
  rintro i (⟨y,hy,hi⟩|⟨Sk,_⟩)
  ·exact hwx y hy i hi
  ·rw[De] at Sk;cases Sk
 have hSo:∀i,V3 o tm hp i->hp i≠none:=by
  rintro i (⟨y,hy,hi⟩|⟨Sk,_⟩)
  ·exact hw.1 y hy i hi
  ·rw[hao] at Sk;cases Sk
 obtain⟨vx,hpx,Aqt,rfl,e1',T1⟩:=Pu De (fun _ _=>rfl) (fun _ _=>rfl) (fun _ _=>rfl) e1
 have:Aqt=hpx:=by
  rw[e1] at e1';injection e1' with q;injection q with _ q;exact q.symm
 subst this;have t1:∀t∈looks ops o,Bp tm x.dst vx t=tm t:=Et xo;have t1o:=Fg (ops:=ops) (o:=o) t1;rw[Ig (by rw[Hj t1];exact ho)] at e2
 have hRo:∀i,V3 o (Bp tm x.dst vx) Aqt i↔V3 o tm hp i:=by
  intro i;constructor
  ·rintro (⟨y,hy,hi⟩|⟨Sk,_⟩)
   ·exact .inl ⟨y,hy,by rw[←t1o y hy];exact hi⟩
   ·rw[hao] at Sk;cases Sk
  ·rintro (⟨y,hy,hi⟩|⟨Sk,_⟩)
   ·exact .inl ⟨y,hy,by rw[t1o y hy];exact hi⟩
   ·rw[hao] at Sk;cases Sk
 have Asa:∀{s:St} {o:Oper} {s2:St},M9 o.op=true->Uz C P N call s o some=some s2->∀d,o.dst=some d->s.hp d=none:=by
  intro s o s2 hao e d hd;unfold Uz at e;unfold M9 at hao;split at hao
  ·rename_i c hc;rw[hc] at e;simp only at e;split at hao
   ·rename_i hcc;rw[hcc] at e;simp only[hd,C5] at e;obtain⟨_,_,_,e⟩:=Bb e;obtain⟨_,_,_,e⟩:=Bb e;obtain⟨_,e⟩:=Dr e;obtain⟨_,_,_,e⟩:=Bb e;obtain⟨_,_,_,e⟩:=Bb e;exact PF e
   ·cases hao
  ·cases hao
 have A8d:∀d,o.dst=some d->hp d=none:=by
  intro d hd;have h0:=Asa hao e2 d hd;cases hh:hp d with
  |none=>rfl
  |some b=>exact absurd h0 ((T1 0).keep d (by rw[hh];simp))
 have A2h:=Asa De e1;simp only at A2h;have hoS:∀d,o.dst=some d->¬V3 x tm hp d:=fun d hd hR=>hSx d hR (A8d d hd)
 have hxS:∀d,x.dst=some d->¬V3 o tm hp d:=fun d hd hR=>hSo d hR (A2h d hd)
 obtain⟨vo,Ban,hpo,rfl,e3,T2⟩:=Pu (tm':=tm) (Cj:=hp) hao t1o (fun i hi=>(T1 0).far i (fun hR=>UQ i hR hi) (hSo i hi)) (fun d hd=>((T1 (d+1)).off d (by omega) (fun e=>ne d e hd) (.inl (hoS d hd))).1) e2
 obtain⟨vo',A74,RM,e3a,e3b,T3⟩:=Pu (tm':=tm) (Cj:=hp) hao (fun _ _=>rfl) (fun _ _=>rfl) (fun _ _=>rfl) e3
 rw[e3] at e3b
 have Bbs:A74=hpo∧RM=hpo:=by
  injection e3a with _ q1;injection e3b with q2;injection q2 with _ q3;exact⟨q1.symm,q3.symm⟩
 obtain⟨rfl,rfl⟩:=Bbs;have t2:∀t∈looks ops x,tm t=Bp tm o.dst vo t:=fun t ht=>(Et ox t ht).symm
 have t2x:=Fg (ops:=ops) (o:=x) t2
 have hRx:∀i,V3 x (Bp tm o.dst vo) RM i↔V3 x tm hp i:=by
  intro i;constructor
  ·rintro (⟨y,hy,hi⟩|⟨Sk,_⟩)
   ·exact .inl ⟨y,hy,by rw[t2x y hy];exact hi⟩
   ·rw[De] at Sk;cases Sk
  ·rintro (⟨y,hy,hi⟩|⟨Sk,_⟩)
   ·exact .inl ⟨y,hy,by rw[←t2x y hy];exact hi⟩
   ·rw[De] at Sk;cases Sk
 obtain⟨vx2,A80,A7w,e4a,e4,T4⟩:=Pu (tm':=Bp tm o.dst vo) (Cj:=RM) De t2x (fun i hi=>((T3 0).far i (UQ i ((hRx i).1 hi)) (hSx i ((hRx i).1 hi))).symm) (fun d hd=>((T3 (d+1)).off d (by omega) (fun e=>ne d hd e) (.inl (hxS d hd))).1.symm) e1
 have hvx:Bp tm x.dst vx=Bp tm x.dst vx2∧Aqt=A80:=by
  injection e4a with q1 q2;exact⟨q1,q2⟩
 obtain⟨hvx,rfl⟩:=hvx;obtain⟨_,Se,Jm,e5a,e5b,T5⟩:=Pu (tm':=Bp tm x.dst vx) (Cj:=Aqt) hao (fun _ _=>rfl) (fun _ _=>rfl) (fun _ _=>rfl) e2
 have hq:Se=Ban:=by injection e5a with _ q1;exact q1.symm
 subst hq;obtain⟨_,hu1,hu2,e6a,e6b,T6⟩:=Pu (tm':=Bp tm o.dst vo) (Cj:=RM) De (fun _ _=>rfl) (fun _ _=>rfl) (fun _ _=>rfl) e4
 have hu:hu1=A7w:=by injection e6a with _ q1;exact q1.symm
 subst hu
 have Jc:Se=hu1:=by
  funext i
  by_cases hi:V3 o tm hp i∨o.dst=some i
  ·have hxi:¬V3 x tm hp i:=by
    rcases hi with hi|hi
    ·exact fun hR=>UQ i hR hi
    ·exact hoS i hi
   have hdi:x.dst≠some i:=by
    rcases hi with hi|hi
    ·exact fun e=>hxS i e hi
    ·exact fun e=>ne i e hi
   rw[(T2 0).same i ((T1 (i+1)).off i (by omega) hdi (.inl hxi)).1]
   exact ((T6 (i+1)).off i (by omega) hdi (.inl fun hR=>hxi ((hRx i).1 hR))).1.symm
  ·have hoi:¬V3 o tm hp i:=fun e=>hi (.inl e)
   have hdi:o.dst≠some i:=fun e=>hi (.inr e)
   rw[((T5 (i+1)).off i (by omega) hdi (.inl fun hR=>hoi ((hRo i).1 hR))).1]
   exact (T4 0).same i ((T3 (i+1)).off i (by omega) hdi (.inl hoi)).1.symm
 refine Um (s1:=⟨Bp tm o.dst vo,RM⟩) (by rw[Ig ho];exact e3) ?_
 refine Um (s1:=⟨Bp (Bp tm o.dst vo) x.dst vx2,hu1⟩) (by rw[Ig (by rw[←Hj t2];exact hx)];exact e4) ?_
 rw[←J9 ne,←hvx,←Jc];exact h
theorem Yy (hM:Rh C P o.op=true){i:Nat}(h:V3 o s.tm s.hp i):i∈Lx C P s o:=by
 unfold Lx;rw[hM];cases hA:M9 o.op
 ·simp only[Bool.not_false,Bool.and_self,cond_true,List.mem_append];rcases h with⟨y,hy,hi⟩|⟨_,id,c,⟨y,hy,hi⟩,hc,p,hp,hk⟩
  ·exact .inl (List.mem_flatMap.2 ⟨y,hy,hi⟩)
  ·refine .inr (List.mem_flatMap.2 ⟨id,List.mem_flatMap.2 ⟨y,hy,hi⟩,?_⟩);rw[hc];exact List.mem_flatMap.2 ⟨p,hp,hk⟩
 ·simp only[Bool.not_true,Bool.and_false,cond_false,Bool.or_true,cond_true];rcases h with⟨y,hy,hi⟩|⟨hn,_⟩
  ·exact List.mem_flatMap.2 ⟨y,hy,hi⟩
  ·rw[hA] at hn;cases hn
theorem EO (hl:Rh C P o.op=true∨Su P o.op=true){y:Operand}(hy:y∈o.op.operands.toList){i:Nat}(h:i∈Bx (B3 s.tm y)):i∈Lx C P s o:=by
 rcases hl with hM|hl
 ·exact Yy hM (.inl ⟨y,hy,h⟩)
 ·unfold Lx;rw[Km hl,hl];exact List.mem_flatMap.2 ⟨y,hy,h⟩
theorem US (ht:∀t∈looks ops o,s1.tm t=s.tm t)(hh:Rh C P o.op=true->M9 o.op=false->∀y∈o.op.operands.toList,∀i∈Bx (B3 s.tm y),s1.hp i=s.hp i):Lx C P s1 o=Lx C P s o:=by
 have he:=Fg (ops:=ops) (o:=o) ht
 have hl:(o.op.operands.toList.flatMap fun y=>Bx (B3 s1.tm y))=o.op.operands.toList.flatMap fun y=>Bx (B3 s.tm y):=by
  have Ay1:∀l:List Operand,(∀y∈l,B3 s1.tm y=B3 s.tm y)->(l.flatMap fun y=>Bx (B3 s1.tm y))=l.flatMap fun y=>Bx (B3 s.tm y):=by
   intro l
   induction l with
   |nil=>intro _;rfl
   |cons a l ih=>intro h;simp only[List.flatMap_cons];rw[h a (by simp),ih fun y hy=>h y (by simp[hy])]
  exact Ay1 _ he
 unfold Lx;simp only[hl];cases hM:(Rh C P o.op && !M9 o.op)
 ·rfl
 ·simp only[cond_true];simp only[Bool.and_eq_true,Bool.not_eq_true'] at hM
  congr 1
  have Ay1:∀l:List Nat,(∀i∈l,s1.hp i=s.hp i)->(l.flatMap fun i=>match s1.hp i with|some (.st c)=>c.flatMap As|_=>[])=l.flatMap fun i=>match s.hp i with|some (.st c)=>c.flatMap As|_=>[]:=by
   intro l
   induction l with
   |nil=>intro _;rfl
   |cons a l ih=>intro h;simp only[List.flatMap_cons];rw[h a (by simp),ih fun y hy=>h y (by simp[hy])]
  exact Ay1 _ fun i hi=>by
   obtain⟨y,hy,hi⟩:=List.mem_flatMap.1 hi;exact hh hM.1 hM.2 y hy i hi
theorem Xw {a b:List Nat}(h:Adc a b=true){i:Nat}(ha:i∈a)(hb:i∈b):False:=by
 have:=List.all_eq_true.1 h i ha;have h2:b.any (Nat.beq i)=true:=List.any_eq_true.2 ⟨i,hb,Nat.beq_refl i⟩;rw[h2] at this;cases this
theorem Ada {a b:List Nat}(h:Adc a b=true):Adc b a=true:=by
 refine List.all_eq_true.2 fun i hi=>?_
 cases hc:a.any (Nat.beq i)
 ·rfl
 ·obtain⟨j,hj,e⟩:=List.any_eq_true.1 hc;rw[Nat.eq_of_beq_eq_true e] at hi;exact (Xw h hj hi).elim
theorem V2:Jw C P x o=Jw C P o x:=by
 unfold Jw;cases Rh C P x.op<;>cases Rh C P o.op<;>cases Su P x.op<;>cases Su P o.op<;>cases M9 x.op<;>cases M9 o.op<;>rfl
structure Lo (C:G1) (P:Program) (ops:Array Oper) (x o:Oper):Prop where
 xo:∀d,x.dst=some d->d ∉ looks ops o
 ne:∀d,x.dst=some d->o.dst≠some d
 ox:∀d,o.dst=some d->d ∉ looks ops x
 me:Rd C P x o=false∨Jw C P x o=true
theorem Aef (h:Akj C P ops x o=false):Lo C P ops x o:=by
 unfold Akj at h;simp only[Bool.or_eq_false_iff] at h;obtain⟨h1,h2⟩:=h;have hT:=h1;unfold Ak1 at h1;simp only[Bool.or_eq_false_iff] at h1
 have a1:GD C P ops x o=false∨Rd C P x o=true:=by
  cases hc:Rd C P x o
  ·left;unfold GD;unfold Rd at hc;simp only[Bool.or_eq_false_iff] at hc ⊢;exact⟨⟨⟨h1.1,h1.2⟩,hc.1⟩,hc.2⟩
  ·exact .inr rfl
 refine⟨fun d hd=>?_,fun d hd he=>?_,fun d hd=>?_,?_⟩
 ·have:=h1.1;simp only[hd,Bool.or_eq_false_iff] at this;exact Rb this.1
 ·have:=h1.1;simp only[hd,he,Bool.or_eq_false_iff] at this;rw[Nat.beq_refl] at this;cases this.2
 ·have:=h1.2;simp only[hd] at this;exact Rb this
 ·cases hc:Rd C P x o
  ·exact .inl rfl
  ·rw[hc] at h2;right
   simpa using h2
theorem Lo.apart (ap:Lo C P ops x o)(h:Rd C P x o=false):Yf C P ops x o:=by
 unfold Rd at h;simp only[Bool.or_eq_false_iff,Bool.and_eq_false_iff] at h;refine⟨ap.xo,ap.ne,ap.ox,fun hm=>?_,fun hm=>?_⟩
 ·rcases h.1 with h|h
  ·rw[hm] at h;cases h
  ·exact h
 ·rcases h.2 with h|h
  ·rw[hm] at h;cases h
  ·exact h
theorem Lo.same (ap:Lo C P ops x o)(hk:MB P x s s1)(hl:Su P x.op=true->s1.hp=s.hp)(hM:Rh C P o.op=true)(hA:M9 o.op=false){i:Nat}(hi:s.hp i≠none):s1.hp i=s.hp i:=by
 rcases ap.me with h|h
 ·exact hk.2.2 ((ap.apart h).mo hM) i hi
 ·unfold Jw at h;rw[hA] at h;simp only[Bool.and_false,Bool.or_false,Bool.or_eq_true,Bool.and_eq_true] at h;rcases h with h|h
  ·have:=h.2;rw[Km (C:=C) (P:=P) this] at hM;cases hM
  ·rw[hl h.2]
theorem WR.keepsS (h:WR C P o s)(ap:Lo C P ops x o)(hk:MB P x s s1)(hl:Su P x.op=true->s1.hp=s.hp):WR C P o s1:=by
 have hop:∀y∈o.op.operands.toList,B3 s1.tm y=B3 s.tm y:=fun y hy=>Fg (ops:=ops) (o:=o) (fun t ht=>hk.1 t fun hd=>ap.xo t hd ht) y hy
 refine⟨fun y hy i hi=>?_,fun hM hA y hy i hi c hc p hp k hkk=>?_⟩
 ·rw[hop y hy] at hi;exact hk.2.1 i (h.1 y hy i hi)
 ·rw[hop y hy] at hi;rw[ap.same hk hl hM hA (h.1 y hy i hi)] at hc;exact hk.2.1 k (h.2 hM hA y hy i hi c hc p hp k hkk)
theorem Lo.symm (ap:Lo C P ops x o):Lo C P ops o x:=by
 refine⟨ap.ox,fun d hd he=>ap.ne d he hd,ap.xo,?_⟩
 rcases ap.me with h|h
 ·left;unfold Rd at h ⊢;rw[Bool.or_comm];exact h
 ·right;rw[V2];exact h
theorem A3v (hw:WR C P o s)(hwx:Jw C P x o=true->∀i∈Lx C P s x,s.hp i≠none)(ap:Lo C P ops x o)(hd:Jw C P x o=true->Adc (Lx C P s x) (Lx C P s o)=true)
  (h:Dt C P N call ops x s (fun s1=>Dt C P N call ops o s1 K)=some r):Dt C P N call ops o s (fun s1=>Dt C P N call ops x s1 K)=some r:=by
 rcases ap.me with hm|hm
 ·exact swap hw (ap.apart hm) h
 ·have hd:=hd hm;have hwx:=hwx hm;cases hx:Gq C P ops x s.tm
  ·cases ho:Gq C P ops o s.tm
   ·exact Abq hw ap.xo ap.ne ap.ox hx ho h
   ·have hMo:=Tb ho
    have hlx:KA P ops x s.tm:=by
     cases hl:Su P x.op
     ·right
      have hMx:Rh C P x.op=true:=by
       unfold Jw at hm;simp only[hl,Bool.and_false,Bool.or_false,Bool.or_eq_true,Bool.and_eq_true] at hm;rcases hm with hm|hm
       ·exact hm.1
       ·exact NN hm.1
      cases hv:Gz ops x s.tm with
      |none=>
       exfalso;rw[J7 hx] at h;unfold gE at h;rw[hv] at h;cases h
      |some b=>
       cases b
       ·rfl
       ·unfold Gq at hx;rw[hMx,hv] at hx;cases hx
     ·exact .inl hl
    refine Arg ap.xo ap.ne ap.ox hlx (fun y hy i hi hR=>?_) ho h
    refine Xw hd (EO ?_ hy hi) (Yy hMo hR);unfold Jw at hm;simp only[Bool.or_eq_true,Bool.and_eq_true] at hm;rcases hm with (hm|hm)|hm
    ·exact .inl hm.1
    ·exact .inr hm.2
    ·exact .inl (NN hm.1)
  ·have hMx:=Tb hx;cases ho:Gq C P ops o s.tm
   ·have hlo:KA P ops o s.tm:=by
     cases hl:Su P o.op
     ·right
      have hMo:Rh C P o.op=true:=by
       unfold Jw at hm;simp only[hl,Bool.and_false,Bool.false_or,Bool.or_eq_true,Bool.and_eq_true] at hm;rcases hm with hm|hm
       ·exact hm.1
       ·exact NN hm.2
      cases hv:Gz ops o s.tm with
      |none=>
       exfalso;obtain⟨s1,_,hk,_,h⟩:=M3 h;have hv1:Gz ops o s1.tm=none:=by rw[Kq (fun t ht=>hk.1 t fun hd=>ap.xo t hd ht)];exact hv
       rw[J7 (by unfold Gq;rw[hv1];cases Rh C P o.op<;>rfl)] at h
       unfold gE at h;rw[hv1] at h;cases h
      |some b=>
       cases b
       ·rfl
       ·unfold Gq at ho;rw[hMo,hv] at ho;cases ho
     ·exact .inl hl
    refine Ant hw ap.xo ap.ne ap.ox hlo (fun y hy i hi hR=>?_) hx h
    refine Xw hd (Yy hMx hR) (EO ?_ hy hi);unfold Jw at hm;simp only[Bool.or_eq_true,Bool.and_eq_true] at hm;rcases hm with (hm|hm)|hm
    ·exact .inr hm.2
    ·exact .inl hm.1
    ·exact .inl (NN hm.2)
   ·have hMo:=Tb ho;unfold Jw at hm;simp only[Bool.or_eq_true,Bool.and_eq_true] at hm;rcases hm with (hm|hm)|hm
    ·rw[Km (C:=C) (P:=P) hm.2] at hMo;cases hMo
    ·rw[Km (C:=C) (P:=P) hm.2] at hMx;cases hMx
    ·exact Ano hw (fun y hy i hi=>hwx i (EO (.inl hMx) hy hi)) ap.xo ap.ne ap.ox hm.1 hm.2 (fun i h1 h2=>Xw hd (Yy hMx h1) (Yy hMo h2)) hx ho h
theorem Ak8 {α:Type}(a b:α)(l:List α)(f:α->Bool):(a::b::l).all f=(b::a::l).all f:=by
 simp only[List.all_cons];cases f a<;>cases f b<;>rfl
theorem CO {bs:List (List Nat)}:∀(l:List Nat){dn dn':List (Nat × Oper × List Nat)} {s:St}{K:St->Option R},(∀f,dn.all f=dn'.all f)->H3 C P N call ops bs dn l s K=H3 C P N call ops bs dn' l s K
 |[],_,_,_,_,_=>rfl
 |i::l,dn,dn',s,K,h=>by
  unfold H3;cases ops[i]? with
  |none=>rfl
  |some o=>
   simp only[C5,h]
   congr 2
   funext s'
   exact CO l fun f=>by simp only[List.all_cons,h]
theorem ER {bs:List Nat}{i:Nat}(hi:ops[i]?=some o):(CQ C P ops bs).getD i []=Ze C P ops bs i o:=by
 unfold CQ;rw[List.getD_eq_getElem?_getD,List.getElem?_map,List.getElem?_zipIdx,Array.getElem?_toList,hi];simp
theorem Q1 {bs:List Nat}{i j:Nat}:j∈Ze C P ops bs i o↔∃x,ops[j]?=some x∧Jw C P x o=true∧(Nat.blt j i&&(bs.getD i 0).testBit j)=false∧(Nat.blt i j&&(bs.getD j 0).testBit i)=false:=by
 unfold Ze;simp only[List.mem_map,List.mem_filter,Bool.and_eq_true,Bool.not_eq_true',Prod.exists];constructor
 ·rintro⟨x,k,⟨hm,⟨h1,h2⟩,h3⟩,rfl⟩
  rw[List.mem_zipIdx_iff_getElem?] at hm;exact⟨x,by simpa using hm,h1,h2,h3⟩
 ·rintro⟨x,hx,h1,h2,h3⟩
  refine⟨x,j,⟨?_,⟨h1,h2⟩,h3⟩,rfl⟩;rw[List.mem_zipIdx_iff_getElem?]
  simpa using hx
theorem DW {sm:List (List Nat)} {i j:Nat}(h:j∈sm.getD i []):DL C P sm s i o=Lx C P s o:=by
 unfold DL;split
 ·rename_i e;rw[e] at h;simp at h
 ·rfl
theorem Aid {sm:List (List Nat)} {i:Nat}(h:sm.getD i []≠[]->Lx C P s1 o=Lx C P s o):DL C P sm s1 i o=DL C P sm s i o:=by
 unfold DL;split
 ·rfl
 ·rename_i e;exact h (by rw[e];simp)
theorem Abo {l:List Nat}{j:Nat}:l.any (Nat.beq j)=true↔j∈l:=by
 constructor
 ·intro h;obtain⟨k,hk,e⟩:=List.any_eq_true.1 h;rw[Nat.eq_of_beq_eq_true e];exact hk
 ·intro h;exact List.any_eq_true.2 ⟨j,h,Nat.beq_refl j⟩
theorem Xy {bs:List Nat}{sm:List (List Nat)} (hsm:sm=CQ C P ops bs){i:Nat}(hi:ops[i]?=some o) {l':List Nat}:∀(l:List Nat){dn:List (Nat × Oper × List Nat)} {s:St}{K:St->Option R},WR C P o s ->
  (∀j∈l,j<i∧(bs.getD i 0).testBit j=false∧∀x,ops[j]?=some x->Lo C P ops x o)->H3 C P N call ops sm dn (l++i::l') s K=some r ->
  dn.all (KB C P sm s i o)=true∧Dt C P N call ops o s (fun s1=>H3 C P N call ops sm ((i,o,DL C P sm s i o)::dn) (l++l') s1 K)=some r
 |[],dn,s,K,hw,_,h=>by
  simp only[List.nil_append] at h ⊢;unfold H3 at h;rw[hi] at h;simp only[C5] at h;obtain⟨hb,h⟩:=Al h;simp only[Bool.and_eq_true] at hb;exact⟨hb.1,h⟩
 |j::l,dn,s,K,hw,hl,h=>by
  simp only[List.cons_append] at h ⊢;unfold H3 at h;obtain⟨hji,JH,Sk⟩:=hl j (by simp)
  cases hj:ops[j]? with
  |none=>rw[hj] at h;cases h
  |some x=>
   rw[hj] at h;simp only[C5] at h;obtain⟨hb,h⟩:=Al h;simp only[Bool.and_eq_true] at hb;have ap:=Sk x hj
   have hex:∀k∈DL C P sm s j x,s.hp k≠none:=fun k hk=>by
    have:=List.all_eq_true.1 hb.2 k hk;intro e;rw[e] at this;cases this
   obtain⟨s1,e1,Ea,GT,h1⟩:=M3 h;obtain⟨ha,h2⟩:=Xy hsm hi l (hw.keepsS ap Ea GT) (fun k hk=>hl k (by simp[hk])) h1
   have Bbu:Lx C P s1 o=Lx C P s o:=US (ops:=ops) (fun t ht=>Ea.1 t fun hd=>ap.xo t hd ht) fun hM hA y hy k hk=>ap.same Ea GT hM hA (hw.1 y hy k hk)
   have IQ:DL C P sm s1 i o=DL C P sm s i o:=Aid fun _=>Bbu
   rw[List.all_cons,Bool.and_eq_true] at ha
   have A2o:Nat.blt i j=false:=by
    cases hh:Nat.blt i j
    ·rfl
    ·have:=Nat.le_of_ble_eq_true hh;omega
   have hmi:Jw C P x o=true->j∈sm.getD i []:=fun hs=>by
    rw[hsm,ER hi];exact Q1.2 ⟨x,hj,hs,by rw[JH,Bool.and_false],by rw[A2o,Bool.false_and]⟩
   have hmj:Jw C P x o=true->i∈sm.getD j []:=fun hs=>by
    rw[hsm,ER hj];exact Q1.2 ⟨o,hi,by rw[V2];exact hs,by rw[A2o,Bool.false_and],by rw[JH,Bool.and_false]⟩
   have Arn:Jw C P x o=true->Adc (DL C P sm s j x) (DL C P sm s i o)=true:=by
    intro hs;have:=ha.1;unfold KB at this;rw[Abo.2 (hmi hs),IQ] at this
    simpa using this
   have hok:∀q,KB C P sm s1 i o q=KB C P sm s i o q:=fun q=>by unfold KB;rw[IQ]
   have N3:dn.all (KB C P sm s i o)=true:=by
    refine List.all_eq_true.2 fun q hq=>?_
    rw[←hok];exact List.all_eq_true.1 ha.2 q hq
   refine⟨N3,?_⟩;rw[IQ] at h2
   have h3:=A3v hw (fun hs k hk=>hex k (by rw[DW (hmj hs)];exact hk)) ap (fun hs=>by have:=Arn hs;rw[DW (hmj hs),DW (hmi hs)] at this;exact this)
    (Um (K':=fun s1=>Dt C P N call ops o s1 (fun s2=>H3 C P N call ops sm ((i,o,DL C P sm s i o)::(j,x,DL C P sm s j x)::dn) (l++l') s2 K)) e1 h2)
   obtain⟨s2,e2,Ep,Ru,h4⟩:=M3 h3;refine Um e2 ?_
   have MM:DL C P sm s2 j x=DL C P sm s j x:=Aid fun E2=>by
    obtain⟨q,hq⟩:=List.exists_mem_of_ne_nil _ E2;refine US (ops:=ops) (fun t ht=>Ep.1 t fun hd=>ap.ox t hd ht) fun hM hA y hy k hk=>ap.symm.same Ep Ru hM hA (hex k ?_)
    rw[DW hq];exact EO (.inl hM) hy hk
   unfold H3;rw[hj];simp only[C5]
   have hc:(((i,o,DL C P sm s i o)::dn).all (KB C P sm s2 j x)&&(DL C P sm s2 j x).all fun k=>(s2.hp k).isSome)=true:=by
    simp only[List.all_cons,Bool.and_eq_true];refine⟨⟨?_,?_⟩,?_⟩
    ·unfold KB;simp only[MM];cases hs:(sm.getD j []).any (Nat.beq i)
     ·rfl
     ·have hm:=Abo.1 hs;rw[hsm,ER hj] at hm;obtain⟨o',VX,hso,_⟩:=Q1.1 hm;rw[hi] at VX;cases VX;rw[V2] at hso;rw[Ada (Arn hso)];rfl
    ·refine List.all_eq_true.2 fun q hq=>?_
     have:=List.all_eq_true.1 hb.1 q hq;unfold KB at this ⊢;rw[MM];exact this
    ·rw[MM];refine List.all_eq_true.2 fun k hk=>?_
     have:=Ep.2.1 k (hex k hk);cases hh:s2.hp k with
     |none=>exact absurd hh this
     |some _=>rfl
   rw[hc,MM];show Dt C P N call ops x s2 _=some r
   have:(fun s'=>H3 C P N call ops sm ((j,x,DL C P sm s j x)::(i,o,DL C P sm s i o)::dn) (l++l') s' K)=fun s2=>H3 C P N call ops sm ((i,o,DL C P sm s i o)::(j,x,DL C P sm s j x)::dn) (l++l') s2 K:=by
    funext s'
    exact CO _ fun f=>Ak8 _ _ _ f
   rw[this];exact h4
end
section
variable {R:Type} {r:R} {P:Program} {N:Nat} {w0:World} {X0:H0} {Y:Nat->Prop} {β β':Bt} {s:St} {a:Act} {w w':World} {o:Oper} {ops:Array Oper} {C:G1} {call:Am} {K:St->Option R}
theorem Vl {bs:List Nat}:∀(l:List Oper)(n:Nat),Yr C P ops bs l n=true->∀(k:Nat) o,l[k]?=some o->∀(j:Nat) x,ops[j]?=some x->j<n+k->Akj C P ops x o=true->(bs.getD (n+k) 0).testBit j=true
 |[],_,_,k,o,ho,_,_,_,_,_=>by simp at ho
 |o'::l,n,h,k,o,ho,j,x,hx,hj,I7=>by
  simp only[Yr,Bool.and_eq_true] at h;cases k with
  |zero=>
   simp at ho;subst ho
   have:=List.all_eq_true.1 h.1 (x,j) (by
    rw[List.mem_zipIdx_iff_getElem?]
    simpa using hx)
   simp only[I7,Bool.not_true,Bool.or_false,Bool.or_eq_true,Bool.not_eq_true'] at this;rcases this with h'|h'
   ·have:Nat.blt j n=true:=Nat.ble_eq_true_of_le (by omega)
    rw[this] at h';cases h'
   ·exact h'
  |succ k=>
   have:=Vl l (n+1) h.2 k o (by simpa using ho) j x hx (by omega) I7
   rwa [show n+(k+1)=n+1+k by omega]
theorem QJ {G:Xg}(Ko:RV P G w0 X0)(Dz:∀f args res,call f args=some res->Dh G P f args res)(hok:EU C P ops=true){Q:Exit->Act->World->Prop}(hQ:∀s' a' w' β',K s'=some r->Cw N w0 X0 Y β' s' a' w'->Q .normal a' w'):
  ∀(fuel:Nat) {dn:List (Nat × Oper × List Nat)} {listed:Array Bool} {s:St} {a:Act} {w:World} {β:Bt},HeadInv .any ops ops.size listed->(Ml ops.size listed).length=fuel->Cw N w0 X0 Y β s a w->H3 C P N call ops (CQ C P ops (Ic ops.toList [])) dn (Ml ops.size listed) s K=some r->wpAny P .any ops Q fuel listed a w:=by
 unfold EU at hok;simp only[Bool.and_eq_true] at hok;obtain⟨Aks,Au8⟩:=hok;intro fuel
 induction fuel with
 |zero=>
  intro dn listed s a w β inv hf h hk;have hp:=List.eq_nil_of_length_eq_zero hf;rw[hp] at hk;refine⟨?_,hQ s a w β hk h⟩;cases hr:Region.ready .any ops listed with
  |nil=>rfl
  |cons i l=>
   exfalso;have hi:i∈Region.ready .any ops listed:=by rw[hr];simp
   obtain⟨Js,o,ho,_⟩:=mem_ready.1 hi;have:i∈Ml ops.size listed:=Jn.2 ⟨(Array.getElem?_eq_some_iff.1 ho).1,Js⟩;rw[hp] at this;simp at this
 |succ fuel ih=>
  intro dn listed s a w β inv hf h hk;refine⟨fun hr=>?_,fun i hi=>?_⟩
  ·rw[MU Aks inv hr] at hf;cases hf
  ·obtain⟨Js,o,ho,N3⟩:=mem_ready.1 hi;have Cb:i<ops.size:=(Array.getElem?_eq_some_iff.1 ho).1;obtain⟨l1,l2,h1,h2,h3⟩:=Xf (Jn.2 ⟨Cb,Js⟩) inv.size;rw[h1] at hk
   have hnb:∀j∈l1,((Ic ops.toList []).getD i 0).testBit j=false:=by
    intro j hj;cases JH:((Ic ops.toList []).getD i 0).testBit j with
    |false=>rfl
    |true=>
     exfalso;have hjl:=Rk (listed:=listed) (fun j oj hj hl=>inv.closed j oj hj hl) ops.toList [] [] (by simp) rfl (by simp) i o ho N3 j JH
     have:j∈Ml ops.size listed:=by rw[h1];simp[hj]
     have:=getD_both (Jn.1 this).2;rw[hjl] at this;cases this
   have Sk:∀j∈l1,j<i∧((Ic ops.toList []).getD i 0).testBit j=false∧∀x,ops[j]?=some x->Lo C P ops x o:=by
    intro j hj;refine⟨h3 j hj,hnb j hj,fun x hxj=>Aef ?_⟩
    cases I7:Akj C P ops x o with
    |false=>rfl
    |true=>
     exfalso;have JH:=Vl ops.toList 0 Au8 i o (by simpa using ho) j x hxj (by have:=h3 j hj;omega) I7
     rw[Nat.zero_add,hnb j hj] at JH;cases JH
   obtain⟨s',hs',hn⟩:=V5 h Ko Dz ho (Xy rfl ho l1 (Ajz h o) Sk hk).2;refine hn _ _ fun a' w' β' h'=>ih (dn:=(i,o,DL C P (CQ C P ops (Ic ops.toList [])) s i o)::dn) (inv.set hi Cb) ?_ h' ?_
   ·rw[h2];rw[h1] at hf;simp at hf ⊢;omega
   ·rw[h2];exact hs'
theorem DE (h:Cw N w0 X0 Y β s a w){G:Xg}(Ko:RV P G w0 X0)(Dz:∀f args res,call f args=some res->Dh G P f args res)(hm:P.follows .mixedOrders=true)(hok:EU C P ops=true){Q:Exit->Act->World->Prop}
  (hk:H3 C P N call ops (CQ C P ops (Ic ops.toList [])) [] (List.range ops.size) s K=some r) (hQ:∀s' a' w' β',K s'=some r->Cw N w0 X0 Y β' s' a' w'->Q .normal a' w'):wpAny P .any ops Q ops.size (Array.replicate ops.size false) a { w with drawn:=w.drawn+1 }:=by
 have hp:Ml ops.size (Array.replicate ops.size false)=List.range ops.size:=by
  unfold Ml;refine List.filter_eq_self.2 fun i hi=>?_
  have:=List.mem_range.1 hi;simp[this]
 refine QJ (C:=C) (dn:=[]) Ko Dz hok hQ ops.size ⟨by simp,fun j oj _ hl=>(by rw[getD_replicate_false] at hl;cases hl),fun t ht ht'=>by omega⟩ (by rw[hp];simp) h.drew ?_
 rw[hp];exact hk
theorem ST (h:Cw N w0 X0 Y β s a w){G:Xg}(Ko:RV P G w0 X0)(Dz:∀f args res,call f args=some res->Dh G P f args res)(hm:P.follows .mixedOrders=true)(hok:EU C P ops=true){id:Nat}{Q:Exit->Act->World->Prop}
  (hk:H3 C P N call ops (CQ C P ops (Ic ops.toList [])) [] (List.range ops.size) s K=some r) (hQ:∀s' a' w' β',K s'=some r->Cw N w0 X0 Y β' s' a' w'->Q .normal a' w'):(Code.region id ops true).wp P Q a w:=
 wp_region_any hm (DE h Ko Dz hm hok hk hQ)
end
open Go.RowKit
section
variable {R:Type} {r:R} {N:Nat} {w0:World} {X0:H0} {Y:Nat->Prop} {β β':Bt} {s:St} {a:Act} {w w':World}
theorem All {i:Nat}(hi:i<a.tmps.size):a.put (some i) (a.tmps.getD i undef)=a:=by
 obtain⟨tmps,dfr⟩:=a;change i<tmps.size at hi
 have:tmps.setIfInBounds i (tmps.getD i undef)=tmps:=by
  apply Array.ext_getElem?;intro k;by_cases e:i=k
  ·subst e;simp[hi]
  ·rw[Array.getElem?_setIfInBounds_ne e]
 simp only[Act.put,this]
theorem Aby {A:Nat->Prop}{es:Nat}{v:Value}(h:Ay w A (.lst true es 0 []) v):v=.slice none 0 0:=by
 cases h;rfl
theorem Acn {id:Nat}(Bm:s.hp id=none){v:PV}{val:Value}(hv:El w (Db (At s.hp [(id,.ar false [])]) (Cs β id none) Y) (Cs β id none) v val) (hr:∀i∈Bx v,s.hp i≠none∨i=id):
  LZ Y β s w v [(id,.ar false [])] val w (Cs β id none):=by
 refine⟨rfl,rfl,rfl,Cc.refl _ _,fun j hj=>Ak _ _ (by rintro rfl;exact hj Bm),?_,?_,?_,?_,?_,hv,?_⟩
 ·intro j bx hm;simp at hm;rw[hm.2];trivial
 ·intro j bx hm;simp at hm;obtain⟨rfl,rfl⟩:=hm;exact .inl ⟨An _ _ _,rfl⟩
 ·intro j bx k q hm hq;simp at hm;obtain⟨rfl,rfl⟩:=hm;rw[An] at hq;cases hq
 ·intro j bx j' bx' k q q' hm J1 _ _;simp at hm J1;rw[hm.1,J1.1]
 ·intro j cells hm;simp at hm
 ·intro j hj;rcases hr j hj with h|rfl
  ·exact .inl h
  ·exact .inr ⟨.ar false [],by simp⟩
theorem JJ (h:Cw N w0 X0 Y β s a w)(i:Nat):∃β',Cw N w0 X0 Y β' (DX N s i) a w:=by
 unfold DX;split
 ·rename_i es ht
  have Cb:i<N:=by
   rcases Nat.lt_or_ge i N with h'|h'
   ·exact h'
   ·rw[h.tmo i h'] at ht;cases ht
  have hv:=h.tms i Cb;rw[ht] at hv;have hv:=Aby hv;have hd:Gb N (some i)=true:=by simp[Gb,Nat.blt];omega
  have go:∀j,s.hp j=none->∃β',Cw N w0 X0 Y β' ⟨Cs s.tm i (.view j es 0 0),Cs s.hp j (some (.ar false []))⟩ a w:=by
   intro j hn;have:=h.stepR (d:=some i) hd (by simp[Bw,hn]) (Acn (v:=.view j es 0 0) (val:=.slice none 0 0) hn (.inl ⟨An _ _ _,rfl,rfl,none,rfl⟩) (by simp[Bx,Cf,As]))
   rw[←hv,All (by rw[h.tsz];exact Cb)] at this
   exact⟨_,this⟩
  cases hn:(s.hp i).isNone
  ·cases hn2:(s.hp (i+N*3000)).isNone
   ·exact⟨β,h⟩
   ·exact go _ (by simpa using hn2)
  ·exact go _ (by simpa using hn)
 ·exact⟨β,h⟩
theorem Cw.recell (h:Cw N w0 X0 Y β s a w){id:Nat}{c c':List PV}(h0:s.hp id=some (.st c)) (hl:c'.length=c.length)
  (hc:∀(j:Nat) p,c'[j]?=some p->∃q,c[j]?=some q∧(∀v,B2 w (Db s.hp β Y) β q v->B2 w (Db s.hp β Y) β p v)∧∀i∈As p,s.hp i≠none):
  Cw N w0 X0 Y β ⟨s.tm,Cs s.hp id (some (.st c'))⟩ a w:=by
 have Gj:∀i,Dd (Cs s.hp id (some (.st c')) i)↔Dd (s.hp i):=by
  intro i;by_cases e:i=id
  ·subst e;rw[An,h0];exact Iff.rfl
  ·rw[Ak _ _ e]
 have hX:NZ (Cs s.hp id (some (.st c'))) β=NZ s.hp β:=by
  funext b
  apply propext;constructor
  ·rintro⟨i,o,hl,hb⟩;exact⟨i,o,(Gj i).1 hl,hb⟩
  ·rintro⟨i,o,hl,hb⟩;exact⟨i,o,(Gj i).2 hl,hb⟩
 have hA:Db (Cs s.hp id (some (.st c'))) β Y=Db s.hp β Y:=by
  funext b;unfold Db;rw[hX]
 have E2:∀i,s.hp i≠none->Cs s.hp id (some (.st c')) i≠none:=by
  intro i hi;by_cases e:i=id
  ·subst e;rw[An];simp
  ·rw[Ak _ _ e];exact hi
 have Av6:∀i,Cs s.hp id (some (.st c')) i≠none->s.hp i≠none:=by
  intro i hi;by_cases e:i=id
  ·subst e;rw[h0];simp
  ·rw[Ak _ _ e] at hi;exact hi
 refine⟨h.dfr,h.tsz,h.tmo,?_,?_,?_,?_,?_,?_,?_,?_,fun i hi=>⟨E2 _ (h.pin i hi).1,(h.pin i hi).2⟩,?_,?_,h.Ylt,h.fr⟩
 ·intro i hi;show El w (Db (Cs s.hp id _) β Y) β _ _;rw[hA];exact h.tms i hi
 ·intro i b hb;show Q4 w (Db (Cs s.hp id _) β Y) β i b;rw[hA];by_cases e:i=id
  ·subst e;change Cs s.hp i (some (.st c')) i=some b at hb;rw[An] at hb;cases hb;obtain⟨b,o,h1,h2,h3⟩:=h.box i _ h0;refine⟨b,o,h1,fun j p hj=>?_,fun j hj=>h3 j (by rw[←hl];exact hj)⟩
   obtain⟨q,hq,hqp,_⟩:=hc j p hj;obtain⟨v,hv,hr⟩:=h2 j q hq;exact⟨v,hv,hqp v hr⟩
  ·change Cs s.hp id (some (.st c')) i=some b at hb;rw[Ak _ _ e] at hb;exact h.box i b hb
 ·intro i i' b o o' hl Ke hb H5;exact h.inj i i' b o o' ((Gj i).1 hl) ((Gj i').1 Ke) hb H5
 ·intro i b o hn hb;exact h.blt i b o (Av6 i hn) hb
 ·intro i hi j hj;exact E2 j (h.wfT i hi j hj)
 ·intro i cells hb p hp j hj;change Cs s.hp id (some (.st c')) i=_ at hb;by_cases e:i=id
  ·subst e;rw[An] at hb;cases hb;obtain⟨k,hk⟩:=List.mem_iff_getElem?.1 hp;obtain⟨_,_,_,hr⟩:=hc k p hk;exact E2 j (hr j hj)
  ·rw[Ak _ _ e] at hb;exact E2 j (h.wfB i cells hb p hp j hj)
 ·intro b hb;exact h.ownd b (by rw[←hX];exact hb)
 ·intro i bx b o hb hlb hβ Cb j hj;change Cs s.hp id (some (.st c')) i=some bx at hb;by_cases e:i=id
  ·subst e;rw[An] at hb;cases hb;exact h.rngB i _ b o h0 trivial hβ Cb j (by unfold BR at hj ⊢;simp only[hl] at hj;exact hj)
  ·rw[Ak _ _ e] at hb;exact h.rngB i bx b o hb hlb hβ Cb j hj
 ·intro i c1 b o hb hβ Cb;change Cs s.hp id (some (.st c')) i=_ at hb;by_cases e:i=id
  ·subst e;exact h.stp i c b o h0 hβ Cb
  ·rw[Ak _ _ e] at hb;exact h.stp i c1 b o hb hβ Cb
 ·intro b hY hb;exact h.Yx b hY (by rw[←hX];exact hb)
theorem JE (h:Cw N w0 X0 Y β s a w)(id j:Nat):∃β',Cw N w0 X0 Y β' (NE N id s j) a w:=by
 unfold NE;split
 ·rename_i c h0;split
  ·rename_i es hj;cases hn:(s.hp (id+N*(j+1))).isNone
   ·exact⟨β,h⟩
   ·have hn:s.hp (id+N*(j+1))=none:=by simpa using hn
    have E2:id≠id+N*(j+1):=by
     intro e;rw[←e,h0] at hn;cases hn
    have h1:=h.stepR (d:=none) (v:=.top) (val:=undef) rfl (by simp[Bw,hn]) (Acn hn (.top _) (by simp[Bx,Cf,As]))
    change Cw N w0 X0 Y (Cs β (id+N*(j+1)) none) ⟨s.tm,Cs s.hp (id+N*(j+1)) (some (.ar false []))⟩ a w at h1
    have h2:=h1.recell (id:=id) (c:=c) (c':=c.set j (.view (id+N*(j+1)) es 0 0)) (by show Cs _ _ _ _=_;rw[Ak _ _ E2];exact h0) (by simp) (by
     intro k p hp;by_cases e:k=j
     ·subst e
      have Cb:k<c.length:=by
       rcases Nat.lt_or_ge k c.length with h'|h'
       ·exact h'
       ·rw[List.getElem?_eq_none h'] at hj;cases hj
      rw[List.getElem?_set_self Cb] at hp;cases hp;refine⟨_,hj,fun v hv=>.inl ⟨An _ _ _,rfl,rfl,none,Aby hv⟩,fun i hi=>?_⟩
      simp[As] at hi;subst hi;show Cs _ _ _ _≠none;rw[An];simp
     ·rw[List.getElem?_set_ne (fun h=>e h.symm)] at hp
      refine⟨p,hp,fun _ hv=>hv,fun i hi=>?_⟩
      have:=h.wfB id c h0 p (List.mem_of_getElem? hp) i hi;show Cs _ _ _ _≠none;by_cases e':i=id+N*(j+1)
      ·subst e';rw[An];simp
      ·rw[Ak _ _ e'];exact this)
    refine⟨Cs β (id+N*(j+1)) none,?_⟩;have e3:Cs (Cs s.hp (id+N*(j+1)) (some (.ar false []))) id (some (.st (c.set j (.view (id+N*(j+1)) es 0 0))))=Cs (Cs s.hp id (some (.st (c.set j (.view (id+N*(j+1)) es 0 0))))) (id+N*(j+1)) (some (.ar false [])):=WE _ _ _ (fun h=>E2 h.symm)
    change Cw N w0 X0 Y (Cs β (id+N*(j+1)) none) ⟨s.tm,Cs (Cs s.hp (id+N*(j+1)) (some (.ar false []))) id (some (.st (c.set j (.view (id+N*(j+1)) es 0 0))))⟩ a w at h2;rw[e3] at h2;exact h2
  ·exact⟨β,h⟩
 ·exact⟨β,h⟩
theorem On {f:St->Nat->St}(hf:∀s β,Cw N w0 X0 Y β s a w->∀i,∃β',Cw N w0 X0 Y β' (f s i) a w):∀(l:List Nat){s:St}{β:Bt},Cw N w0 X0 Y β s a w->∃β',Cw N w0 X0 Y β' (l.foldl f s) a w
 |[],_,β,h=>⟨β,h⟩
 |i::l,s,β,h=>by
  obtain⟨β1,h1⟩:=hf s β h i;exact On hf l h1
theorem PG (h:Cw N w0 X0 Y β s a w)(i:Nat):∃β',Cw N w0 X0 Y β' (OR N s i) a w:=by
 unfold OR;split
 ·split
  ·exact On (fun s β h i=>JE h _ i) _ h
  ·exact⟨β,h⟩
 ·exact⟨β,h⟩
theorem MX:∀{m:List (Nat × Nat)},D9 (m.map (·.2))=true->∀{i i' j:Nat},(i,j)∈m->(i',j)∈m->i=i'
 |[],_,_,_,_,h,_=>by simp at h
 |(x,y)::m,hn,i,i',j,h,h'=>by
  simp only[List.map_cons,D9,Bool.and_eq_true,Bool.not_eq_true'] at hn
  have hy:∀k,(k,y) ∉ m:=by
   intro k hk;exact Rb hn.1 (List.mem_map.2 ⟨(k,y),hk,rfl⟩)
  rcases List.mem_cons.1 h with e|h
  ·cases e;rcases List.mem_cons.1 h' with e|h'
   ·cases e;rfl
   ·exact absurd h' (hy _)
  ·rcases List.mem_cons.1 h' with e|h'
   ·cases e;exact absurd h (hy _)
   ·exact MX hn.2 h h'
theorem AY:∀{m:List (Nat × Nat)},D9 (m.map (·.1))=true->∀{i j j':Nat},(i,j)∈m->(i,j')∈m->j=j'
 |[],_,_,_,_,h,_=>by simp at h
 |(x,y)::m,hn,i,j,j',h,h'=>by
  simp only[List.map_cons,D9,Bool.and_eq_true,Bool.not_eq_true'] at hn
  have hx:∀k,(x,k) ∉ m:=by
   intro k hk;exact Rb hn.1 (List.mem_map.2 ⟨(x,k),hk,rfl⟩)
  rcases List.mem_cons.1 h with e|h
  ·cases e;rcases List.mem_cons.1 h' with e|h'
   ·cases e;rfl
   ·exact absurd h' (hx _)
  ·rcases List.mem_cons.1 h' with e|h'
   ·cases e;exact absurd h (hx _)
   ·exact AY hn.2 h h'
theorem Mg {i j:Nat}(h:Nat.beq i j=false):i≠j:=by rintro rfl;rw[Nat.beq_refl] at h;cases h
theorem Yj:∀{m:List (Nat × Nat)} {i j:Nat},Vd m i=some j->(i,j)∈m
 |[],_,_,h=>by cases h
 |(x,y)::m,i,j,h=>by
  unfold Vd at h;cases hb:Nat.beq i x<;>rw[hb] at h
  ·exact List.mem_cons_of_mem _ (Yj h)
  ·have:=Nat.eq_of_beq_eq_true hb;cases h;rw[this];simp
theorem BC {m:List (Nat × Nat)} {hp:Nat->Option Bs}:∀{l:List (Nat × Nat)} {j:Nat}{b:Bs},Iw (L4 m hp l) j=some b->∃i b0,(i,j)∈l∧hp i=some b0∧b=Am9 m b0
 |[],_,_,h=>by cases h
 |(x,y)::l,j,b,h=>by
  unfold L4 at h;cases hx:hp x with
  |none=>
   rw[hx] at h;obtain⟨i,b0,h1,h2⟩:=BC h;exact⟨i,b0,List.mem_cons_of_mem _ h1,h2⟩
  |some bx=>
   rw[hx] at h;simp only[Iw] at h;cases hb:Nat.beq j y<;>rw[hb] at h
   ·obtain⟨i,b0,h1,h2⟩:=BC h;exact⟨i,b0,List.mem_cons_of_mem _ h1,h2⟩
   ·have:=Nat.eq_of_beq_eq_true hb;subst this;cases h;exact⟨x,bx,by simp,hx,rfl⟩
theorem Nv {m:List (Nat × Nat)} {hp:Nat->Option Bs}:∀{l:List (Nat × Nat)} {i j:Nat},(i,j)∈l->hp i≠none->Iw (L4 m hp l) j≠none
 |[],_,_,h,_=>by simp at h
 |(x,y)::l,i,j,h,hi=>by
  unfold L4;cases hx:hp x with
  |none=>
   rcases List.mem_cons.1 h with e|h
   ·cases e;exact absurd hx hi
   ·exact Nv h hi
  |some bx=>
   simp only[Iw];cases hb:Nat.beq j y
   ·rcases List.mem_cons.1 h with e|h
    ·cases e;exact absurd rfl (Mg hb)
    ·exact Nv h hi
   ·simp
def JQ (m:List (Nat × Nat)) (j:Nat):Option Nat:=
 match m with
 |[]=>none
 |(x,y)::r=>bif Nat.beq j y then some x else JQ r j
theorem Ac2:∀{m:List (Nat × Nat)} {i j:Nat},JQ m j=some i->(i,j)∈m
 |[],_,_,h=>by cases h
 |(x,y)::m,i,j,h=>by
  unfold JQ at h;cases hb:Nat.beq j y<;>rw[hb] at h
  ·exact List.mem_cons_of_mem _ (Ac2 h)
  ·have:=Nat.eq_of_beq_eq_true hb;cases h;rw[this];simp
theorem SS:∀{m:List (Nat × Nat)} {i j:Nat},(i,j)∈m->∃k,JQ m j=some k
 |[],_,_,h=>by simp at h
 |(x,y)::m,i,j,h=>by
  unfold JQ;cases hb:Nat.beq j y
  ·rcases List.mem_cons.1 h with e|h
   ·cases e;exact absurd rfl (Mg hb)
   ·exact SS h
  ·exact⟨x,rfl⟩
theorem NK {f:Nat->PV}:∀{l:List Nat}{i:Nat},lk (l.map fun i=>(i,f i)) i=if i∈l then f i else .top
 |[],_=>rfl
 |x::l,i=>by
  simp only[List.map_cons,lk];cases hb:Nat.beq i x
  ·have:=Mg hb;simp only[cond_false,NK,List.mem_cons,this,false_or]
  ·have:=Nat.eq_of_beq_eq_true hb;subst this;simp
theorem LF {m:Nat}:∀{n i:Nat},i∈Lu m n->i<n
 |0,_,h=>by simp[Lu] at h
 |n+1,i,h=>by
  simp only[Lu,List.mem_append] at h;rcases h with h|h
  ·have:=LF h;omega
  ·cases hb:m.testBit n<;>rw[hb] at h
   ·simp at h
   ·simp at h;omega
theorem QG (h:Cw N w0 X0 Y β s a w){m:List (Nat × Nat)} (h1:D9 (m.map (·.1))=true) (h2:D9 (m.map (·.2))=true) {ls:List Nat}(hls:∀i∈ls,i<N)(hpn:∀i,X0.pn i->(Do N i,Do N i)∈m):
  ∃β',Cw N w0 X0 Y β' ⟨lk (ls.map fun i=>(i,Aey m (s.tm i))),Iw (L4 m s.hp m)⟩ a w:=by
 refine⟨fun j=>(JQ m j).bind β,?_⟩
 have hβ:∀{i j:Nat},(i,j)∈m->(JQ m j).bind β=β i:=by
  intro i j hm;obtain⟨k,hk⟩:=SS hm;rw[hk];have:=MX h2 (Ac2 hk) hm;subst this;rfl
 have hold:∀{j:Nat} {b:Bs},Iw (L4 m s.hp m) j=some b->∃i b0,(i,j)∈m∧s.hp i=some b0∧b=Am9 m b0∧(JQ m j).bind β=β i:=by
  intro j b hb;obtain⟨i,b0,hm,h3,h4⟩:=BC hb;exact⟨i,b0,hm,h3,h4,hβ hm⟩
 have Gj:∀{j:Nat},Dd (Iw (L4 m s.hp m) j)->∃i,(i,j)∈m∧Dd (s.hp i)∧(JQ m j).bind β=β i:=by
  intro j hl;cases hb:Iw (L4 m s.hp m) j with
  |none=>rw[hb] at hl;exact hl.elim
  |some b=>
   obtain⟨i,b0,hm,h3,rfl,h5⟩:=hold hb;refine⟨i,hm,?_,h5⟩;rw[hb] at hl;rw[h3];cases b0<;>exact hl
 have hX:∀b,NZ (Iw (L4 m s.hp m)) (fun j=>(JQ m j).bind β) b->NZ s.hp β b:=by
  rintro b ⟨j,o,hl,hb⟩
  obtain⟨i,_,Ke,e⟩:=Gj hl;exact⟨i,o,Ke,by rw[←e];exact hb⟩
 have hA:∀b,Db (Iw (L4 m s.hp m)) (fun j=>(JQ m j).bind β) Y b->Db s.hp β Y b:=fun b hb=>hb.imp (hX b) id
 have hC:∀p v,B2 w (Db s.hp β Y) β p v->B2 w (Db (Iw (L4 m s.hp m)) (fun j=>(JQ m j).bind β) Y) (fun j=>(JQ m j).bind β) (XC m p) v:=by
  intro p v hp;cases p with
  |view id es off n=>
   show B2 _ _ _ (match Vd m id with|some j=>.view j es off n|none=>.top) v
   cases hj:Vd m id with
   |some j=>
    have e:=hβ (Yj hj);rcases hp with⟨e1,e2⟩|⟨b,o,x,cap,e1,e2⟩
    ·exact .inl ⟨by show (JQ m j).bind β=none;rw[e];exact e1,e2⟩
    ·exact .inr ⟨b,o,x,cap,by show (JQ m j).bind β=_;rw[e];exact e1,e2⟩
   |none=>exact Ay.top _
  |ptr id off=>
   show B2 _ _ _ (match Vd m id with|some j=>.ptr j off|none=>.top) v
   cases hj:Vd m id with
   |some j=>
    have e:=hβ (Yj hj);obtain⟨b,o,e1,e2⟩:=hp;exact⟨b,o,by show (JQ m j).bind β=_;rw[e];exact e1,e2⟩
   |none=>exact Ay.top _
  |sc v=>exact Ay.step (Cc.refl _ _) (fun b _=>hA b) hp
  |lst z es n c=>exact Ay.step (Cc.refl _ _) (fun b _=>hA b) hp
  |iptr c off=>exact B2.step (p:=.iptr c off) (Cc.refl _ _) (fun b _=>hA b) (by simp[As]) hp
  |_=>exact Ay.top _
 have hV:∀p v,El w (Db s.hp β Y) β p v->El w (Db (Iw (L4 m s.hp m)) (fun j=>(JQ m j).bind β) Y) (fun j=>(JQ m j).bind β) (Aey m p) v:=by
  intro p v hp;cases p with
  |agg c=>
   obtain⟨vs,e1,e2⟩:=hp;refine⟨vs,e1,Bh.of_at (by simp;exact e2.len) fun i q u hq hu=>?_⟩
   rw[List.getElem?_map] at hq;cases hc:c[i]? with
   |none=>rw[hc] at hq;cases hq
   |some q0=>
    rw[hc] at hq;cases hq;exact hC _ _ (e2.at_ hc hu)
  |view id es off n=>
   have:=hC (.view id es off n) v hp;change B2 _ _ _ (match Vd m id with|some j=>.view j es off n|none=>.top) v at this
   show El _ _ _ (match Vd m id with|some j=>.view j es off n|none=>.top) v
   cases hj:Vd m id<;>rw[hj] at this<;>exact this
  |ptr id off=>
   have:=hC (.ptr id off) v hp;change B2 _ _ _ (match Vd m id with|some j=>.ptr j off|none=>.top) v at this
   show El _ _ _ (match Vd m id with|some j=>.ptr j off|none=>.top) v
   cases hj:Vd m id<;>rw[hj] at this<;>exact this
  |sc v'=>exact hC (.sc v') v hp
  |lst z es n c=>exact hC (.lst z es n c) v hp
  |iptr c off=>exact hC (.iptr c off) v hp
  |_=>exact Ay.top _
 have hrC:∀p i,i∈As (XC m p)->∃k∈As p,(k,i)∈m:=by
  intro p i hi;cases p with
  |view id es off n=>
   change i∈As (match Vd m id with|some j=>.view j es off n|none=>.top) at hi
   cases hj:Vd m id<;>rw[hj] at hi
   ·simp[As] at hi
   ·simp[As] at hi;subst hi;exact⟨id,by simp[As],Yj hj⟩
  |ptr id off=>
   change i∈As (match Vd m id with|some j=>.ptr j off|none=>.top) at hi
   cases hj:Vd m id<;>rw[hj] at hi
   ·simp[As] at hi
   ·simp[As] at hi;subst hi;exact⟨id,by simp[As],Yj hj⟩
  |_=>simp[XC,As] at hi
 have hrV:∀p i,i∈Bx (Aey m p)->∃k∈Bx p,(k,i)∈m:=by
  intro p i hi;cases p with
  |agg c=>
   simp only[Aey,Bx,Cf,List.mem_flatMap,List.mem_map] at hi;obtain⟨_,⟨q,hq,rfl⟩,hi⟩:=hi;obtain⟨k,hk,hm⟩:=hrC q i hi;exact⟨k,by simp only[Bx,Cf,List.mem_flatMap];exact⟨q,hq,hk⟩,hm⟩
  |view id es off n=>
   refine (hrC (.view id es off n) i ?_).imp fun k hk=>hk
   change i∈Bx (match Vd m id with|some j=>.view j es off n|none=>.top) at hi
   show i∈As (match Vd m id with|some j=>.view j es off n|none=>.top)
   cases hj:Vd m id<;>rw[hj] at hi<;>exact hi
  |ptr id off=>
   refine (hrC (.ptr id off) i ?_).imp fun k hk=>hk
   change i∈Bx (match Vd m id with|some j=>.ptr j off|none=>.top) at hi
   show i∈As (match Vd m id with|some j=>.ptr j off|none=>.top)
   cases hj:Vd m id<;>rw[hj] at hi<;>exact hi
  |_=>simp[Aey,XC,Bx,Cf,As] at hi
 refine⟨h.dfr,h.tsz,?_,?_,?_,?_,?_,?_,?_,?_,?_,?_,?_,?_,h.Ylt,h.fr⟩
 ·intro i hi;show lk _ i=_;rw[NK,if_neg (fun hm=>by have:=hls i hm;omega)]
 ·intro i hi;show El w _ _ (lk _ i) _;rw[NK];split
  ·exact hV _ _ (h.tms i hi)
  ·exact Ay.top _
 ·intro j b hb;obtain⟨i,b0,hm,h3,rfl,e⟩:=hold hb;have Lj:=h.box i b0 h3;cases b0 with
  |st c=>
   obtain⟨b,o,e1,e2,e3⟩:=Lj;refine⟨b,o,by show (JQ m j).bind β=_;rw[e];exact e1,fun k p hp=>?_,fun k hk=>e3 k (by simpa using hk)⟩
   rw[List.getElem?_map] at hp;cases hc:c[k]? with
   |none=>rw[hc] at hp;cases hp
   |some q=>
    rw[hc] at hp;cases hp;obtain⟨v,hv,hr⟩:=e2 k q hc;exact⟨v,hv,hC _ _ hr⟩
  |ar fz c=>
   have:=Q4.step' hA Lj;show Q4 _ _ _ _ (.ar fz c);rcases this with⟨e1,e2⟩|⟨b,o,e1,e2⟩
   ·exact .inl ⟨by show (JQ m j).bind β=_;rw[e];exact e1,e2⟩
   ·exact .inr ⟨b,o,by show (JQ m j).bind β=_;rw[e];exact e1,e2⟩
  |mv=>exact trivial
 ·intro j j' b o o' hl Ke hb H5;obtain⟨i,hm,GT,e⟩:=Gj hl;obtain⟨i',J1,A7u,e'⟩:=Gj Ke;have:=h.inj i i' b o o' GT A7u (by rw[←e];exact hb) (by rw[←e'];exact H5)
  subst this;exact AY h1 hm J1
 ·intro j b o hn hb;cases hj:Iw (L4 m s.hp m) j with
  |none=>exact absurd hj hn
  |some bx=>
   obtain⟨i,b0,_,h3,_,e⟩:=hold hj;exact h.blt i b o (by rw[h3];simp) (by rw[←e];exact hb)
 ·intro i hi j hj;change j∈Bx (lk _ i) at hj;rw[NK] at hj;split at hj
  ·obtain⟨k,hk,hm⟩:=hrV _ j hj;exact Nv hm (h.wfT i hi k hk)
  ·simp[Bx,Cf,As] at hj
 ·intro j cells hb p hp k hk;obtain⟨i,b0,_,h3,h4,_⟩:=hold hb;cases b0 with
  |st c=>
   cases h4;obtain⟨q,hq,rfl⟩:=List.mem_map.1 hp;obtain⟨k',Ll,hm⟩:=hrC q k hk;exact Nv hm (h.wfB i c h3 q hq k' Ll)
  |ar fz c=>cases h4
  |mv=>cases h4
 ·intro b hb;exact h.ownd b (hX b hb)
 ·intro j bx b o hb hlb hβ1 Cb k hk;obtain⟨i,b0,_,h3,h4,e⟩:=hold hb;subst h4;refine h.rngB i b0 b o h3 ?_ (by rw[←e];exact hβ1) Cb k ?_
  ·cases b0<;>exact hlb
  ·cases b0 with
   |st c=>simpa [BR,Am9] using hk
   |ar fz c=>exact hk
   |mv=>exact hk
 ·intro i hi;exact⟨Nv (hpn i hi) (h.pin i hi).1,(hβ (hpn i hi)).trans (h.pin i hi).2⟩
 ·intro j c b o hb hβ1 Cb;obtain⟨i,b0,hm,h3,h4,e⟩:=hold hb;cases b0 with
  |st c0=>
   obtain⟨k,rfl,hk⟩:=h.stp i c0 b o h3 (by rw[←e];exact hβ1) Cb
   exact⟨k,AY h1 hm (hpn k hk),hk⟩
  |ar fz c0=>cases h4
  |mv=>cases h4
 ·intro b hY hb;exact h.Yx b hY (hX b hb)
theorem T7 {m:List (Nat × Nat)} {q:Nat × Nat}{o n:Nat}(h:q∈m):q∈KV m o n:=by
 unfold KV;split
 ·exact h
 ·exact List.mem_append.2 (.inl h)
theorem Li {q:Nat × Nat}{new:Nat}:∀{c:List PV}{j:Nat}{m:List (Nat × Nat)},q∈m->q∈Qw N new c j m
 |[],_,_,h=>h
 |p::c,j,m,h=>by
  unfold Qw;split
  ·rename_i e;cases e
  ·rename_i e;cases e;exact Li (T7 h)
  ·rename_i e;cases e;exact Li h
theorem UW {q:Nat × Nat}{m:List (Nat × Nat)} {i:Nat}(h:q∈m):q∈EI N s m i:=by
 unfold EI;split
 ·exact T7 h
 ·split
  ·exact h
  ·split
   ·exact Li (T7 h)
   ·exact T7 h
 ·exact Li h
 ·exact h
theorem Ye {q:Nat × Nat}:∀{l:List Nat}{m:List (Nat × Nat)},q∈m->q∈l.foldl (EI N s) m
 |[],_,h=>h
 |_::l,_,h=>Ye (l:=l) (UW h)
theorem Qx {q:Nat × Nat}{m:List (Nat × Nat)} (h:q∈m):∀k,q∈To N s.hp k m
 |0=>h
 |k+1=>by
  unfold To;split
  ·exact Li (Qx h k)
  ·exact Qx h k
theorem MY:∀{k i:Nat},i<k->s.hp (Do N i)≠none->(Do N i,Do N i)∈TA N s.hp k
 |0,_,h,_=>by omega
 |k+1,i,h,hn=>by
  unfold TA;by_cases e:i=k
  ·subst e
   have:(s.hp (Do N i)).isSome=true:=by
    cases hq:s.hp (Do N i) with
    |none=>exact absurd hq hn
    |some b=>rfl
   rw[this];simp
  ·have:=MY (k:=k) (i:=i) (by omega) hn
   cases (s.hp (Do N k)).isSome
   ·exact this
   ·exact List.mem_append.2 (.inl this)
theorem CE (h:Cw N w0 X0 Y β s a w){L:Nat}{q:Bool}{K:St->Option R}(hk:Acx N (Lu L N) q s K=some r):∃β' s',K s'=some r∧Cw N w0 X0 Y β' s' a w:=by
 unfold Acx at hk;obtain⟨hb,Ea⟩:=Al hk;simp only[Bool.and_eq_true] at hb
 obtain⟨β2,h2⟩:∃β2,Cw N w0 X0 Y β2 (bif q then s else (Lu L N).foldl (OR N) ((Lu L N).foldl (DX N) s)) a w:=by
  cases q
  ·obtain⟨β1,h1⟩:=On (fun s β h i=>JJ h i) (Lu L N) h
   obtain⟨β2,h2⟩:=On (fun s β h i=>PG h i) (Lu L N) h1
   exact⟨β2,h2⟩
  ·exact⟨β,h⟩
 obtain⟨β3,h3⟩:=QG h2 hb.1 hb.2 (ls:=Lu L N) (fun i hi=>LF hi) (fun i hi=>Ye (Qx (MY (X0.p8 i hi) (h2.pin i hi).1) 8))
 exact⟨β3,_,Ea,h3⟩
theorem So (h:Cw N w0 X0 Y β s a w){L:Nat}{K:St->Option R}(hk:Zj N L s K=some r):∃β' s',K s'=some r∧Cw N w0 X0 Y β' s' a w:=CE h hk
theorem WC (h:Cw N w0 X0 Y β s a w){L:Nat}{K:St->Option R}(hk:Acm N L s K=some r):∃β' s',K s'=some r∧Cw N w0 X0 Y β' s' a w:=CE h hk
end
open Go.RowKit
section
variable {R:Type} {r:R} {P:Program} {N:Nat} {w0:World} {X0:H0} {Y:Nat->Prop} {C:G1} {call:Am}
theorem KG {n:Nat}{F:St->Option R}{s:St}(h:IM n F s=some r):F s=some r:=by
 unfold IM at h;split at h
 ·cases h
 ·exact h
theorem VJ {β:Bt}{s:St}{a:Act}{w:World}(h:Cw N w0 X0 Y β s a w){c:Operand}{kt kf:St->Option R}(hk:Ajl s c kt kf=some r):(a.eval c=.bool true∧kt s=some r)∨(a.eval c=.bool false∧kf s=some r):=by
 unfold Ajl at hk;split at hk
 ·rename_i d;split at hk
  ·rename_i b ht;have hv:a.eval (.tmp d)=.bool b:=B8 h (x:=.tmp d) ht;cases b
   ·change kf ⟨Cs s.tm d (.sc (.bool false)),s.hp⟩=some r at hk;rw[Za s.tm ht] at hk;exact .inr ⟨hv,hk⟩
   ·change kt ⟨Cs s.tm d (.sc (.bool true)),s.hp⟩=some r at hk;rw[Za s.tm ht] at hk;exact .inl ⟨hv,hk⟩
  ·rename_i ht;have hu:=C4 h (.tmp d);change El _ _ _ (s.tm d) _ at hu;rw[ht] at hu;have I3:Ay w _ .ub (a.eval (.tmp d)):=hu
   obtain⟨b,hv⟩:∃b,a.eval (.tmp d)=.bool b:=by
    generalize a.eval (.tmp d)=x at I3;cases I3 with
    |ub b=>exact⟨b,rfl⟩
   obtain⟨h1,h2⟩:=ME hk;cases b
   ·exact .inr ⟨hv,h2⟩
   ·exact .inl ⟨hv,h1⟩
  ·cases hk
 ·exact .inl ⟨rfl,hk⟩
 ·exact .inr ⟨rfl,hk⟩
 ·cases hk
theorem GB {c:Code}{Q:Exit->Act->World->Prop}{F:(St->Option R)->St->Option R} {nm:St->(St->Option R)->Option R}
  (JI:∀{β s a w} {K:St->Option R},Cw N w0 X0 Y β s a w->nm s K=some r->∃β' s',K s'=some r∧Cw N w0 X0 Y β' s' a w)
  (hF:∀{β s a w} {K:St->Option R}{Q':Act->World->Prop},Cw N w0 X0 Y β s a w->F K s=some r->(∀s' a' w' β',K s'=some r->Cw N w0 X0 Y β' s' a' w'->Q' a' w')->c.wp P (Exit.then Q' Q) a w):
  ∀(n:Nat) {β s a w},Cw N w0 X0 Y β s a w->Ahv F nm n s=some r->Code.rounds P c Q n a w
 |0,_,_,_,_,_,hk=>by cases hk
 |n+1,β,s,a,w,h,hk=>by
  rw[rounds_succ];refine hF h hk fun s' a' w' β' Ll h'=>?_
  obtain⟨β1,s1,Ea,h1⟩:=JI h' Ll;exact GB JI hF n h1 Ea
theorem YX {G:Xg}(Ko:RV P G w0 X0)(Dz:∀f args res,call f args=some res->Dh G P f args res)(hm:P.follows .mixedOrders=true){fu:Nat}:
  ∀(c:Code) {ln:Nat} {lx:Nat->Nat} {lr:Nat} {kn:St->Option R} {kx:Nat->St->Option R} {kr:St->Option R} {β:Bt} {s:St} {a:Act} {w:World} {Q:Exit->Act->World->Prop},Cw N w0 X0 Y β s a w ->
   Pk C P fu N call c ln lx lr kn kx kr s=some r->(∀s' a' w' β',kn s'=some r->Cw N w0 X0 Y β' s' a' w'->Q .normal a' w') ->
   (∀id s' a' w' β',kx id s'=some r->Cw N w0 X0 Y β' s' a' w'->Q (.exit id) a' w')->(∀s' a' w' β',kr s'=some r->Cw N w0 X0 Y β' s' a' w'->Q .ret a' w')->c.wp P Q a w:=by
 intro c
 induction c with
 |skip=>intro ln lx lr kn kx kr β s a w Q h hk hn hx hr;exact wp_skip (hn s a w β hk h)
 |region id ops draw=>
  intro ln lx lr kn kx kr β s a w Q h hk hn hx hr;unfold Pk at hk;cases draw
  ·simp only[SW,Bool.false_and,cond_false] at hk;exact NF h Ko Dz hk hn
  ·simp only[SW,Asp,Bool.true_and,cond_true] at hk;cases hb:NA C P ops<;>rw[hb] at hk
   ·obtain⟨H5,Ea⟩:=Al (show A2 _ _=some r from hk)
    exact ST h Ko Dz hm H5 Ea hn
   ·exact OJ h Ko Dz hm hb hk hn
 |seq c1 c2 ih1 ih2=>
  intro ln lx lr kn kx kr β s a w Q h hk hn hx hr;unfold Pk at hk
  refine wp_seq (ih1 h hk (fun s' a' w' β' Ll h'=>by
    cases hc:Ai8 P c1 c2
    ·rw[hc] at Ll;exact ih2 h' Ll hn hx hr
    ·rw[hc] at Ll;cases hq:EC c1 c2
     ·rw[hq] at Ll;obtain⟨β1,s1,Ea,h1⟩:=So h' (show Zj _ _ _ _=some r from Ll)
      exact ih2 h1 (KG Ea) hn hx hr
     ·rw[hq] at Ll;obtain⟨β1,s1,Ea,h1⟩:=WC h' (show Acm _ _ _ _=some r from Ll)
      exact ih2 h1 (KG Ea) hn hx hr) (fun id s' a' w' β' Ll h'=>hx id s' a' w' β' Ll h') (fun s' a' w' β' Ll h'=>hr s' a' w' β' Ll h'))
 |cond c c1 c2 ih1 ih2=>
  intro ln lx lr kn kx kr β s a w Q h hk hn hx hr;unfold Pk at hk;rcases VJ h hk with⟨hc,Ea⟩|⟨hc,Ea⟩
  ·exact wp_cond_true hc (ih1 h Ea hn hx hr)
  ·exact wp_cond_false hc (ih2 h Ea hn hx hr)
 |block id c ih=>
  intro ln lx lr kn kx kr β s a w Q h hk hn hx hr;unfold Pk at hk;refine wp_block (ih h hk (fun s' a' w' β' Ll h'=>hn s' a' w' β' Ll h') (fun j s' a' w' β' Ll h'=>?_) (fun s' a' w' β' Ll h'=>hr s' a' w' β' Ll h'))
  show (if j=id then _ else _)
  by_cases e:j=id
  ·subst e;rw[if_pos rfl];rw[Nat.beq_refl] at Ll;exact hn s' a' w' β' Ll h'
  ·rw[if_neg e]
   have:Nat.beq j id=false:=by
    cases hb:Nat.beq j id
    ·rfl
    ·exact absurd (Nat.eq_of_beq_eq_true hb) e
   rw[this] at Ll;exact hx j s' a' w' β' Ll h'
 |loop c ih=>
  intro ln lx lr kn kx kr β s a w Q h hk hn hx hr;unfold Pk at hk;obtain⟨β1,s1,Ea,h1⟩:=So h hk;refine wp_loop_rounds fu (GB (fun h hk=>So h hk) (fun h hk hQ=>?_) fu h1 Ea)
  exact ih h hk hQ (fun id s' a' w' β' Ll h'=>hx id s' a' w' β' Ll h') (fun s' a' w' β' Ll h'=>hr s' a' w' β' Ll h')
 |«exit» id=>intro ln lx lr kn kx kr β s a w Q h hk hn hx hr;exact wp_exit (hx id s a w β hk h)
 |ret=>intro ln lx lr kn kx kr β s a w Q h hk hn hx hr;exact wp_ret (hr s a w β hk h)
 |_=>intro ln lx lr kn kx kr β s a w Q h hk hn hx hr;cases hk
end
open Go.RowKit
theorem Md:∀{l:List (Nat × Bs)} {i:Nat}{b:Bs},Iw l i=some b->(i,b)∈l
 |[],_,_,h=>by cases h
 |(j,c)::l,i,b,h=>by
  unfold Iw at h;cases hb:Nat.beq i j<;>rw[hb] at h
  ·exact List.mem_cons_of_mem _ (Md h)
  ·have:=Nat.eq_of_beq_eq_true hb;cases h;rw[this];simp
theorem QF:∀{l:List (Nat × Bs)},(l.map (·.1)).Nodup->∀{i b},(i,b)∈l->Iw l i=some b
 |[],_,_,_,h=>by cases h
 |(j,c)::l,hn,i,b,h=>by
  simp only[List.map_cons,List.nodup_cons] at hn;unfold Iw;rcases List.mem_cons.1 h with e|h
  ·cases e;simp only[Nat.beq_refl,cond_true]
  ·have:Nat.beq i j=false:=by
    cases hb:Nat.beq i j
    ·rfl
    ·exact absurd (Nat.eq_of_beq_eq_true hb ▸ List.mem_map.2 ⟨_,h,rfl⟩) hn.1
   simp only[this,cond_false];exact QF hn.2 h
section
variable {R:Type} {r:R} {P:Program} {N:Nat} {w0:World} {X0:H0} {Y:Nat->Prop} {β β':Bt} {s:St} {a:Act} {w w':World} {A:Nat->Prop}
theorem Ama {id:Nat}{t:CT}{p:PV}{K:PV->List (Nat × Bs)->Option R} (hk:Ahf id t p K=some r):
  (∃c,K c []=some r∧Vr c∧∀w A q u,Gd w A q p u->Ay w A c u)∨∃es n cc,p=.own es n cc∧K (.view id es 0 n) [(id,.ar false cc)]=some r:=by
 have tree:∀t',(BG t' p fun c=>K c [])=some r->∃c,K c []=some r∧Vr c∧∀w A q u,Gd w A q p u->Ay w A c u:=by
  intro t' hk;obtain⟨c,hk,hT,GL,hv⟩:=Mp hk;refine⟨c,hk,hT,fun w A q u h=>(hv w A (fun _=>none) u ?_).1⟩
  cases p<;>first|exact h|exact GL.elim
 unfold Ahf at hk;cases t with
 |sl es=>
  dsimp only at hk;split at hk
  ·rename_i es' n c;cases hb:Nat.beq es' es<;>rw[hb] at hk
   ·cases hk
   ·have:=Nat.eq_of_beq_eq_true hb;subst this;exact .inr ⟨_,_,_,rfl,hk⟩
  ·exact .inl (tree (.sl es) hk)
 |int k=>exact .inl (tree _ hk)
 |bool=>exact .inl (tree _ hk)
 |str=>exact .inl (tree _ hk)
 |any=>exact .inl (tree _ hk)
theorem Pw:∀{ts:List CT}{id:Nat}{ps:List PV}{K:List PV->List (Nat × Bs)->Option R},CU N id ts ps K=some r ->
  ∃cs bs,∃qs:List (Nat × Nat),K cs bs=some r∧cs.length=ps.length∧ps.length=ts.length∧bs.map (·.1)=qs.map (·.1)∧(∀q∈qs,∀q'∈qs,q.2=q'.2->q.1=q'.1) ∧
   (∀i bx,(i,bx)∈bs->∃c,bx=.ar false c)∧(∀c∈cs,JM c)∧(∀c∈cs,∀i∈As c,∃bx,(i,bx)∈bs) ∧
   ∀(w:World) (A:Nat->Prop) (own β':Bt) (j0:Nat) (us:List Value),(∀q∈qs,β' q.1=own (j0+q.2))->Ex w A own j0 ps us->Bh (B2 w A β') cs us∧∀i bx,(i,bx)∈bs->Q4 w A β' i bx
 |[],id,ps,K,hk=>by
  obtain⟨rfl,hk⟩:=Dr hk;refine⟨[],[],[],hk,rfl,rfl,rfl,by simp,by simp,by simp,by simp,fun w A own β' j0 us _ h=>⟨?_,by simp⟩⟩
  cases us with
  |nil=>trivial
  |cons u us=>exact h.elim
 |t::ts,id,ps,K,hk=>by
  unfold CU at hk;obtain⟨p,ps',DC,Ea⟩:=Bb hk;subst DC;rcases Ama Ea with⟨c,Ep,hT,hv⟩|⟨es,n,cc,rfl,Ep⟩
  ·obtain⟨cs,bs,qs,Lk,hl,Ru,hb,Jm,E7,hF,H8,Rz⟩:=Pw Ep;refine⟨c::cs,bs,qs.map (fun q=>(q.1,q.2+1)),Lk,by simp[hl],by simp[Ru],by rw[hb];simp,?_,E7,?_,?_,fun w A own β' j0 us hβ ho=>?_⟩
   ·intro q hq q' Ft e;obtain⟨q0,U0,rfl⟩:=List.mem_map.1 hq;obtain⟨q1,I8,rfl⟩:=List.mem_map.1 Ft;exact Jm q0 U0 q1 I8 (by simp only at e;omega)
   ·intro y hy;rcases List.mem_cons.1 hy with rfl|hy
    ·exact Rl hT
    ·exact hF y hy
   ·intro y hy i hi;rcases List.mem_cons.1 hy with rfl|hy
    ·rw[Hs hT] at hi;cases hi
    ·exact H8 y hy i hi
   ·cases us with
    |nil=>exact ho.elim
    |cons u us=>
     obtain⟨h1,h2⟩:=Rz w A own β' (j0+1) us (fun q hq=>by rw[hβ _ (List.mem_map_of_mem hq)];congr 1;simp only;omega) ho.2
     exact⟨⟨Ahd (hv w A _ u ho.1),h1⟩,h2⟩
  ·obtain⟨cs,bs,qs,Lk,hl,Ru,hb,Jm,E7,hF,H8,Rz⟩:=Pw Ep;refine⟨_::cs,(id,.ar false cc)::bs,(id,0)::qs.map (fun q=>(q.1,q.2+1)),Lk,by simp[hl],by simp[Ru],by simp only[List.map_cons,hb];simp,?_,?_,?_,?_,fun w A own β' j0 us hβ ho=>?_⟩
   ·intro q hq q' Ft e;rcases List.mem_cons.1 hq with rfl|hq
    ·rcases List.mem_cons.1 Ft with rfl|Ft
     ·rfl
     ·obtain⟨q0,U0,rfl⟩:=List.mem_map.1 Ft;simp only at e;omega
    ·obtain⟨q0,U0,rfl⟩:=List.mem_map.1 hq;rcases List.mem_cons.1 Ft with rfl|Ft
     ·simp only at e;omega
     ·obtain⟨q1,I8,rfl⟩:=List.mem_map.1 Ft;exact Jm q0 U0 q1 I8 (by simp only at e;omega)
   ·intro i bx hm;rcases List.mem_cons.1 hm with e|hm
    ·cases e;exact⟨cc,rfl⟩
    ·exact E7 i bx hm
   ·intro y hy;rcases List.mem_cons.1 hy with rfl|hy
    ·trivial
    ·exact hF y hy
   ·intro y hy i hi;rcases List.mem_cons.1 hy with rfl|hy
    ·simp only[As,List.mem_singleton] at hi;subst hi;exact⟨_,List.mem_cons_self⟩
    ·obtain⟨bx,Lj⟩:=H8 y hy i hi;exact⟨bx,List.mem_cons_of_mem _ Lj⟩
   ·cases us with
    |nil=>exact ho.elim
    |cons u us=>
     obtain⟨h1,h2⟩:=Rz w A own β' (j0+1) us (fun q hq=>by rw[hβ _ (List.mem_cons_of_mem _ (List.mem_map_of_mem hq))];congr 1;simp only;omega) ho.2
     have h0:=hβ (id,0) List.mem_cons_self;simp only[Nat.add_zero] at h0;refine⟨⟨?_,h1⟩,fun i bx hm=>?_⟩
     ·rcases ho.1 with⟨h3,rfl,_,h5⟩|⟨b,ob,cap,h3,h4,h5,h6,h7,_⟩
      ·exact .inl ⟨h0.trans h3,rfl,rfl,h5⟩
      ·exact .inr ⟨b,ob,ob,cap,h0.trans h3,h4,.inl rfl,h5,h6,h7⟩
     ·rcases List.mem_cons.1 hm with e|hm
      ·cases e;exact Xr ho.1 h0
      ·exact h2 i bx hm
theorem Aq9 {i:Nat}{t:TypeId}{p:PV}{K:PV->List (Nat × Bs)->Option R} (hk:inK P N i t p K=some r):
  ∃v bs,∃qs:List (Nat × Nat),K v bs=some r∧bs.map (·.1)=qs.map (·.1)∧(∀q∈qs,∀q'∈qs,q.2=q'.2->q.1=q'.1)∧(Zp p=true->(Do N i,0)∈qs∧i<8) ∧
   (∀id bx,(id,bx)∈bs->Dd (some bx)∧∀c,bx=.st c->id=Do N i∧Zp p=true)∧(∀id∈Bx v,∃bx,(id,bx)∈bs)∧AG bs ∧
   ∀(w:World) (A:Nat->Prop) (bt β':Bt) (u:Value),(∀q∈qs,β' q.1=bt q.2)->SX w A bt p u->El w A β' v u∧(∀id bx,(id,bx)∈bs->Q4 w A β' id bx) ∧
    ∀id bx b o,(id,bx)∈bs->β' id=some (b,o)->∀j,BR bx o j->Awn bt p b j:=by
 have owns:∀{bs:List (Nat × Bs)} {qs:List (Nat × Nat)},bs.map (·.1)=qs.map (·.1)->(∀i bx,(i,bx)∈bs->∃c,bx=.ar false c)->∀{bt β':Bt},(∀q∈qs,β' q.1=bt (1+q.2))->∀id bx b o,(id,bx)∈bs->β' id=some (b,o)->∀j,BR bx o j->∃k o',bt (k+1)=some (b,o')∧o'<=j:=by
  intro bs qs hb E7 bt β' hβ id bx b o hm PD j hj;have:id∈qs.map (·.1):=by rw[←hb];exact List.mem_map.2 ⟨_,hm,rfl⟩
  obtain⟨q,hq,rfl⟩:=List.mem_map.1 this;obtain⟨c,rfl⟩:=E7 _ _ hm;rw[hβ q hq,Nat.add_comm] at PD;exact⟨q.2,o,PD,hj⟩
 have nost:∀{bs:List (Nat × Bs)},(∀i bx,(i,bx)∈bs->∃c,bx=.ar false c)->AG bs:=by
  intro bs E7 id cells hm;obtain⟨c,e⟩:=E7 id _ hm;cases e
 unfold inK at hk;split at hk
 ·rename_i e he;obtain⟨ps,rfl,Ea⟩:=LJ hk;obtain⟨hi8,Ep⟩:=Al Ea;have hi8:i<8:=Nat.lt_of_succ_le (Nat.le_of_ble_eq_true hi8);obtain⟨cs,bs,qs,Lk,hl,Ru,hb,Jm,E7,hF,H8,hv⟩:=Pw Ep;refine⟨_,_,(Do N i,0)::qs.map (fun q=>(q.1,q.2+1)),Lk,by simp only[List.map_cons,hb];simp,?_,fun _=>⟨List.mem_cons_self,hi8⟩,?_,?_,?_,fun w A bt β' u hβ hp=>?_⟩
  ·intro q hq q' Ft e;rcases List.mem_cons.1 hq with rfl|hq
   ·rcases List.mem_cons.1 Ft with rfl|Ft
    ·rfl
    ·obtain⟨q0,U0,rfl⟩:=List.mem_map.1 Ft;simp only at e;omega
   ·obtain⟨q0,U0,rfl⟩:=List.mem_map.1 hq;rcases List.mem_cons.1 Ft with rfl|Ft
    ·simp only at e;omega
    ·obtain⟨q1,I8,rfl⟩:=List.mem_map.1 Ft;exact Jm q0 U0 q1 I8 (by simp only at e;omega)
  ·intro id bx hm;rcases List.mem_cons.1 hm with e|hm
   ·cases e;exact⟨trivial,fun _ _=>⟨rfl,rfl⟩⟩
   ·obtain⟨c,rfl⟩:=E7 id bx hm;exact⟨trivial,fun _ e=>by cases e⟩
  ·intro id Bm;simp only[Bx,Cf,As,List.mem_singleton] at Bm;subst Bm;exact⟨_,List.mem_cons_self⟩
  ·intro id cells hm c hc k hk;rcases List.mem_cons.1 hm with e|hm
   ·cases e;obtain⟨bx,Lj⟩:=H8 c hc k hk;exact⟨bx,List.mem_cons_of_mem _ Lj⟩
   ·obtain⟨c,e⟩:=E7 id _ hm;cases e
  ·obtain⟨b,o,h1,rfl,_,vs,h3,h4,h5⟩:=hp;have h0:=hβ (Do N i,0) List.mem_cons_self;simp only at h0;have hβ1:∀q∈qs,β' q.1=bt (1+q.2):=fun q hq=>by rw[hβ _ (List.mem_cons_of_mem _ (List.mem_map_of_mem hq)),Nat.add_comm]
   obtain⟨h6,h7⟩:=hv w A bt β' 1 vs hβ1 h3;refine⟨⟨b,o,h0.trans h1,by simp⟩,fun id bx hm=>?_,fun id bx b' o' hm H5 j hj=>?_⟩
   ·rcases List.mem_cons.1 hm with e|hm
    ·cases e;refine⟨b,o,h0.trans h1,fun k c hk=>?_,fun k hk=>h5 k (by omega)⟩
     obtain⟨v,hv,NB⟩:=h6.get hk;exact⟨v,h4 k v hv,NB⟩
    ·exact h7 id bx hm
   ·rcases List.mem_cons.1 hm with e|hm
    ·cases e;rw[h0] at H5;have hj:o'<=j∧j<o'+cs.length:=hj;exact .inr ⟨o',ps,H5,hj.1,.inl ⟨rfl,by omega⟩⟩
    ·exact .inl (owns hb E7 hβ1 id bx b' o' hm H5 j hj)
 ·split at hk
  ·rename_i ps;obtain⟨e,he,Ea⟩:=Ce hk;obtain⟨hi8,Ep⟩:=Al Ea;have hi8:i<8:=Nat.lt_of_succ_le (Nat.le_of_ble_eq_true hi8);obtain⟨q,qr,hq,Lk⟩:=Bb Ep;subst hq;obtain⟨BH,Uj⟩:=Dr Lk;subst BH;unfold IU at Uj;split at Uj
   ·rename_i es' n c;cases hb:Nat.beq es' (Bc P e)<;>rw[hb] at Uj
    ·cases Uj
    ·have Vf:=Nat.eq_of_beq_eq_true hb;subst Vf;refine⟨_,_,[(Do N i,0)],Uj,rfl,by simp,fun _=>⟨by simp,hi8⟩,?_,?_,?_,fun w A bt β' u hβ hp=>?_⟩
     ·intro id bx hm;simp only[List.mem_singleton] at hm;cases hm;exact⟨trivial,fun _ e=>by cases e⟩
     ·intro id Bm;simp only[Bx,Cf,As,List.mem_singleton] at Bm;subst Bm;exact⟨_,List.mem_cons_self⟩
     ·intro id cells hm;simp only[List.mem_singleton] at hm;cases hm
     ·obtain⟨es,n',c',h1,h2⟩:=hp;cases h1;have h0:=hβ (Do N i,0) List.mem_cons_self;simp only at h0;refine⟨?_,fun id bx hm=>?_,fun id bx b' o' hm H5 j hj=>?_⟩
      ·rcases h2 with⟨h3,rfl,_,h5⟩|⟨b,ob,cap,h3,h4,h5,h6,h7,_⟩
       ·exact .inl ⟨h0.trans h3,rfl,rfl,h5⟩
       ·exact .inr ⟨b,ob,ob,cap,h0.trans h3,h4,.inl rfl,h5,h6,h7⟩
      ·simp only[List.mem_singleton] at hm;cases hm;exact Xr h2 h0
      ·simp only[List.mem_singleton] at hm;cases hm;rw[h0] at H5;exact .inr ⟨o',_,H5,hj,.inr rfl⟩
   ·cases Uj
  ·rename_i hnt;cases F0:B9 P t<;>rw[F0] at hk
   ·simp only[cond_false] at hk;obtain⟨cs,bs,qs,Lk,hl,Ru,hb,Jm,E7,hF,H8,hv⟩:=Pw hk;obtain⟨c,cs',EN,Uj⟩:=Bb Lk;subst EN;obtain⟨BH,hk5⟩:=Dr Uj;subst BH;have hFc:=hF c (by simp)
    have hnL:Zp p=false∨∃ps,p=.pbox ps:=by
     cases p<;>first|exact .inl rfl|exact .inr ⟨_,rfl⟩|exact absurd rfl (hnt _)
    have hpb:∀ps,p ≠ .pbox ps:=by
     rintro ps rfl
     cases QO:H7 P t with
     |nil=>rw[QO] at Ru;simp at Ru
     |cons t' ts=>
      rw[QO] at hk;unfold CU Ahf at hk;obtain⟨q,qs1,hq,Ea⟩:=Bb hk;cases hq;cases t'<;>simp[BG,F1,Aj,Aq,Ar,fnK] at Ea
    have hpa:∀ps,p ≠ .agg ps:=by
     rintro ps rfl
     cases QO:H7 P t with
     |nil=>rw[QO] at Ru;simp at Ru
     |cons t' ts=>
      rw[QO] at hk;unfold CU Ahf at hk;obtain⟨q,qs1,hq,Ea⟩:=Bb hk;cases hq;cases t'<;>simp[BG,F1,Aj,Aq,Ar,fnK] at Ea
    have hnL:Zp p=false:=hnL.elim id (fun ⟨ps,e⟩=>absurd e (hpb ps))
    have Vv:Bx c=As c:=by cases c<;>first|rfl|exact hFc.elim
    refine⟨c,bs,qs.map (fun q=>(q.1,q.2+1)),hk5,by rw[hb];simp,?_,(fun h=>by rw[hnL] at h;cases h),?_,fun id Bm=>H8 c (by simp) id (by rw[←Vv];exact Bm),nost E7,fun w A bt β' u hβ hp=>?_⟩
    ·intro q hq q' Ft e;obtain⟨q0,U0,rfl⟩:=List.mem_map.1 hq;obtain⟨q1,I8,rfl⟩:=List.mem_map.1 Ft;exact Jm q0 U0 q1 I8 (by simp only at e;omega)
    ·intro id bx hm;obtain⟨c,rfl⟩:=E7 id bx hm;exact⟨trivial,fun _ e=>by cases e⟩
    ·have Cy:Gd w A (bt 1) p u:=by cases p<;>first|exact hp.2|exact absurd rfl (hpa _)|exact absurd rfl (hpb _)|exact absurd rfl (hnt _)
     have hβ1:∀q∈qs,β' q.1=bt (1+q.2):=fun q hq=>by rw[hβ _ (List.mem_map_of_mem hq),Nat.add_comm]
     obtain⟨h6,h7⟩:=hv w A bt β' 1 [u] hβ1 ⟨Cy,trivial⟩;refine⟨?_,h7,fun id bx b' o' hm H5 j hj=>.inl (owns hb E7 hβ1 id bx b' o' hm H5 j hj)⟩
     have h8:=h6.1;cases c<;>first|exact h8|exact hFc.elim
   ·simp only[cond_true] at hk;obtain⟨ps,H4,Ea⟩:=G2 hk;subst H4;obtain⟨cs,bs,qs,Lk,hl,Ru,hb,Jm,E7,hF,H8,hv⟩:=Pw Ea;refine⟨_,bs,qs.map (fun q=>(q.1,q.2+1)),Lk,by rw[hb];simp,?_,(fun h=>by cases h),?_,fun id Bm=>?_,nost E7,fun w A bt β' u hβ hp=>?_⟩
    ·intro q hq q' Ft e;obtain⟨q0,U0,rfl⟩:=List.mem_map.1 hq;obtain⟨q1,I8,rfl⟩:=List.mem_map.1 Ft;exact Jm q0 U0 q1 I8 (by simp only at e;omega)
    ·intro id bx hm;obtain⟨c,rfl⟩:=E7 id bx hm;exact⟨trivial,fun _ e=>by cases e⟩
    ·obtain⟨c,hc,hi⟩:=List.mem_flatMap.1 (show id∈cs.flatMap As from Bm)
     exact H8 c hc id hi
    ·obtain⟨vs,h1,_,h3⟩:=hp;have hβ1:∀q∈qs,β' q.1=bt (1+q.2):=fun q hq=>by rw[hβ _ (List.mem_map_of_mem hq),Nat.add_comm]
     obtain⟨h6,h7⟩:=hv w A bt β' 1 vs hβ1 h3;exact⟨⟨vs,h1,h6⟩,h7,fun id bx b' o' hm H5 j hj=>.inl (owns hb E7 hβ1 id bx b' o' hm H5 j hj)⟩
theorem VO:∀{ts:List TypeId}{i:Nat}{ps:List PV}{K:List (Nat × PV)->List (Nat × Bs)->Option R},Ah1 P N i ts ps K=some r ->
  ∃tms bs,∃qs:List (Nat × Nat × Nat),K tms bs=some r∧bs.map (·.1)=qs.map (·.1)∧(∀q∈qs,i<=q.2.1)∧(∀q∈qs,∀q'∈qs,q.2=q'.2->q.1=q'.1) ∧
   (∀k p,ps[k]?=some p->Zp p=true->(Do N (i+k),i+k,0)∈qs∧i+k<8)∧(∀id bx,(id,bx)∈bs->Dd (some bx)∧∀c,bx=.st c->∃k p,ps[k]?=some p∧Zp p=true∧id=Do N (i+k)) ∧
   (∀j,∀id∈Bx (lk tms j),∃bx,(id,bx)∈bs)∧AG bs ∧
   ∀(w:World) (A:Nat->Prop) (bt:Zn) (β':Bt) (us:List Value),(∀q∈qs,β' q.1=bt q.2.1 q.2.2)->K0 w A bt i ps us ->
    (∀j,(∃u,i<=j∧us[j-i]?=some u∧El w A β' (lk tms j) u)∨(lk tms j=.top∧(i<=j->us[j-i]?=none)))∧(∀id bx,(id,bx)∈bs->Q4 w A β' id bx) ∧
    ∀id bx b o,(id,bx)∈bs->β' id=some (b,o)->∀j,BR bx o j->∃k p,ps[k]?=some p∧Awn (bt (i+k)) p b j
 |[],i,ps,K,hk=>by
  obtain⟨DC,hk⟩:=Dr hk;subst DC;refine⟨[],[],[],hk,rfl,by simp,by simp,by simp,by simp,(fun j id Bm=>by cases Bm),(by intro i cells hm;cases hm),fun w A bt β' us _ h=>?_⟩
  cases us with
  |nil=>exact⟨fun j=>.inr ⟨rfl,fun _=>by simp⟩,by simp,by simp⟩
  |cons u us=>exact h.elim
 |t::ts,i,ps,K,hk=>by
  unfold Ah1 at hk;obtain⟨p,ps',DC,Ea⟩:=Bb hk;subst DC;obtain⟨v,bs,qs,Ep,hb,hqi,ET,Lj,hr,XX,hv⟩:=Aq9 Ea;obtain⟨tms,bs',qs',Lk,H5,Auc,A8i,A5h,A6x,hr',Bbd,N2⟩:=VO Ep;refine⟨(i,v)::tms,bs++bs',qs.map (fun q=>(q.1,i,q.2))++qs',Lk,by simp only[List.map_append,hb,H5];simp,?_,?_,?_,?_,?_,?_,fun w A bt β' us hβ hp=>?_⟩
  ·intro q hq;rcases List.mem_append.1 hq with hq|hq
   ·obtain⟨q0,U0,rfl⟩:=List.mem_map.1 hq;exact Nat.le_refl _
   ·have:=Auc q hq;omega
  ·intro q hq q' Ft e;rcases List.mem_append.1 hq with hq|hq
   ·obtain⟨q0,U0,rfl⟩:=List.mem_map.1 hq;rcases List.mem_append.1 Ft with Ft|Ft
    ·obtain⟨q1,I8,rfl⟩:=List.mem_map.1 Ft;simp only[Prod.mk.injEq,true_and] at e;exact hqi q0 U0 q1 I8 e
    ·have:=Auc q' Ft;rw[←e] at this;simp only at this;omega
   ·have h5:=Auc q hq;rcases List.mem_append.1 Ft with Ft|Ft
    ·obtain⟨q1,I8,rfl⟩:=List.mem_map.1 Ft;rw[e] at h5;simp only at h5;omega
    ·exact A8i q hq q' Ft e
  ·intro k p' Ll hL;cases k with
   |zero=>
    simp only[List.getElem?_cons_zero,Option.some.injEq] at Ll;subst Ll;obtain⟨h1,h2⟩:=ET hL;exact⟨List.mem_append.2 (.inl (List.mem_map.2 ⟨_,h1,rfl⟩)),h2⟩
   |succ k=>
    obtain⟨h1,h2⟩:=A5h k p' (by simpa using Ll) hL
    rw[show i+1+k=i+(k+1) by omega] at h1 h2
    exact⟨List.mem_append.2 (.inr h1),h2⟩
  ·intro id bx hm;rcases List.mem_append.1 hm with hm|hm
   ·obtain⟨h1,h2⟩:=Lj id bx hm;exact⟨h1,fun c hc=>⟨0,p,rfl,(h2 c hc).2,(h2 c hc).1⟩⟩
   ·obtain⟨h1,h2⟩:=A6x id bx hm;refine⟨h1,fun c hc=>?_⟩
    obtain⟨k,p',h3,h4,h5⟩:=h2 c hc;exact⟨k+1,p',by simpa using h3,h4,by rw[h5,show i+1+k=i+(k+1) by omega]⟩
  ·intro j id Bm;unfold lk at Bm;cases hbq:Nat.beq j i<;>rw[hbq] at Bm
   ·obtain⟨bx,h1⟩:=hr' j id Bm;exact⟨bx,List.mem_append.2 (.inr h1)⟩
   ·obtain⟨bx,h1⟩:=hr id Bm;exact⟨bx,List.mem_append.2 (.inl h1)⟩
  ·intro id cells hm c hc k hk;rcases List.mem_append.1 hm with hm|hm
   ·obtain⟨bx,h1⟩:=XX id cells hm c hc k hk;exact⟨bx,List.mem_append.2 (.inl h1)⟩
   ·obtain⟨bx,h1⟩:=Bbd id cells hm c hc k hk;exact⟨bx,List.mem_append.2 (.inr h1)⟩
  ·cases us with
   |nil=>exact hp.elim
   |cons u us=>
    obtain⟨h1,h2,h3⟩:=hv w A (bt i) β' u (fun q hq=>hβ _ (List.mem_append.2 (.inl (List.mem_map_of_mem hq)))) hp.1
    obtain⟨PB,h2',h3'⟩:=N2 w A bt β' us (fun q hq=>hβ q (List.mem_append.2 (.inr hq))) hp.2
    refine⟨fun j=>?_,fun id bx hm=>?_,fun id bx b o hm PD j hj=>?_⟩
    ·unfold lk;cases hbq:Nat.beq j i
     ·have E2:=Mg hbq;simp only[cond_false];rcases PB j with⟨u',h4,h5,h6⟩|⟨h4,h5⟩
      ·refine .inl ⟨u',by omega,?_,h6⟩
       rw[show j-i=(j-(i+1))+1 by omega]
       simpa using h5
      ·refine .inr ⟨h4,fun hij=>?_⟩
       rw[show j-i=(j-(i+1))+1 by omega]
       simpa using h5 (by omega)
     ·have:=Nat.eq_of_beq_eq_true hbq;subst this;exact .inl ⟨u,Nat.le_refl _,by simp,h1⟩
    ·rcases List.mem_append.1 hm with hm|hm
     ·exact h2 id bx hm
     ·exact h2' id bx hm
    ·rcases List.mem_append.1 hm with hm|hm
     ·exact⟨0,p,rfl,h3 id bx b o hm PD j hj⟩
     ·obtain⟨k,p',h4,h5⟩:=h3' id bx b o hm PD j hj;exact⟨k+1,p',by simpa using h4,by rw[show i+(k+1)=i+1+k by omega];exact h5⟩
def ZS (bt:Zn)(args:List PV)(h8:∀k p,args[k]?=some p->Zp p=true->k<8):H0:=
 ⟨BtX bt,ES bt args,fun i=>∃p,args[i]?=some p∧Zp p=true,fun i=>bt i 0,fun i ⟨p,h1,h2⟩=>h8 i p h1 h2⟩
theorem Afq {ts:List TypeId}{args:List PV}{us:List Value}{bt:Zn}{K:List (Nat × PV)->List (Nat × Bs)->Option R} (O7:Ins w Y bt args us)(hk:Ah1 P N 0 ts args K=some r):
  ∃tms bs,K tms bs=some r∧(Bw (fun _=>none) bs=true->us.length<=N->∃(h8:∀k p,args[k]?=some p->Zp p=true->k<8),∃β0,
   Cw N w (ZS bt args h8) Y β0 ⟨lk tms,Iw bs⟩ { tmps:=us.toArray++Array.replicate (N-us.toArray.size) undef,defers:=[] } w):=by
 obtain⟨tms,bs,qs,Ea,hb,U0,hqi,ET,Lj,hr,XX,hv⟩:=VO hk;refine⟨tms,bs,Ea,fun Pc hN=>?_⟩
 have Aab:=Rn Pc
 have h8:∀k p,args[k]?=some p->Zp p=true->k<8:=fun k p h1 h2=>by
  have:=(ET k p h1 h2).2;omega
 have IV:(qs.map (·.1)).Nodup:=by rw[←hb];exact Aab
 obtain⟨β0,hβ0⟩:∃β0:Bt,∀q∈qs,β0 q.1=bt q.2.1 q.2.2:=by
  have:∀(l:List (Nat × Nat × Nat)),(l.map (·.1)).Nodup->∃β0:Bt,∀q∈l,β0 q.1=bt q.2.1 q.2.2:=by
   intro l
   induction l with
   |nil=>intro _;exact⟨fun _=>none,by simp⟩
   |cons q l ih=>
    intro hn;simp only[List.map_cons,List.nodup_cons] at hn;obtain⟨b1,h1⟩:=ih hn.2;refine⟨Cs b1 q.1 (bt q.2.1 q.2.2),fun q' Ft=>?_⟩
    rcases List.mem_cons.1 Ft with rfl|Ft
    ·exact An _ _ _
    ·have E2:q'.1≠q.1:=fun e=>hn.1 (by rw[←e];exact List.mem_map.2 ⟨q',Ft,rfl⟩)
     rw[Ak _ _ E2];exact h1 q' Ft
  exact this qs IV
 refine⟨h8,β0,?_⟩;obtain⟨hs,RD,hL⟩:=hv w _ bt β0 us hβ0 O7.args
 have hqm:∀id bx,(id,bx)∈bs->∃ik,(id,ik)∈qs∧β0 id=bt ik.1 ik.2:=by
  intro id bx hm;have:id∈qs.map (·.1):=by rw[←hb];exact List.mem_map.2 ⟨_,hm,rfl⟩
  obtain⟨q,hq,rfl⟩:=List.mem_map.1 this;exact⟨q.2,hq,hβ0 q hq⟩
 have hX:∀b,NZ (Iw bs) β0 b->BtX bt b:=by
  rintro b ⟨id,o,hl,hβ⟩
  cases hq:Iw bs id with
  |none=>rw[hq] at hl;exact hl.elim
  |some bx=>
   obtain⟨ik,_,h2⟩:=hqm id bx (Md hq);rw[h2] at hβ;exact⟨_,_,_,hβ⟩
 have hA:∀b,Db (Iw bs) β0 Y b->BtX bt b∨Y b:=fun b hb=>hb.imp (hX b) id
 have Ap8:∀{p:PV} {u:Value},El w (fun b=>BtX bt b∨Y b) β0 p u->El w (Db (Iw bs) β0 Y) β0 p u:=fun h=>h.step (Cc.refl _ _) (fun b _=>hA b) (fun _ _=>rfl)
 refine⟨rfl,by simp;omega,fun i hi=>?_,fun i hi=>?_,?_,?_,?_,fun i hi id Bm=>?_,?_,fun b hb=>.inl (hX b hb),?_,?_,?_,fun b hY hXb=>O7.Yx b hY (hX b hXb),O7.Ylt,⟨rfl,rfl,rfl,Cc.refl _ _,fun _ _ _ _=>⟨rfl,rfl⟩⟩⟩
 ·rcases hs i with⟨u,_,h,_⟩|⟨h,_⟩
  ·rw[Nat.sub_zero,List.getElem?_eq_none (by omega)] at h;cases h
  ·exact h
 ·rcases hs i with⟨u,_,h,hv⟩|⟨h,h'⟩
  ·rw[Nat.sub_zero] at h
   have Cb:i<us.length:=by
    rcases Nat.lt_or_ge i us.length with h'|h'
    ·exact h'
    ·rw[List.getElem?_eq_none h'] at h;cases h
   have:(us.toArray++Array.replicate (N-us.toArray.size) undef).getD i undef=u:=by
    rw[Array.getD_eq_getD_getElem?,Array.getElem?_append_left (by simpa using Cb)]
    simp[h]
   show El w _ _ _ ((us.toArray++Array.replicate (N-us.toArray.size) undef).getD i undef);rw[this];exact Ap8 hv
  ·show El w _ _ (lk tms i) _;rw[h];exact Ay.top _
 ·intro id bx hq;exact (RD id bx (Md hq)).step' hA
 ·intro id id' b o o' hl Ke hβ hβ';cases hq:Iw bs id with
  |none=>change Dd (Iw bs id) at hl;rw[hq] at hl;exact hl.elim
  |some bx=>
   cases Ft:Iw bs id' with
   |none=>change Dd (Iw bs id') at Ke;rw[Ft] at Ke;exact Ke.elim
   |some bx'=>
    obtain⟨ik,h1,h2⟩:=hqm id bx (Md hq);obtain⟨ik',PB,h2'⟩:=hqm id' bx' (Md Ft);rw[h2] at hβ;rw[h2'] at hβ';obtain⟨h3,h4⟩:=O7.inj _ _ _ _ b o o' hβ hβ';exact hqi _ h1 _ PB (Prod.ext h3 h4)
 ·intro id b o hn hβ;cases hq:Iw bs id with
  |none=>exact absurd hq hn
  |some bx=>
   obtain⟨ik,h1,h2⟩:=hqm id bx (Md hq);rw[h2] at hβ;exact O7.lt b ⟨_,_,_,hβ⟩
 ·obtain⟨bx,hm⟩:=hr i id Bm;show Iw bs id≠none;rw[QF Aab hm];simp
 ·intro id cells hq c hc k hk;obtain⟨bx,hm⟩:=XX id cells (Md hq) c hc k hk;show Iw bs k≠none;rw[QF Aab hm];simp
 ·intro id bx b o hq hl hβ _ j hj;obtain⟨k,p,h1,h2⟩:=hL id bx b o (Md hq) hβ j hj;rw[Nat.zero_add] at h2;exact⟨k,p,h1,h2⟩
 ·rintro i ⟨p,h1,h2⟩
  have h3:=(ET i p h1 h2).1;rw[Nat.zero_add] at h3;refine⟨?_,hβ0 _ h3⟩;have:Do N i∈bs.map (·.1):=by rw[hb];exact List.mem_map.2 ⟨_,h3,rfl⟩
  obtain⟨⟨id,bx⟩,hm,e⟩:=List.mem_map.1 this;show Iw bs (Do N i)≠none;rw[←e,QF Aab hm];simp
 ·intro id c b o hq _ _;obtain⟨k,p,h1,h2,h3⟩:=(Lj id _ (Md hq)).2 c rfl;rw[Nat.zero_add] at h3;exact⟨k,h3,p,h1,h2⟩
end
open Go.RowKit
def K4 (β:Bt)(l:List (Option Nat)) (j:Nat):Option (Nat × Nat):=((l[j]?).bind id).bind β
section
variable {R:Type} {r:R} {P:Program} {N:Nat} {w0:World} {X0:H0} {Y:Nat->Prop} {β β':Bt} {s:St} {a:Act} {w w':World} {A:Nat->Prop}
def Ai3 (s:St)(l:List (Option Nat)):Prop:=∀id,some id∈l->Dd (s.hp id)
def Lw (s:St)(z:List Nat):Prop:=∀id∈z,∃f c,s.hp id=some (.ar f c)
theorem KR (h : Cw N w0 X0 Y β s a w) {shr : Bool} {t : CT} {p : PV} {K : PV -> List Nat -> List Nat -> Option R} (hk : Acr shr s.hp t p K = some r) :
    ∃ c q z, K c (Option.toList q) z = some r ∧ (∀ x, c ≠ .agg x ∧ c ≠ .pbox x) ∧ JM p ∧ (∀ id, q = some id -> ∃ c, s.hp id = some (.ar false c)) ∧ Lw s z ∧
      ∀ (fz : List Nat) A u, (∀ i ∈ z, i ∈ fz) -> Lw s fz -> (∀ b, A b -> Db (Ag s.hp fz) β Y b) -> B2 w (Db s.hp β Y) β p u -> Gd w A (q.bind β) c u := by
  have notree : ∀ {c : PV}, Vr c -> ∀ x, c ≠ .agg x ∧ c ≠ .pbox x := fun hT x => ⟨Ym hT x, by rintro rfl; exact hT⟩
  unfold Acr at hk
  cases shr <;> simp only[cond_true, cond_false] at hk
  · have tree : ∀ t', (∀ es, t' ≠ .sl es) -> (BG t' p fun c => K c [] []) = some r -> ∃ c q z, K c (Option.toList q) z = some r ∧ (∀ x, c ≠ .agg x ∧ c ≠ .pbox x) ∧ JM p ∧ (∀ id, q = some id -> ∃ c, s.hp id = some (.ar false c)) ∧ Lw s z ∧
        ∀ (fz : List Nat) A u, (∀ i ∈ z, i ∈ fz) -> Lw s fz -> (∀ b, A b -> Db (Ag s.hp fz) β Y b) -> B2 w (Db s.hp β Y) β p u -> Gd w A (q.bind β) c u := by
      intro t' E2 hk
      obtain⟨c, Ea, hT, GL, hv⟩ := Mp hk
      refine⟨c, none, [], Ea, notree hT, Rl GL, by simp, (by intro i hi; cases hi), fun fz A u _ _ hA hc => Kh hT ?_⟩
      exact (hv w _ β u hc).1.step (Cc.refl _ _) (fun b _ hb => M4 (hA b hb))
    unfold Asc at hk
    cases t with
    | sl es =>
      dsimp only at hk
      split at hk
      · rename_i id es' off n
        cases hb : (Nat.beq es' es && Nat.beq off 0) <;> rw[hb] at hk
        · cases hk
        · simp only[Bool.and_eq_true] at hb
          have he := Nat.eq_of_beq_eq_true hb.1
          have ho := Nat.eq_of_beq_eq_true hb.2
          subst he ho
          simp only[cond_true] at hk
          split at hk
          · rename_i c h0
            obtain⟨hl, Ea⟩ := Al hk
            refine⟨_, some id, [], Ea, by simp, trivial, fun i hi => by cases hi; exact⟨c, h0⟩, (by intro i hi; cases hi), fun fz A u _ _ hA hc => ?_⟩
            rcases hc with⟨h1, _, rfl, h4⟩ | ⟨b, o, x, cap, h1, h2, hx, h3, h4, h5⟩
            · exact .inl ⟨h1, rfl, by simp, h4⟩
            · have hx : x = o := by rcases hx with e | ⟨_, e⟩ <;> omega
              subst hx
              rcases h.box id _ h0 with⟨h6, _⟩ | ⟨b', o', h6, h7, h8, _⟩
              · rw[h1] at h6; cases h6
              · rw[h1] at h6
                cases h6
                refine .inr ⟨b, x, cap, h1, h2, h3, h4, h5, fun j q hq => ?_, fun j hj Sd => h8 rfl j hj Sd⟩
                rw[List.getElem?_take] at hq
                split at hq
                · obtain⟨v, hv, h9, ht⟩ := h7 j q hq
                  exact⟨v, hv, h9, ht.step (Cc.refl _ _) (fun b _ hb => M4 (hA b hb))⟩
                · cases hq
          · cases hk
      · obtain⟨z, n, c, Ea, hp⟩ := Fk hk
        obtain⟨hz, Ep⟩ := Al Ea
        subst hz
        have hpF : JM p := by rcases hp with e | ⟨e, _⟩ <;> (rw[e]; trivial)
        refine⟨_, none, [], Ep, by simp, hpF, by simp, (by intro i hi; cases hi), fun fz A u _ _ _ hc => ?_⟩
        have hu : u = .slice none 0 0 := by
          rcases hp with rfl | ⟨rfl, _⟩
          · cases hc; rfl
          · exact Ay.val hc
        exact .inl ⟨rfl, rfl, rfl, none, hu⟩
    | int k => exact tree _ (by simp) hk
    | bool => exact tree _ (by simp) hk
    | str => exact tree _ (by simp) hk
    | any => exact tree _ (by simp) hk
  · obtain⟨c, m, Ea, hT, hF, hm, hv⟩ := IH h hk
    exact⟨c, none, m, Ea, notree hT, hF, by simp, hm, fun fz A u h1 h2 hA hc => Kh hT ((hv fz h1 h2 u hc).1.step (Cc.refl _ _) (fun b _ hb => hA b hb))⟩
structure DR (s:St) (β:Bt) (Y:Nat->Prop) (w:World) (cs:List PV) (l:List (Option Nat)) (z:List Nat) (ps:List PV):Prop where
 len:l.length=cs.length
 pl:cs.length=ps.length
 na:∀c∈cs,∀x,c ≠ .agg x∧c ≠ .pbox x
 fr:∀p∈ps,JM p
 own:∀id,some id∈l->∃c,s.hp id=some (.ar false c)
 row:Lw s z
 sem:∀(fz:List Nat) A us,(∀i∈z,i∈fz)->Lw s fz->(∀b,A b->Db (Ag s.hp fz) β Y b)->Bh (B2 w (Db s.hp β Y) β) ps us->∀own j0,(∀j,j<l.length->own (j0+j)=K4 β l j)->Ex w A own j0 cs us
theorem DR.nil:DR s β Y w [] [] [] []:=⟨rfl,rfl,by simp,by simp,by simp,(by intro i hi;cases hi),fun fz A us _ _ _ hu own j0 _=>by
 cases us with
 |nil=>trivial
 |cons u us=>exact hu.elim⟩
theorem DR.cons {c p:PV}{q:Option Nat}{z zs:List Nat}{cs ps:List PV}{l:List (Option Nat)} (Zw:∀x,c ≠ .agg x∧c ≠ .pbox x)(hF:JM p)(hq:∀id,q=some id->∃c,s.hp id=some (.ar false c)) (hz:Lw s z)
  (hv:∀(fz:List Nat) A u,(∀i∈z,i∈fz)->Lw s fz->(∀b,A b->Db (Ag s.hp fz) β Y b)->B2 w (Db s.hp β Y) β p u->Gd w A (q.bind β) c u) (H:DR s β Y w cs l zs ps):DR s β Y w (c::cs) (q::l) (z++zs) (p::ps):=by
 refine⟨by simp[H.len],by simp[H.pl],?_,?_,?_,?_,fun fz A us XA Nn hA hu own j0 Ga=>?_⟩
 ·intro x hx;rcases List.mem_cons.1 hx with rfl|hx
  ·exact Zw
  ·exact H.na x hx
 ·intro x hx;rcases List.mem_cons.1 hx with rfl|hx
  ·exact hF
  ·exact H.fr x hx
 ·intro id Bm;rcases List.mem_cons.1 Bm with e|Bm
  ·exact hq id e.symm
  ·exact H.own id Bm
 ·intro i hi;rcases List.mem_append.1 hi with hi|hi
  ·exact hz i hi
  ·exact H.row i hi
 ·cases us with
  |nil=>exact hu.elim
  |cons u us=>
   have h0:=Ga 0 (by simp)
   rw[Nat.add_zero] at h0;refine⟨?_,H.sem fz A us (fun i hi=>XA i (by simp[hi])) Nn hA hu.2 own (j0+1) fun j hj=>?_⟩
   ·rw[h0];exact hv fz A u (fun i hi=>XA i (by simp[hi])) Nn hA hu.1
   ·have:=Ga (j+1) (by simp;omega)
    rw[show j0+1+j=j0+(j+1) by omega,this]
    simp[K4]
theorem Q8 (h:Cw N w0 X0 Y β s a w){shr:Bool}:∀{ts:List CT}{ps:List PV}{K:List PV->List Nat->List Nat->Option R},AD shr s.hp ts ps K=some r ->
  ∃cs l z,K cs (l.filterMap id) z=some r∧DR s β Y w cs l z ps
 |[],[],K,hk=>⟨[],[],[],hk,DR.nil⟩
 |[],_::_,K,hk=>by cases hk
 |_::_,[],K,hk=>by cases hk
 |t::ts,p::ps,K,hk=>by
  unfold AD at hk;obtain⟨c,q,z,Ea,Zw,hF,hq,hz,hv⟩:=KR h hk;obtain⟨cs,l,zs,Ep,H⟩:=Q8 h Ea;refine⟨c::cs,q::l,z++zs,?_,DR.cons Zw hF hq hz hv H⟩;cases q<;>exact Ep
theorem CL (h:Cw N w0 X0 Y β s a w):∀{ts:List CT}{ws ps:List PV}{K:List PV->List Nat->List Nat->Option R},EH s.hp ts ws ps K=some r ->
  ∃cs l z,K cs (l.filterMap id) z=some r∧cs.length=ws.length∧DR s β Y w cs l z ps
 |[],[],[],K,hk=>⟨[],[],[],hk,rfl,DR.nil⟩
 |[],_::_,_,K,hk=>by cases hk
 |[],[],_::_,K,hk=>by cases hk
 |_::_,[],_,K,hk=>by cases hk
 |_::_,_::_,[],K,hk=>by cases hk
 |t::ts,x::ws,p::ps,K,hk=>by
  unfold EH at hk;obtain⟨c,q,z,Ea,Zw,hF,hq,hz,hv⟩:=KR h hk;obtain⟨cs,l,zs,Ep,hl,H⟩:=CL h Ea;refine⟨c::cs,q::l,z++zs,?_,by simp[hl],DR.cons Zw hF hq hz hv H⟩
  cases q<;>exact Ep
theorem Aah {own:Bt}{zz j:Nat}{p:PV}{u:Value}(hp:∀x,p ≠ .agg x∧p ≠ .pbox x)(h:Ex w A own j [p] [u]):Aot w A own zz j p u:=by
 cases p<;>first|exact h.1|exact absurd rfl (hp _).1|exact absurd rfl (hp _).2
theorem Abk (h:Cw N w0 X0 Y β s a w){id b o:Nat}{c cs:List PV}{l:List (Option Nat)} {z:List Nat}(h0:s.hp id=some (.st c)) (hβ:β id=some (b,o)) (H:DR s β Y w cs l z c){fz:List Nat}{A:Nat->Prop}(h1:∀i∈z,i∈fz)(h2:Lw s fz)(hA:∀b,A b->Db (Ag s.hp fz) β Y b)
  {own:Bt} {j0:Nat} (Ga:∀j,j<l.length->own (j0+j)=K4 β l j):Aio w A own j0 b o cs:=by
 obtain⟨b',o',E7,H8,Wg⟩:=h.box id _ h0;rw[hβ] at E7;cases E7;refine⟨c.mapIdx (fun j _=>(w.cell? ⟨b,o+j,none⟩).getD undef),H.sem fz A _ h1 h2 hA ?_ own j0 Ga,?_,fun k hk=>Wg k (by have:=H.pl;omega)⟩
 ·refine Bh.of_at (by simp) fun j p v hp hv=>?_
  obtain⟨u,hu,NB⟩:=H8 j p hp;rw[List.getElem?_mapIdx,hp,Option.map_some,hu] at hv;simp at hv;subst hv;exact NB
 ·intro k v hkv;rw[List.getElem?_mapIdx] at hkv;cases hp:c[k]? with
  |none=>rw[hp] at hkv;cases hkv
  |some p=>
   obtain⟨u,hu,NB⟩:=H8 k p hp;rw[hp,Option.map_some,hu] at hkv;simp at hkv;subst hkv;exact hu
theorem Adl (h:Cw N w0 X0 Y β s a w){shr:Bool}{t:TypeId}{p:PV}{u:Value}(hp:El w (Db s.hp β Y) β p u) {K:PV->List Nat->List Nat->Option R}(hk:Alh P shr s.hp t p K=some r):
  ∃v l z,K v (l.filterMap id) z=some r∧l.length=plc v∧Ai3 s l∧Lw s z ∧
   ∀(fz:List Nat) A zz,(∀i∈z,i∈fz)->Lw s fz->(∀b,A b->Db (Ag s.hp fz) β Y b)->(∀id c b o,some id∈l->s.hp id=some (.st c)->β id=some (b,o)->zz<=b) ->
    ∀own j0,(∀j,j<l.length->own (j0+j)=K4 β l j)->Aot w A own zz j0 v u:=by
 unfold Alh at hk;split at hk
 ·rename_i e he;split at hk
  ·rename_i id off;split at hk
   ·rename_i c h0;obtain⟨hof,Ea⟩:=Al hk;have hof:=Nat.eq_of_beq_eq_true hof;subst hof;obtain⟨cs,l,z,Ep,H⟩:=Q8 h Ea;obtain⟨b,o,hβ,hu⟩:=hp;refine⟨.pbox cs,some id::l,z,Ep,by simp only[plc,List.length_cons,H.len];omega,?_,H.row,fun fz A zz h1 h2 hA hz own j0 Ga=>?_⟩
    ·intro i hi;rcases List.mem_cons.1 hi with e|hi
     ·cases e;rw[h0];trivial
     ·obtain⟨c',Q6⟩:=H.own i hi;rw[Q6];trivial
    ·have h3:=Ga 0 (by simp)
     rw[Nat.add_zero] at h3;refine⟨b,o,by rw[h3];exact hβ,hz id c b o (by simp) h0 hβ,by rw[hu,Nat.add_zero],Abk h h0 hβ H h1 h2 hA fun j hj=>?_⟩
     have:=Ga (j+1) (by simp;omega)
     rw[show j0+1+j=j0+(j+1) by omega,this]
     simp[K4]
   ·cases hk
  ·cases hk
 ·cases F0:B9 P t<;>rw[F0] at hk<;>simp only[cond_true,cond_false] at hk
  ·obtain⟨cs,l,z,Ea,H⟩:=Q8 h hk;obtain⟨c,cs',EN,Ep⟩:=Bb Ea;subst EN;obtain⟨BH,Lk⟩:=Dr Ep;subst BH;have Zw:=H.na c (by simp)
   have IZ:plc c=1:=by cases c<;>first|rfl|exact absurd rfl (Zw _).1|exact absurd rfl (Zw _).2
   have hF:=H.fr p (by simp)
   refine⟨c,l,z,Lk,by rw[IZ];exact H.len,fun i hi=>?_,H.row,fun fz A zz h1 h2 hA _ own j0 Ga=>Aah Zw (H.sem fz A [u] h1 h2 hA ⟨?_,trivial⟩ own j0 Ga)⟩
   ·obtain⟨c',Q6⟩:=H.own i hi;rw[Q6];trivial
   ·cases p<;>first|exact hp|exact hF.elim
  ·obtain⟨ps,DC,Ea⟩:=G2 hk;subst DC;obtain⟨cs,l,z,Ep,H⟩:=Q8 h Ea;obtain⟨vs,hu,Rz⟩:=hp;refine⟨.agg cs,l,z,Ep,H.len,fun i hi=>?_,H.row,fun fz A zz h1 h2 hA _ own j0 Ga=>⟨vs,hu,H.sem fz A vs h1 h2 hA Rz own j0 Ga⟩⟩
   obtain⟨c',Q6⟩:=H.own i hi;rw[Q6];trivial
def NC (P:Program)(tmps:Array Value)(w:World)(rv:ResultVar)(u:Value):Prop:=
  (match rv with
   |.tmp t=>(pure (tmps.getD t undef):Sem Value)
   |.cell a t=>do loadVar t (←asAddr (tmps.getD a undef))).run P w=.ok u w
theorem Ahb (h:Cw N w0 X0 Y β s a w)(t:Nat):El w (Db s.hp β Y) β (s.tm t) (a.tmps.getD t undef):=by
 rcases Nat.lt_or_ge t N with h'|h'
 ·exact h.tms t h'
 ·rw[h.tmo t h'];exact Ay.top _
theorem Agk (h:Cw N w0 X0 Y β s a w){rv:ResultVar}{K:PV->Option R}(hk:Ah6 P s rv K=some r):∃p u,K p=some r∧NC P a.tmps w rv u∧El w (Db s.hp β Y) β p u:=by
 unfold Ah6 at hk;split at hk
 ·rename_i t;exact⟨_,_,hk,rfl,Ahb h t⟩
 ·rename_i x t;obtain⟨v,ad,val,Ea,De,hl,hv,_⟩:=SB h (Ahb h x) hk;refine⟨v,val,Ea,?_,hv⟩;unfold NC;simp[De,asAddr,hl]
theorem Wu {l l':List (Option Nat)} {j:Nat}(h:j<l.length):K4 β (l++l') j=K4 β l j:=by
 unfold K4;rw[List.getElem?_append_left h]
theorem Vx {l l':List (Option Nat)} {j:Nat}:K4 β (l++l') (l.length+j)=K4 β l' j:=by
 unfold K4;rw[List.getElem?_append_right (by omega),Nat.add_sub_cancel_left]
theorem FL (h:Cw N w0 X0 Y β s a w){shr:Bool}:∀{rs:List ResultVar}{ts:List TypeId}{K:List PV->List Nat->List Nat->Option R},NM P shr s rs ts K=some r ->
  ∃vs l z us,K vs (l.filterMap id) z=some r∧Bh (NC P a.tmps w) rs us∧l.length=Ls vs∧Ai3 s l∧Lw s z ∧
   ∀(fz:List Nat) A zz,(∀i∈z,i∈fz)->Lw s fz->(∀b,A b->Db (Ag s.hp fz) β Y b)->(∀id c b o,some id∈l->s.hp id=some (.st c)->β id=some (b,o)->zz<=b) ->
    ∀own j0,(∀j,j<l.length->own (j0+j)=K4 β l j)->LH w A own zz j0 vs us
 |[],[],K,hk=>⟨[],[],[],[],hk,trivial,rfl,(by intro id Bm;cases Bm),(by intro id Bm;cases Bm),fun _ _ _ _ _ _ _ _ _ _=>trivial⟩
 |[],_::_,K,hk=>by cases hk
 |_::_,[],K,hk=>by cases hk
 |rv::rs,t::ts,K,hk=>by
  unfold NM at hk;obtain⟨p,u,Ea,hu,hp⟩:=Agk h hk;obtain⟨v,l,z,Ep,hl,hL,hz,hv⟩:=Adl h hp Ea;obtain⟨vs,l',z',us,Lk,hus,Ke,hL',hz',Rz⟩:=FL h Ep;refine⟨v::vs,l++l',z++z',u::us,?_,⟨hu,hus⟩,by simp only[List.length_append,Ls,List.map_cons,List.sum_cons,hl];rw[Ke];rfl,?_,?_,fun fz A zz h1 h2 hA F8 own j0 Ga=>⟨?_,?_⟩⟩
  ·rw[List.filterMap_append];exact Lk
  ·intro id Bm;rcases List.mem_append.1 Bm with Bm|Bm
   ·exact hL id Bm
   ·exact hL' id Bm
  ·intro id Bm;rcases List.mem_append.1 Bm with Bm|Bm
   ·exact hz id Bm
   ·exact hz' id Bm
  ·exact hv fz A zz (fun i hi=>h1 i (by simp[hi])) h2 hA (fun id c b o hi=>F8 id c b o (by simp[hi])) own j0 fun j hj=>by rw[Ga j (by simp;omega),Wu hj]
  ·refine Rz fz A zz (fun i hi=>h1 i (by simp[hi])) h2 hA (fun id c b o hi=>F8 id c b o (by simp[hi])) own (j0+plc v) fun j hj=>?_
   rw[←hl,Nat.add_assoc,Ga (l.length+j) (by simp;omega),Vx]
theorem Q7 (h:Cw N w0 X0 Y β s a w){bt:Zn}(hpt:∀i,X0.pt i=bt i 0):∀{ts:List TypeId}{i:Nat}{ps:List PV}{K:List (List PV)->List Nat->List Nat->List Nat->Option R},Zs P N s.hp i ts ps K=some r ->
  (∀k p,ps[k]?=some p->Zp p=true->X0.pn (i+k)) ->
  ∃os l z q,K os (l.filterMap id) z q=some r∧(∀id,some id∈l->∃c,s.hp id=some (.ar false c))∧Lw s z∧(∀id∈q,Dd (s.hp id))∧(∀k p,ps[k]?=some p->Zp p=true->Do N (i+k)∈q) ∧
   ∀(fz:List Nat) A,(∀i∈z,i∈fz)->Lw s fz->(∀i∈q,i ∉ fz)->(∀b,A b->Db (Ag s.hp fz) β Y b) ->
    ∀own j0,(∀j,j<l.length->own (j0+j)=K4 β l j)->Vk w A own bt j0 i ps os
 |[],i,ps,K,hk,_=>by
  obtain⟨DC,hk⟩:=Dr hk;subst DC;exact⟨[],[],[],[],hk,by simp,(by intro id Bm;cases Bm),by simp,by simp,fun _ _ _ _ _ _ _ _ _=>rfl⟩
 |t::ts,i,ps,K,hk,hpn=>by
  unfold Zs at hk;obtain⟨p,ps',DC,Ea⟩:=Bb hk;subst DC
  have Aty:∀k p,ps'[k]?=some p->Zp p=true->X0.pn (i+1+k):=fun k p' h1 h2=>by
   have:=hpn (k+1) p' (by simpa using h1) h2
   rw[show i+1+k=i+(k+1) by omega]
   exact this
  have hpq:∀{q:List Nat},(Zp p=true->Do N i∈q)->(∀k p,ps'[k]?=some p->Zp p=true->Do N (i+1+k)∈q)->∀k p',(p::ps')[k]?=some p'->Zp p'=true->Do N (i+k)∈q:=by
   intro q h1 h2 k p' h3 h4;cases k with
   |zero=>
    simp only[List.getElem?_cons_zero,Option.some.injEq] at h3;subst h3;exact h1 h4
   |succ k=>
    have:=h2 k p' (by simpa using h3) h4
    rw[show i+1+k=i+(k+1) by omega] at this
    exact this
  split at Ea
  ·rename_i ws;obtain⟨e,he,Ep⟩:=Ce Ea;split at Ep
   ·rename_i c h0;obtain⟨cs,l,z,Lk,I7,H⟩:=CL h Ep;obtain⟨os,l',z',q,Uj,hL',hz',Ft,hpi,hv⟩:=Q7 h hpt Lk Aty;refine⟨cs::os,l++l',z++z',Do N i::q,by rw[List.filterMap_append];exact Uj,?_,?_,?_,hpq (fun _=>List.mem_cons_self) (fun k p h1 h2=>List.mem_cons_of_mem _ (hpi k p h1 h2)),fun fz A h1 h2 h3 hA own j0 Ga=>?_⟩
    ·intro id Bm;rcases List.mem_append.1 Bm with Bm|Bm
     ·exact H.own id Bm
     ·exact hL' id Bm
    ·intro id Bm;rcases List.mem_append.1 Bm with Bm|Bm
     ·exact H.row id Bm
     ·exact hz' id Bm
    ·intro id Bm;rcases List.mem_cons.1 Bm with rfl|Bm
     ·rw[h0];trivial
     ·exact Ft id Bm
    ·have ET:=(h.pin i (by have:=hpn 0 _ rfl rfl;rwa [Nat.add_zero] at this)).2
     obtain⟨b,o,E7,_,_⟩:=h.box _ _ h0;rw[E7,hpt] at ET;refine⟨⟨b,o,ET.symm,I7,Abk h h0 E7 H (fun i hi=>h1 i (by simp[hi])) h2 hA fun j hj=>by rw[Ga j (by simp;omega),Wu hj]⟩,?_⟩
     refine hv fz A (fun i hi=>h1 i (by simp[hi])) h2 (fun i hi=>h3 i (by simp[hi])) hA own (j0+cs.length) fun j hj=>?_
     rw[←H.len,Nat.add_assoc,Ga (l.length+j) (by simp;omega),Vx]
   ·cases Ep
  ·split at Ea
   ·rename_i c h0;obtain⟨os,l',z',q,Uj,hL',hz',Ft,hpi,hv⟩:=Q7 h hpt Ea Aty;refine⟨c::os,l',z',Do N i::q,Uj,hL',hz',?_,hpq (fun _=>List.mem_cons_self) (fun k p h1 h2=>List.mem_cons_of_mem _ (hpi k p h1 h2)),fun fz A h1 h2 h3 hA own j0 Ga=>⟨?_,hv fz A h1 h2 (fun i hi=>h3 i (by simp[hi])) hA own j0 Ga⟩⟩
    ·intro id Bm;rcases List.mem_cons.1 Bm with rfl|Bm
     ·rw[h0];trivial
     ·exact Ft id Bm
    ·have ET:=(h.pin i (by have:=hpn 0 _ rfl rfl;rwa [Nat.add_zero] at this)).2
     rw[hpt] at ET;rcases h.box _ _ h0 with⟨h4,h5⟩|⟨b,o,h4,h5,h6,_⟩
     ·exact .inl ⟨by rw[←ET];exact h4,h5⟩
     ·exact .inr ⟨b,o,by rw[←ET];exact h4,h5.weak (fun b _ hb=>M4 (hA b hb)),h6 rfl⟩
   ·cases Ea
  ·rename_i UH hn2;have hnL:Zp p=false:=by cases p<;>first|rfl|exact absurd rfl (UH _)|exact absurd rfl (hn2 _)
   obtain⟨os,l',z',q,Uj,hL',hz',Ft,hpi,hv⟩:=Q7 h hpt Ea Aty;refine⟨os,l',z',q,Uj,hL',hz',Ft,hpq (fun e=>by rw[hnL] at e;cases e) hpi,fun fz A h1 h2 h3 hA own j0 Ga=>?_⟩
   have:=hv fz A h1 h2 h3 hA own j0 Ga;cases p<;>first|exact this|cases hnL
theorem RY {f:ResultVar->Sem Value}:∀{rs:List ResultVar}{us:List Value},Bh (fun rv u=>(f rv).run P w=.ok u w) rs us->(rs.mapM f).run P w=.ok us w
 |[],[],_=>by simp
 |[],_::_,h=>h.elim
 |_::_,[],h=>h.elim
 |rv::rs,u::us,h=>by
  rw[List.mapM_cons];simp[h.1,RY h.2]
theorem SC {fn:Func}{us:List Value}(h:Bh (NC P a.tmps w) fn.results.toList us):(results fn a.tmps).run P w=.ok (H1 us) w:=by
 unfold results;rw[Array.mapM_eq_mapM_toList];simp only[map_eq_pure_bind,bind_assoc,pure_bind,Sem.run_bind];refine Eq.trans (congrArg (fun x=>Result.andThen x _) (RY h)) ?_
 simp only[Result.andThen_ok,Sem.run_pure]
 congr 1
 clear h
 match us with
 |[]=>rfl
 |[u]=>rfl
 |u::v::us=>exact dif_neg (by simp)
theorem VP:∀{l:List (Option Nat)},D9 (l.filterMap id)=true->∀{j j' i:Nat},l[j]?=some (some i)->l[j']?=some (some i)->j=j'
 |[],_,j,j',i,h,_=>by simp at h
 |q::l,hn,j,j',i,h,h'=>by
  have hn':D9 (l.filterMap id)=true:=by
   cases q with
   |none=>exact hn
   |some x=>
    simp only[List.filterMap_cons,id_eq,D9,Bool.and_eq_true] at hn;exact hn.2
  have hq:∀(x k:Nat),q=some x->l[k]?≠some (some x):=by
   intro x k e hk;subst e;simp only[List.filterMap_cons,id_eq,D9,Bool.and_eq_true,Bool.not_eq_true'] at hn;exact Rb hn.1 (List.mem_filterMap.2 ⟨some x,List.mem_of_getElem? hk,rfl⟩)
  cases j with
  |zero=>
   cases j' with
   |zero=>rfl
   |succ k'=>
    simp at h h';exact absurd h' (hq i k' h)
  |succ k=>
   cases j' with
   |zero=>
    simp at h h';exact absurd h (hq i k h')
   |succ k'=>
    simp at h h';rw[VP hn' h h']
theorem MN {C:G1}{f:FuncId}{fn:Func}{args:List PV}{res:Ap}{w:World}{Y:Nat->Prop}{bt:Zn}{us:List Value}(O7:Ins w Y bt args us){h8:∀k p,args[k]?=some p->Zp p=true->k<8}
  {s':St} {a':Act} {w':World} {β':Bt} (hr:Aed C P f fn args s'=some res) (h:Cw fn.ntmps w (ZS bt args h8) Y β' s' a' w'):
  a'.defers=[]∧∃v,(results fn a'.tmps).run P w'=.ok v w'∧∃vs own,Ending.returned v=.returned (H1 vs)∧Out w w' Y bt args own res vs:=by
 unfold Aed at hr;obtain⟨vs,l,z,us',IQ,hus,hll,hL,hz,hv⟩:=FL h hr;obtain⟨os,l',z',q,MM,hL',hz',hq,hpi,N2⟩:=Q7 h (bt:=bt) (fun _=>rfl) IQ (fun k p h1 h2=>by rw[Nat.zero_add];exact⟨p,h1,h2⟩)
 obtain⟨hnd,hr3⟩:=Al MM;cases hr3;simp only[Bool.and_eq_true] at hnd;obtain⟨hnd,Aun⟩:=hnd;obtain⟨UH,hn2,hn3⟩:=Ii hnd
 have AB:∀i∈z++z',i ∉ (l.filterMap id++l'.filterMap id)++q:=by
  intro i hi J1;have:=List.all_eq_true.1 Aun i hi;have h2:((l.filterMap id++l'.filterMap id)++q).any (Nat.beq i)=true:=List.any_eq_true.2 ⟨i,J1,Nat.beq_refl i⟩;rw[h2] at this;cases this
 have Ae9:Lw s' (z++z'):=by
  intro i hi;rcases List.mem_append.1 hi with hi|hi
  ·exact hz i hi
  ·exact hz' i hi
 refine⟨h.dfr,H1 us',SC hus,us',K4 β' (l++l'),rfl,?_⟩;have Bad:D9 ((l++l').filterMap id)=true:=by rw[List.filterMap_append];exact UH
 have Ga:∀j b o,K4 β' (l++l') j=some (b,o)->∃id,(l++l')[j]?=some (some id)∧β' id=some (b,o):=by
  intro j b o hj;unfold K4 at hj;cases hlj:(l++l')[j]? with
  |none=>rw[hlj] at hj;cases hj
  |some q=>
   cases q with
   |none=>rw[hlj] at hj;cases hj
   |some id=>
    rw[hlj] at hj;exact⟨id,rfl,hj⟩
 have Jc:∀(j i:Nat),(l++l')[j]?=some (some i)->i∈l.filterMap id++l'.filterMap id:=by
  intro j i hj;rw[←List.filterMap_append];exact List.mem_filterMap.2 ⟨some i,List.mem_of_getElem? hj,rfl⟩
 have Gj:∀(j i:Nat),(l++l')[j]?=some (some i)->Dd (s'.hp i):=by
  intro j i hj;rcases List.mem_append.1 (List.mem_of_getElem? hj) with J1|J1
  ·exact hL i J1
  ·obtain⟨c,hc⟩:=hL' i J1;rw[hc];trivial
 have Asz:∀i,i∈(l.filterMap id++l'.filterMap id)++q->Ag s'.hp (z++z') i=s'.hp i:=by
  intro i hi;rw[B0,if_neg (fun J1=>AB i J1 hi)]
 have Ask:∀i b o,bt i 0=some (b,o)->Do fn.ntmps i∈q∧Dd (s'.hp (Do fn.ntmps i))∧β' (Do fn.ntmps i)=some (b,o):=by
  intro i b o JS;obtain⟨p,h1,h2⟩:=O7.l0 i _ JS;have h3:=hpi i p h1 h2;rw[Nat.zero_add] at h3;exact⟨h3,hq _ h3,(h.pin i ⟨p,h1,h2⟩).2.trans JS⟩
 have hAO:∀b,GQ bt (K4 β' (l++l')) Y b->Db (Ag s'.hp (z++z')) β' Y b:=by
  rintro b (⟨j,o,hj⟩|⟨i,o,JS⟩|hY)
  ·obtain⟨id,h1,h2⟩:=Ga j b o hj;refine .inl ⟨id,o,?_,h2⟩;rw[Asz id (List.mem_append.2 (.inl (Jc j id h1)))];exact Gj j id h1
  ·obtain⟨h1,h2,h3⟩:=Ask i b o JS;refine .inl ⟨_,o,?_,h3⟩;rw[Asz _ (List.mem_append.2 (.inr h1))];exact h2
  ·exact .inr hY
 have Wc:∀(j id b o:Nat),(l++l')[j]?=some (some id)->β' id=some (b,o)->b<w.heap.size->∃i k o',bt i (k+1)=some (b,o'):=by
  intro j id b o hj hβ Cb;rcases h.ownd b ⟨id,o,Gj j id hj,hβ⟩ with⟨i,k,o',JS⟩|hge
  ·cases k with
   |zero=>
    obtain⟨h1,h2,h3⟩:=Ask i b o' JS;have:=h.inj id _ b o o' (Gj j id hj) h2 hβ h3;subst this;exact absurd h1 (hn3 _ (Jc j _ hj))
   |succ k=>exact⟨i,k,o',JS⟩
  ·omega
 refine⟨h.fr.os,h.fr.tape,h.fr.output,h.fr.step,h.fr.rng,?_,?_,?_,?_⟩
 ·refine hv (z++z') _ _ (fun i hi=>List.mem_append.2 (.inl hi)) Ae9 hAO (fun id c b o hi hc hβ=>?_) _ 0 (fun j hj=>by rw[Nat.zero_add,Wu hj])
  rcases Nat.lt_or_ge b w.heap.size with Cb|hge
  ·obtain⟨k,Ll,p,h1,h2⟩:=h.stp id c b o hc hβ Cb;have h3:=hpi k p h1 h2;rw[Nat.zero_add,←Ll] at h3;obtain⟨j,hj⟩:=List.mem_iff_getElem?.1 hi;refine absurd h3 (hn3 id ?_);exact List.mem_append.2 (.inl (List.mem_filterMap.2 ⟨some id,hi,rfl⟩))
  ·exact hge
 ·refine N2 (z++z') _ (fun i hi=>List.mem_append.2 (.inr hi)) Ae9 (fun i hi J1=>AB i J1 (List.mem_append.2 (.inr hi))) hAO _ _ (fun j hj=>?_)
  rw[←hll,Vx]
 ·intro j b o hj;obtain⟨id,h1,h2⟩:=Ga j b o hj;refine⟨h.blt id b o (Cz (Gj j id h1)) h2,fun Cb=>⟨Wc j id b o h1 h2 Cb,fun x hx=>?_⟩⟩
  cases Lj:s'.hp id with
  |none=>have:=Gj j id h1;rw[Lj] at this;exact this.elim
  |some bx=>
   have GT:=Gj j id h1;rw[Lj] at GT;cases bx with
   |st c=>
    obtain⟨k,Ll,p,h3,h4⟩:=h.stp id c b o Lj h2 Cb;have h5:=hpi k p h3 h4;rw[Nat.zero_add,←Ll] at h5;exact absurd h5 (hn3 _ (Jc j _ h1))
   |ar fz c=>exact h.rngB id _ b o Lj GT h2 Cb x hx
   |mv=>exact GT.elim
 ·intro j j' b o o' hj Sd;obtain⟨id,h1,h2⟩:=Ga j b o hj;obtain⟨id',PB,h2'⟩:=Ga j' b o' Sd;have:=h.inj id id' b o o' (Gj j id h1) (Gj j' id' PB) h2 h2';subst this;exact VP Bad h1 PB
theorem YV {G:Xg}(Ko:NoNG P)(hm:P.follows .mixedOrders=true){C:G1}{fu:Nat}{call:Am}(Dz:∀f args res,call f args=some res->Dh G P f args res){f:FuncId}{fn:Func}{c:Code}(hf:P.funcs[f]?=some fn) (hb:fn.body=some c)
  {args:List PV} {res:Ap} (hk:Avh C P fu call f fn c args=some res):Dh G P f args res:=by
 refine⟨⟨fn,hf,by rw[hb];rfl⟩,fun w Y bt us O7 hG hGY=>?_⟩
 unfold Avh at hk;obtain⟨tms,bs,Ea,F8⟩:=Afq O7 hk;obtain⟨E7,Ep⟩:=Al Ea;simp only[Bool.and_eq_true] at E7
 have C6:us.length<=fn.ntmps:=by
  rw[←O7.args.len];exact Nat.le_of_ble_eq_true E7.1
 obtain⟨h8,β0,hs⟩:=F8 E7.2 C6;refine calls_of_wp hf hb ?_;have hE:RV P G w (ZS bt args h8):=⟨Ko,fun w' hfr=>G.stable w w' (fun b hb Cb=>hfr.step.keep b Cb (hGY b hb).2) hG,hGY⟩
 refine YX hE Dz hm c hs Ep (fun s' a' w' β' hr h=>MN O7 hr h) (fun id s' a' w' β' hr h=>by cases hr) (fun s' a' w' β' hr h=>MN O7 hr h)
def KF (G:Xg)(P:Program)(C:G1):Prop:=∀f g args res,C.ext f=some g->g args=some res->Dh G P f args res
theorem Iy {G:Xg}(Ko:NoNG P)(hm:P.follows .mixedOrders=true){C:G1}(hx:KF G P C){fu:Nat}:∀(d:Nat)(f:FuncId)(args:List PV)(res:Ap),Ae C P fu d f args=some res->Dh G P f args res
 |0,_,_,_,h=>by cases h
 |d+1,f,args,res,h=>by
  unfold Ae at h;split at h
  ·rename_i g hg;exact hx f g args res hg h
  ·split at h
   ·cases h
   ·rename_i fn hf;split at h
    ·cases h
    ·rename_i c hb;exact YV Ko hm (Iy Ko hm hx d) hf hb h
end
open Go.ChangeShapes Go.WideShapes Go.ChangeAt Go.RowKit Go.Deep
def NS (P:Program):List Field->Nat->Nat->Bool
 |[],i,n=>Nat.beq i n
 |f::r,i,n=>Nat.beq f.offset i&&NS P r (i+P.cellsOf f.type) n
def Mk (P:Program):Nat->TypeId->Bool
 |0,_=>false
 |d+1,t=>
  match P.underlying t with
  |some .bool=>true
  |some (.int _)=>true
  |some .string=>true
  |some (.slice e)=>Mk P d e&&Nat.blt 0 (P.cellsOf e)
  |some (.struct fs)=>NS P fs.toList 0 (P.cellsOf t)&&fs.toList.all fun f=>Mk P d f.type
  |some (.array n e)=>Nat.beq (P.cellsOf t) (n*P.cellsOf e)&&Mk P d e
  |_=>false
def WT (P:Program):Nat->TypeId->List PV->Prop
 |0,_,_=>False
 |d+1,t,ps=>
  match P.underlying t with
  |some .bool=>∃b,ps=[.sc (.bool b)]
  |some (.int k)=>∃n,ps=[.sc (.int k n)]∧(Lit.int k n).wf=true
  |some .string=>∃s:ByteArray,ps=[.sc (.string s)]∧s.size<=maxLen
  |some (.slice e)=>∃rows:List (List PV),ps=[.lst false (P.cellsOf e) rows.length rows.flatten]∧rows.length<=maxLen∧∀r∈rows,r.length=P.cellsOf e∧WT P d e r
  |some (.struct fs)=>∃rows:List (List PV),ps=rows.flatten∧Bh (fun f r=>WT P d f.type r) fs.toList rows
  |some (.array n e)=>∃rows:List (List PV),ps=rows.flatten∧rows.length=n∧∀r∈rows,r.length=P.cellsOf e∧WT P d e r
  |_=>False
def WTv (P:Program)(t:TypeId)(p:PV):Prop:=
 match B9 P t with
 |true=>∃ps,p=.agg ps∧WT P 12 t ps
 |false=>WT P 12 t [p]
section
variable {P:Program} {d:Nat} {t e:TypeId} {ps:List PV}
theorem Aq4 (hu:P.underlying t=some .bool):WT P (d+1) t ps↔∃b,ps=[.sc (.bool b)]:=by
 show (match P.underlying t with|some .bool=>_|some (.int k)=>_|some .string=>_|some (.slice e)=>_|some (.struct fs)=>_|some (.array n e)=>_|_=>_)↔_
 rw[hu]
theorem Aiu {k:IntKind}(hu:P.underlying t=some (.int k)):WT P (d+1) t ps↔∃n,ps=[.sc (.int k n)]∧(Lit.int k n).wf=true:=by
 show (match P.underlying t with|some .bool=>_|some (.int k)=>_|some .string=>_|some (.slice e)=>_|some (.struct fs)=>_|some (.array n e)=>_|_=>_)↔_
 rw[hu]
theorem Ado (hu:P.underlying t=some .string):WT P (d+1) t ps↔∃s:ByteArray,ps=[.sc (.string s)]∧s.size<=maxLen:=by
 show (match P.underlying t with|some .bool=>_|some (.int k)=>_|some .string=>_|some (.slice e)=>_|some (.struct fs)=>_|some (.array n e)=>_|_=>_)↔_
 rw[hu]
theorem TH (hu:P.underlying t=some (.slice e)):WT P (d+1) t ps↔∃rows:List (List PV),ps=[.lst false (P.cellsOf e) rows.length rows.flatten]∧rows.length<=maxLen∧∀r∈rows,r.length=P.cellsOf e∧WT P d e r:=by
 show (match P.underlying t with|some .bool=>_|some (.int k)=>_|some .string=>_|some (.slice e)=>_|some (.struct fs)=>_|some (.array n e)=>_|_=>_)↔_
 rw[hu]
theorem Agn {fs:Array Field}(hu:P.underlying t=some (.struct fs)):WT P (d+1) t ps↔∃rows:List (List PV),ps=rows.flatten∧Bh (fun f r=>WT P d f.type r) fs.toList rows:=by
 show (match P.underlying t with|some .bool=>_|some (.int k)=>_|some .string=>_|some (.slice e)=>_|some (.struct fs)=>_|some (.array n e)=>_|_=>_)↔_
 rw[hu]
theorem Ak0 {n:Nat}(hu:P.underlying t=some (.array n e)):WT P (d+1) t ps↔∃rows:List (List PV),ps=rows.flatten∧rows.length=n∧∀r∈rows,r.length=P.cellsOf e∧WT P d e r:=by
 show (match P.underlying t with|some .bool=>_|some (.int k)=>_|some .string=>_|some (.slice e)=>_|some (.struct fs)=>_|some (.array n e)=>_|_=>_)↔_
 rw[hu]
end
inductive Ki where
 |bool
 |int (k:IntKind)
 |str
 |sl (e:TypeId)
 |st (ts:List TypeId)
 |ar (n:Nat) (e:TypeId)
 |no
def Te (P:Program)(t:TypeId):Ki:=
 match P.underlying t with
 |some .bool=>.bool
 |some (.int k)=>.int k
 |some .string=>.str
 |some (.slice e)=>.sl e
 |some (.struct fs)=>.st (fs.toList.map (·.type))
 |some (.array n e)=>.ar n e
 |_=>.no
section
variable {P:Program} {d:Nat} {t e:TypeId} {ps:List PV} {p:PV}
theorem Bh.cons_inv {α β:Type}{R:α->β->Prop}{a:α}{zs:List α}:∀{rs:List β},Bh R (a::zs) rs->∃r rs',rs=r::rs'∧R a r∧Bh R zs rs'
 |[],h=>h.elim
 |r::rs,h=>⟨r,rs,rfl,h.1,h.2⟩
theorem Bh.nil_inv {α β:Type}{R:α->β->Prop}:∀{rs:List β},Bh R ([]:List α) rs->rs=[]
 |[],_=>rfl
 |_::_,h=>h.elim
theorem Ax3 {k:IntKind}(hk:Te P t=.int k)(h:WT P d t ps):∃n,ps=[.sc (.int k n)]∧(Lit.int k n).wf=true:=by
 cases d with
 |zero=>exact h.elim
 |succ d=>
 unfold Te at hk;split at hk<;>first|cases hk|skip
 rename_i hu;exact (Aiu hu).1 h
theorem A5b (hk:Te P t=.sl e)(h:WT P d t ps):∃rows:List (List PV),ps=[.lst false (P.cellsOf e) rows.length rows.flatten]∧rows.length<=maxLen∧∀r∈rows,r.length=P.cellsOf e∧WT P (d-1) e r:=by
 cases d with
 |zero=>exact h.elim
 |succ d=>
 rw[Nat.add_sub_cancel];unfold Te at hk;split at hk<;>first|cases hk|skip
 rename_i hu;exact (TH hu).1 h
theorem Aqr (hk:B9 P t=false)(h:WTv P t p):WT P 12 t [p]:=by
 unfold WTv at h;rw[hk] at h;exact h
theorem BQ {α:Type}(f:α->List PV)(Q:α->Prop):∀{rows:List (List PV)},(∀r∈rows,∃x,r=f x∧Q x)->∃xs:List α,rows.flatten=xs.flatMap f∧rows.length=xs.length∧∀x∈xs,Q x
 |[],_=>⟨[],rfl,rfl,by simp⟩
 |r::rows,h=>by
  obtain⟨x,h1,h2⟩:=h r (by simp)
  obtain⟨xs,h3,h4,h5⟩:=BQ (rows:=rows) f Q fun r hr=>h r (by simp[hr])
  refine⟨x::xs,by simp[h1,h3],by simp[h4],fun y hy=>?_⟩
  rcases List.mem_cons.1 hy with rfl|hy
  ·exact h2
  ·exact h5 y hy
end
abbrev No:Nat->Prop:=fun _=>False
section
variable {H:Type} {enc:TypeId × Value->H} {P:Program} {w:World} {base:Nat} {held:Bool}
theorem Bh.flat {α β:Type}{R:α->β->Prop}:∀{l:List Nat}{f:Nat->List α}{g:Nat->List β},(∀i∈l,Bh R (f i) (g i))->Bh R (l.map f).flatten (l.map g).flatten
 |[],_,_,_=>trivial
 |i::l,f,g,h=>by
  simp only[List.map_cons,List.flatten_cons];exact (h i (by simp)).app (Bh.flat fun j hj=>h j (by simp[hj]))
theorem Afk {a:Addr}{v:Value}(h:w.cell? a=some v):a.spot=none∧a.block<w.heap.size:=by
 unfold World.cell? at h;split at h
 ·rename_i c t f e;refine⟨?_,?_⟩
  ·cases hs:a.spot with
   |none=>rfl
   |some x=>rw[hs] at h;simp at h
  ·rcases Nat.lt_or_ge a.block w.heap.size with h1|h1
   ·exact h1
   ·rw[Array.getElem?_eq_none h1] at e;cases e
 ·cases h
theorem IK {α:Type}{g:Nat->List α}{es:Nat}:∀{n:Nat},(∀i,i<n->(g i).length=es)->((List.range n).map g).flatten.length=n*es
 |0,_=>by simp
 |n+1,h=>by
  rw[List.range_succ,List.map_append,List.flatten_append,List.length_append,IK (fun i hi=>h i (by omega))]
  simp[h n (by omega),Nat.succ_mul]
theorem HX {a:Addr}{g:Nat->List Value}{es:Nat}:∀{n:Nat},(∀i,i<n->(g i).length=es)->(∀i,i<n->∀k,k<es->w.cell? (a.add (i*es+k))=(g i)[k]?) ->
  ∀j,j<n*es->w.cell? (a.add j)=(((List.range n).map g).flatten)[j]?
 |0,_,_,j,hj=>by omega
 |n+1,hl,hc,j,hj=>by
  have EE:=IK (fun i (hi:i<n)=>hl i (by omega))
  rw[List.range_succ,List.map_append,List.flatten_append,List.getElem?_append,EE];rw[Nat.succ_mul] at hj;split
  ·rename_i h1;exact HX (fun i hi=>hl i (by omega)) (fun i hi=>hc i (by omega)) j h1
  ·rename_i h1;have:=hc n (by omega) (j-n*es) (by omega)
   rw[show n*es+(j-n*es)=j by omega] at this
   simpa using this
abbrev TR (w:World)(c:PV)(v:Value):Prop:=(Vr c∧Ay w No c v)∧v.oneCell'=true
theorem CN {d:Nat}{cs:List Value}{n:Nat}(hn:cs.length=n):∀(l:List Field)(i:Nat),NS P l i n=true ->
  (∀f∈l,∃ps,WT P d f.type ps∧Bh (TR w) ps ((cs.drop f.offset).take (P.cellsOf f.type)))->∃rows:List (List PV),Bh (fun f r=>WT P d f.type r) l rows∧Bh (TR w) rows.flatten (cs.drop i)
 |[],i,ho,_=>by
  have:=Nat.eq_of_beq_eq_true ho;refine⟨[],trivial,?_⟩;rw[List.drop_of_length_le (by omega)]
  trivial
 |f::l,i,ho,h=>by
  simp only[NS,Bool.and_eq_true] at ho;have ho1:=Nat.eq_of_beq_eq_true ho.1;obtain⟨ps,h1,h2⟩:=h f (by simp)
  obtain⟨rows,h3,h4⟩:=CN hn l _ ho.2 fun g hg=>h g (by simp[hg])
  refine⟨ps::rows,⟨h1,h3⟩,?_⟩;rw[ho1] at h2;have:cs.drop i=(cs.drop i).take (P.cellsOf f.type)++cs.drop (i+P.cellsOf f.type):=by rw[←List.drop_drop];exact (List.take_append_drop _ _).symm
  rw[this,List.flatten_cons];exact h2.app h4
theorem GO {d:Nat}{e:TypeId}{cs:List Value}{k:Nat}:∀(n:Nat),n*k<=cs.length ->
  (∀i,i<n->∃ps,(ps.length=k∧WT P d e ps)∧Bh (TR w) ps ((cs.drop (i*k)).take k))->∃rows:List (List PV),rows.length=n∧(∀r∈rows,r.length=k∧WT P d e r)∧Bh (TR w) rows.flatten (cs.take (n*k))
 |0,_,_=>⟨[],rfl,by simp,by simp[Bh]⟩
 |n+1,hl,h=>by
  rw[Nat.succ_mul] at hl;obtain⟨rows,h1,h2,h3⟩:=GO n (by omega) fun i hi=>h i (by omega)
  obtain⟨ps,h4,h5⟩:=h n (by omega)
  refine⟨rows++[ps],by simp[h1],?_,?_⟩
  ·intro r hr;rcases List.mem_append.1 hr with hr|hr
   ·exact h2 r hr
   ·rw[List.mem_singleton.1 hr];exact h4
  ·rw[List.flatten_append,Nat.succ_mul,List.take_add];refine h3.app ?_
   simpa using h5
theorem Tz:∀(d:Nat)(t:TypeId),Mk P d t=true->∀(fuel:Nat)(cs:List Value)(x:DataW H × List MemPlace),DataW.trod enc P w base (fun _=>true) held fuel t cs=some x ->
  ∃ps,WT P d t ps∧Bh (TR w) ps cs
 |0,_,h,_,_,_,_=>by cases h
 |d+1,t,hp,fuel,cs,x,h=>by
  unfold Mk at hp;split at hp
  ·rename_i hu;obtain⟨b,rfl,_⟩:=DataW.trod_bool hu h;simp only[Aq4 hu];exact⟨[.sc (.bool b)],⟨b,rfl⟩,⟨⟨trivial,Ay.sc _⟩,rfl⟩,trivial⟩
  ·rename_i k hu;obtain⟨n,rfl,_,hw⟩:=DataW.trod_int hu h;simp only[Aiu hu];exact⟨[.sc (.int k n)],⟨n,rfl,hw⟩,⟨⟨trivial,Ay.sc _⟩,rfl⟩,trivial⟩
  ·rename_i hu;obtain⟨s,rfl,_,hw⟩:=DataW.trod_string hu h;simp only[Ado hu];exact⟨[.sc (.string s)],⟨s,rfl,hw⟩,⟨⟨trivial,Ay.sc _⟩,rfl⟩,trivial⟩
  ·rename_i e hu;simp only[Bool.and_eq_true] at hp;have Vf:0<P.cellsOf e:=Nat.lt_of_succ_le (Nat.le_of_ble_eq_true hp.2);simp only[TH hu];rcases open_slice hu h with⟨rfl,_⟩|⟨a,len,cap,m,n,D,Pl,rfl,_,hl,hm,WW,_,hi⟩
   ·exact⟨[.lst false (P.cellsOf e) 0 []],⟨[],by simp,by simp,by simp⟩,⟨⟨trivial,Ay.lnil _ _⟩,rfl⟩,trivial⟩
   ·simp only[if_true] at WW;subst WW
    have WZ:∀i,i<len->∃q:List PV × List Value,(q.2.length=P.cellsOf e∧(∀k,k<P.cellsOf e->w.cell? (a.add (i*P.cellsOf e+k))=q.2[k]?))∧WT P d e q.1∧Bh (TR w) q.1 q.2:=by
     intro i Cb;obtain⟨cs',hc,ht⟩:=hi i (by omega)
     obtain⟨_,I7,hat⟩:=World.cells?_some hc;obtain⟨ps,h1,h2⟩:=Tz d e hp.1 _ _ _ ht;exact⟨(ps,cs'),⟨I7,fun k hk=>by rw[←Pv.add_add];exact hat k hk⟩,h1,h2⟩
    obtain⟨F,hF⟩:=choose_lt WZ;refine⟨[.lst false (P.cellsOf e) len ((List.range len).map fun i=>(F i).1).flatten],⟨(List.range len).map fun i=>(F i).1,by simp,by simp;omega,?_⟩,⟨⟨trivial,?_⟩,rfl⟩,trivial⟩
    ·intro r hr;obtain⟨i,hi1,rfl⟩:=List.mem_map.1 hr;have hi2:=List.mem_range.1 hi1;exact⟨by rw[(hF i hi2).2.2.len];exact (hF i hi2).1.1,(hF i hi2).2.1⟩
    ·rcases Nat.eq_zero_or_pos len with h0|h0
     ·subst h0;exact Ay.lemp _ _ _
     ·have N3:Bh (TR w) ((List.range len).map fun i=>(F i).1).flatten ((List.range len).map fun i=>(F i).2).flatten:=Bh.flat fun i hi=>(hF i (List.mem_range.1 hi)).2.2
      have C3:=HX (w:=w) (a:=a) (g:=fun i=>(F i).2) (fun i hi=>(hF i hi).1.1) (fun i hi=>(hF i hi).1.2)
      have C6:=IK (g:=fun i=>(F i).2) (fun i (hi:i<len)=>(hF i hi).1.1)
      have h00:w.cell? a≠none:=by
       have:=C3 0 (Nat.mul_pos h0 Vf);rw[show a.add 0=a by unfold Addr.add;simp] at this
       rw[this,List.getElem?_eq_getElem (by rw[C6];exact Nat.mul_pos h0 Vf)]
       simp
      obtain⟨v0,hv0⟩:=Option.ne_none_iff_exists'.1 h00;obtain⟨hs,hb⟩:=Afk hv0
      have key:∀j c,(((List.range len).map fun i=>(F i).1).flatten)[j]?=some c->∃v,w.cell? (a.add j)=some v∧TR w c v:=by
       intro j c hj
       have hlj:j<len*P.cellsOf e:=by
        rw[←C6,←N3.len];rcases Nat.lt_or_ge j (((List.range len).map fun i=>(F i).1).flatten).length with h1|h1
        ·exact h1
        ·rw[List.getElem?_eq_none h1] at hj;cases hj
       have h1:=C3 j hlj;rw[List.getElem?_eq_getElem (by rw[C6];exact hlj)] at h1
       exact⟨_,h1,N3.at_ hj (List.getElem?_eq_getElem (by rw[C6];exact hlj))⟩
      refine Ay.lst _ _ _ a _ (fun j=>(w.cell? (a.add j)).getD undef) hs hb (fun h=>h) hl (fun j c hj=>?_) (fun j c hj=>?_) (fun j c hj=>?_)
      ·obtain⟨v,hv,_⟩:=key j c hj;rw[hv];rfl
      ·obtain⟨v,hv,ht⟩:=key j c hj;rw[hv];exact ht.2
      ·obtain⟨v,hv,ht⟩:=key j c hj;rw[hv];exact ht.1.2
  ·rename_i fs hu;simp only[Bool.and_eq_true] at hp;simp only[Agn hu];obtain⟨xs,n,_,_,C6,IX,hf⟩:=DataW.trod_struct hu h
   obtain⟨rows,h1,h2⟩:=CN (P:=P) (w:=w) (d:=d) C6 fs.toList 0 hp.1 fun f hf'=>by
    obtain⟨i,hi⟩:=List.mem_iff_getElem?.1 hf';have WZ:fs[i]?=some f:=by simpa using hi
    have Cb:i<fs.size:=(Array.getElem?_eq_some_iff.1 WZ).1;have h3:=hf i f WZ;rw[List.getElem?_eq_getElem (by omega)] at h3
    exact Tz d f.type (List.all_eq_true.1 hp.2 f hf') _ _ _ h3
   exact⟨_,⟨rows,rfl,h1⟩,by simpa using h2⟩
  ·rename_i n e hu;simp only[Bool.and_eq_true] at hp;simp only[Ak0 hu];obtain⟨xs,m,_,_,C6,IX,hf⟩:=DataW.trod_array hu h;have My:=Nat.eq_of_beq_eq_true hp.1
   obtain⟨rows,h1,h2,h3⟩:=GO (P:=P) (w:=w) (d:=d) (e:=e) (cs:=cs) (k:=P.cellsOf e) n (by omega) fun i hi=>by
    have h3:=hf i hi;rw[List.getElem?_eq_getElem (by omega)] at h3
    obtain⟨ps,h4,h5⟩:=Tz d e hp.2 _ _ _ h3;refine⟨ps,⟨?_,h4⟩,h5⟩;rw[h5.len,List.length_take,List.length_drop,C6,My];have:(i+1)*P.cellsOf e<=n*P.cellsOf e:=Nat.mul_le_mul_right _ hi;rw[Nat.succ_mul] at this;omega
   refine⟨_,⟨rows,rfl,h1,h2⟩,?_⟩;rw[List.take_of_length_le (by omega)] at h3
   exact h3
  ·cases hp
theorem Ajp {r:Reach}{b0:Nat}{t:TypeId}{v:Value}{dd:DataW H}{p:List MemPlace}(hp:Mk P 12 t=true)(hv:Value.okWide P w r b0 t v)(h:DataW.Trod enc P w base (fun _=>true) held t v dd p):
  ∃q,WTv P t q∧Q0 w No q v:=by
 obtain⟨fuel,hf⟩:=h;obtain⟨ps,h1,h2⟩:=Tz 12 t hp fuel _ _ hf;unfold WTv B9
 have two:∀{cs:Array Value},v=.agg cs->∃q,(∃ps,q=.agg ps∧WT P 12 t ps)∧Q0 w No q v:=by
  intro cs e;subst e;exact⟨.agg ps,⟨ps,rfl,h1⟩,cs.toList,by simp,h2.mono fun c v h=>h.1⟩
 have one:v.cells.toList=[v]->∃q,WT P 12 t [q]∧Q0 w No q v:=by
  intro e;rw[e] at h2
  match ps,h2 with
  |[q],h2=>
   refine⟨q,h1,?_⟩;have h3:=h2.1.1;cases q<;>first|exact h3|exact h3.1.elim
  |[],h2=>exact h2.elim
  |_::_::_,h2=>exact h2.2.elim
 unfold Mk at hp;split at hp
 ·rename_i hu;simp only[hu];obtain⟨b,rfl,_⟩:=open_bool hu hv ⟨fuel,hf⟩;exact one rfl
 ·rename_i k hu;simp only[hu];obtain⟨b,rfl,_⟩:=open_int hu hv ⟨fuel,hf⟩;exact one rfl
 ·rename_i hu;simp only[hu];obtain⟨b,rfl,_⟩:=ChangeMaps.open_string hu hv ⟨fuel,hf⟩;exact one rfl
 ·rename_i e hu;simp only[hu];obtain⟨a,len,cap,rfl⟩:=okWide_slice hu hv;exact one rfl
 ·rename_i fs hu;simp only[hu];obtain⟨cs,rfl,_⟩:=okWide_struct hu hv;exact two rfl
 ·rename_i n e hu;simp only[hu];unfold Value.okWide at hv;simp only[hu] at hv;obtain⟨cs,rfl,_⟩:=hv;exact two rfl
 ·cases hp
theorem LD:∀{ts:List TypeId}{vs:List Value}{ds:List (DataW H)} {p:List MemPlace}{r:Reach}{b0:Nat},(ts.all fun t=>Mk P 12 t)=true->(∀(j:Nat) t v,ts[j]?=some t->vs[j]?=some v->Value.okWide P w r b0 t v) ->
  DataW.TrodAll enc P w base (fun _=>true) held ts vs ds p->∃qs,Bh (WTv P) ts qs∧Bh (Q0 w No) qs vs
 |[],[],[],_,_,_,_,_,_=>⟨[],trivial,trivial⟩
 |t::ts,v::vs,d::ds,_,r,b0,hp,hv,⟨p,q,h1,h2,_⟩=>by
  simp only[List.all_cons,Bool.and_eq_true] at hp;obtain⟨x,h3,h4⟩:=Ajp hp.1 (hv 0 t v rfl rfl) h1;obtain⟨xs,h5,h6⟩:=LD hp.2 (fun j t v ht N2=>hv (j+1) t v ht N2) h2
  exact⟨x::xs,⟨h3,h5⟩,h4,h6⟩
 |[],_::_,_,_,_,_,_,_,h=>by cases h
 |[],[],_::_,_,_,_,_,_,h=>by cases h
 |_::_,[],_,_,_,_,_,_,h=>by cases h
 |_::_,_::_,[],_,_,_,_,_,h=>by cases h
theorem Vq (hl:laidOutB P=true){W W':World}{sp:Nat->Bool}:∀{ts:List TypeId}{vs:List Value}{ds:List (DataW H)} {p:List MemPlace},(ts.all fun t=>P.readableRec t&&Nat.blt t P.types.size)=true ->
  DataW.TrodAll enc P W 0 (fun _=>true) true ts vs ds p->(∀x∈p,W.sameAt W' x)->(∀x∈p,sp x.block=true)->DataW.TrodAll enc P W' 0 sp true ts vs ds p
 |[],[],[],_,_,h,_,_=>h
 |t::ts,v::vs,d::ds,_,hr,⟨p,q,h1,h2,e⟩,hs,hsp=>by
  simp only[List.all_cons,Bool.and_eq_true] at hr;refine⟨p,q,WideElems.Trod_stays hl hr.1.1 (Nat.lt_of_succ_le (Nat.le_of_ble_eq_true hr.1.2)) h1 (fun x hx=>hs x ?_) (fun x hx=>hsp x ?_),Vq hl hr.2 h2 (fun x hx=>hs x ?_) (fun x hx=>hsp x ?_),e⟩
  all_goals rw[e,List.mem_append]
  ·exact .inl hx
  ·exact .inl hx
  ·exact .inr hx
  ·exact .inr hx
 |[],_::_,_,_,_,h,_,_=>by cases h
 |[],[],_::_,_,_,h,_,_=>by cases h
 |_::_,[],_,_,_,h,_,_=>by cases h
 |_::_,_::_,[],_,_,h,_,_=>by cases h
theorem JX {f:Func}{s:ChangeSpec}{apart fresh OY again:Bool}{W W':World}{args:Array Value}{v:Value}{ds gs:List (DataW H)} {before pa pv:List MemPlace}
  (hW:DataW.Whole enc P f.params.toList s.vars apart W args.toList ds gs before)
  (A4k:∀(b:Nat)(sp:Nat->Bool)(hd:Bool),DataW.TrodAll enc P W' b sp hd f.resultTypes.toList (v.resultList f.resultTypes.size) (s.fn H (ds++gs)).results [])
  (E3:∀sp:Nat->Bool,(∀p∈before,sp p.block=true)->DataW.TrodAll enc P W' 0 sp true f.params.toList args.toList (s.fn H (ds++gs)).args pa)
  (RU:∀sp:Nat->Bool,(∀p∈before,sp p.block=true)->DataW.TrodVars enc P W' sp s.vars (s.fn H (ds++gs)).vars pv)
  (DC:before=pa++pv)(hb:Below W.heap.size W W')
  (hok:∀(j:Nat)(t:TypeId)(r:Value),f.resultTypes[j]?=some t->(v.resultList f.resultTypes.size)[j]?=some r->Value.okWide P W' .any 0 t r):
  s.post enc P f apart fresh OY again W args v W':=by
 have Cb:∀p∈before,p.block<W.heap.size:=fun p hp=>hW.lt p hp
 have hold:∀p∈before,(fun b=>decide (b<W.heap.size)) p.block=true:=fun p hp=>by simpa using Cb p hp
 refine⟨ds,gs,before,[],pa,pv,hW,A4k _ _ _,E3 _ hold,RU _ hold,World.keptBut_mono (fun p hp=>⟨hp,?_⟩) (hb.frame (· ∈ before)),fun _=>?_⟩
 ·rw[DC,List.mem_append] at hp;exact Or.inr hp
 ·obtain⟨_,_,_,_,_,hz,hn⟩:=hW;refine⟨hok,_,_,([]++pa)++pv,⟨[]++pa,pv,trodAll_append (E3 _ (fun _ _=>rfl)) (A4k _ _ _),RU _ (fun _ _=>rfl),rfl,?_,?_⟩,?_⟩
  ·intro b off hp;have O7:MemPlace.cell b off∈before:=by rw[DC];simpa using hp
   rw[hb.frozen (Cb _ O7)];exact hz b off O7
  ·intro ha;have:=hn ha;rw[DC] at this
   simpa using this
  ·intro p hp _;rw[DC]
   simpa using hp
theorem law_contract {G:Xg}{C:G1}(hx:KF G P C)(Ko:NoNG P)(hm:P.follows .mixedOrders=true)(hl:laidOutB P=true){f:FuncId}{fn:Func}{s:ChangeSpec}{tb:TypeId}(hfn:P.funcs[f]?=some fn)
  (RU:s.vars=[]) (A5a:∀ds:List (DataW H),ds.length=fn.params.size->s.fn H ds={ results:=[.lit (.bool true)],args:=ds }) (Avz:(fn.params.toList.all fun t=>Mk P 12 t)=true)
  (A20:(fn.params.toList.all fun t=>P.readableRec t&&Nat.blt t P.types.size)=true) (hrt:fn.resultTypes = #[tb]) (hub:P.underlying tb=some .bool)
  {apart fresh OY again:Bool} (W:World) (base:Nat) (args:Array Value) (ds gs:List (DataW H)) (before:List MemPlace)
  (hval:∀(j:Nat) t v,fn.params[j]?=some t->args[j]?=some v->Value.okWide P W .any base t v)
  (hW:DataW.Whole enc P fn.params.toList s.vars apart W args.toList ds gs before)
  (A7f:∀qs:List PV,Bh (WTv P) fn.params.toList qs->∃fu d,Ae C P fu d f qs=some ⟨[.sc (.bool true)],[]⟩) (hG:G.ok W)(hGY:∀b,G.bl b->b<W.heap.size):
  Calls P f args W fun e W'=>∃v,e=.returned v∧s.post enc P fn apart fresh OY again W args v W':=by
 have hW':=hW;obtain⟨p,q,hA,hV,rfl,AB,hnd⟩:=hW;rw[RU] at hV;obtain⟨rfl,rfl⟩:=trodVars_none hV;obtain⟨qs,h1,h2⟩:=LD Avz (fun j t v ht hv=>hval j t v (by simpa using ht) (by simpa using hv)) hA
 obtain⟨fu,d,hc⟩:=A7f qs h1;have hS:=(Iy Ko hm hx d f qs _ hc).2 W No VZ args.toList (VY (fun b h=>h.elim) h2) hG (fun b hb=>⟨hGY b hb,Qe b⟩)
 rw[Array.toArray_toList] at hS;refine hS.mono fun e W' ⟨vs,own,he,ho⟩=>?_
 have hv:=ho.vals
 have Rz:vs=[.bool true]:=by
  match vs,hv with
  |[u],hv=>
   have:Ay W' _ (.sc (.bool true)) u:=hv.1;rw[this.val]
  |[],hv=>exact hv.elim
  |_::_::_,hv=>exact hv.2.elim
 subst Rz;subst he;have hb:Below W.heap.size W W':=⟨ho.os,ho.tape,ho.output,ho.ext.size,fun k hk=>ho.ext.keep k hk (Qe k)⟩
 have Cb:∀x∈p,x.block<W.heap.size:=fun x hx=>hW'.lt x (by simpa using hx)
 have C6:ds.length=fn.params.size:=by
  have:∀{ts:List TypeId} {vs:List Value} {ds:List (DataW H)} {p:List MemPlace},DataW.TrodAll enc P W 0 (fun _=>true) true ts vs ds p->ds.length=ts.length:=by
   intro ts
   induction ts with
   |nil=>intro vs ds p h;cases vs<;>cases ds<;>first|rfl|cases h
   |cons t ts ih=>
    intro vs ds p h;cases vs with
    |nil=>cases h
    |cons v vs=>
     cases ds with
     |nil=>cases h
     |cons d ds=>obtain⟨_,_,_,h2,_⟩:=h;simp[ih h2]
  simpa using this hA
 have hsp:=A5a (ds++[]) (by simpa using C6)
 refine⟨_,rfl,JX (pa:=p) (pv:=[]) hW' ?_ ?_ ?_ rfl hb ?_⟩
 ·intro b sp hd;rw[hsp,hrt];exact trodAll_mk1 (shut_bool hub _)
 ·intro sp Bbn;rw[hsp];simp only[List.append_nil];exact Vq hl A20 hA (fun x hx=>hb.same (Cb x hx)) (fun x hx=>Bbn x (by simpa using hx))
 ·intro sp _;rw[hsp,RU];rfl
 ·exact ok_one hrt rfl (okWide_bool_mk hub _)
end
end
section
open Go.Proofs.Tryz (prog)
set_option maxRecDepth 100000
theorem Aq7 {d:Nat}{ps:List PV}{k:IntKind}{t e:TypeId}(hk:Te prog t=.sl e)(hc:prog.cellsOf e=1)(he:Te prog e=.int k)(h:WT prog d t ps):
  ∃l:List Int,ps=[.lst false 1 l.length (Bl k l)]∧l.length<=maxLen∧∀n∈l,(Lit.int k n).wf=true:=by
 obtain⟨rows,rfl,hl,hr⟩:=A5b hk h;obtain⟨l,h1,h2,h3⟩:=BQ (Auf k) (fun n=>(Lit.int k n).wf=true) fun r hrr=>Ax3 he (hr r hrr).2
 refine⟨l,?_,by omega,h3⟩
 rw[h1,h2,hc]
theorem RP {p:PV}{k:IntKind}{t e:TypeId}(ha:B9 prog t=false)(hk:Te prog t=.sl e)(hc:prog.cellsOf e=1)(he:Te prog e=.int k)(h:WTv prog t p):
  ∃l:List Int,p=.lst false 1 l.length (Bl k l)∧l.length<=maxLen∧∀n∈l,(Lit.int k n).wf=true:=by
 have h':=Aqr (P:=prog) (t:=t) (p:=p) ha h;obtain⟨l,h1,h2,h3⟩:=Aq7 hk hc he h';exact⟨l,by injection h1,h2,h3⟩
end
section
open Go.IntKind (wrap)
theorem Dk:type_of% @Bool.not_true:=@Bool.not_true
theorem D6:type_of% @Bool.not_false:=@Bool.not_false
theorem EB:type_of% @Nat.mul_one:=@Nat.mul_one
theorem WS:type_of% @Nat.zero_add:=@Nat.zero_add
theorem Zze:type_of% @List.drop_zero.{0}:=@List.drop_zero
theorem QT:type_of% @List.take_of_length_le.{0}:=@List.take_of_length_le
theorem BZ:type_of% @List.length_append.{0}:=@List.length_append
theorem QY:type_of% @List.length_nil.{0}:=@List.length_nil
theorem Uk:type_of% @List.length_cons.{0}:=@List.length_cons
theorem Kj:type_of% @Int.toNat_natCast:=@Int.toNat_natCast
theorem Ct:type_of% @if_neg.{1}:=@if_neg
theorem Dy:type_of% @if_pos.{1}:=@if_pos
theorem Zzm:type_of% @Bool.true_and:=@Bool.true_and
theorem Zzp:type_of% @List.cons_append.{0}:=@List.cons_append
theorem OC:type_of% @Bool.false_and:=@Bool.false_and
theorem Zzv:type_of% @List.append_assoc.{0}:=@List.append_assoc
theorem Zzw:type_of% @List.map_cons.{0,0}:=@List.map_cons
end
section
open Go.Proofs.Tryz (prog)
open Go.IntKind (wrap)
set_option maxRecDepth 100000
abbrev Nd:FuncId:=114
theorem V1 {xs:FuncId->Option (List PV->Option Ap)} (fu d:Nat)(a0 a1:Int):Ae (CX xs) prog fu (d+1) Nd [.sc (.int .u64 a0),.sc (.int .u64 a1)]=(fun (call:Am)=>A2 (decide (0<=a1))<|Ac (Ka .u64 a0 a1) fun x1=>Ac (wrap .u64 (64-a1)) fun x2=>A2 (decide (0<=x2))<|Ac (Ut .u64 a0 x2) fun x3=>Ac (QM .u64 x1 x3) fun x4=>some (Ap.mk [.sc (.int .u64 x4)] [])) (Ae (CX xs) prog fu d):=by kernel_rfl
abbrev Lv:FuncId:=97
theorem Vb {xs:FuncId->Option (List PV->Option Ap)} (fu d:Nat)(Bg Bf:Int)(Oe Tp:Int):Ae (CX xs) prog fu (d+1) Lv [.agg [.sc (.int .u64 Bg),.sc (.int .u64 Bf),.sc (.int .u64 Oe),.sc (.int .u64 Tp)]]=(fun (call:Am)=>Ac (wrap .u64 (Bg+Bf)) fun x1=>Ah (call 114 [.sc (.int .u64 Bf),.sc (.int .u64 13)]) fun x2 x3=>Ad x3<|Aa x2 fun x4 x5=>Aj .u64 x4 fun x6=>Ad x5<|Ac (Gi .u64 x6 x1) fun x7=>Ah (call 114 [.sc (.int .u64 x1),.sc (.int .u64 32)]) fun x8 x9=>Ad x9<|Aa x8 fun E4 Is=>Aj .u64 E4 fun Iu=>Ad Is<|Ac (wrap .u64 (Oe+Tp)) fun Ey=>Ah (call 114 [.sc (.int .u64 Tp),.sc (.int .u64 16)]) fun Gt Ja=>Ad Ja<|Aa Gt fun Gs Hk=>Aj .u64 Gs fun I6=>Ad Hk<|Ac (Gi .u64 I6 Ey) fun H9=>Ac (wrap .u64 (Iu+H9)) fun I9=>Ah (call 114 [.sc (.int .u64 H9),.sc (.int .u64 21)]) fun I5 Jr=>Ad Jr<|Aa I5 fun I4 Hw=>Aj .u64 I4 fun Iz=>Ad Hw<|Ac (Gi .u64 Iz I9) fun Kr=>Ac (wrap .u64 (Ey+x7)) fun L1=>Ah (call 114 [.sc (.int .u64 x7),.sc (.int .u64 17)]) fun Ms L6=>Ad L6<|Aa Ms fun N4 N1=>Aj .u64 N4 fun Pf=>Ad N1<|Ac (Gi .u64 Pf L1) fun N6=>Ah (call 114 [.sc (.int .u64 L1),.sc (.int .u64 32)]) fun O4 Pq=>Ad Pq<|Aa O4 fun Pm Q2=>Aj .u64 Pm fun Qs=>Ad Q2<|some (Ap.mk [.agg [.sc (.int .u64 I9),.sc (.int .u64 N6),.sc (.int .u64 Qs),.sc (.int .u64 Kr)]] [])) (Ae (CX xs) prog fu d):=by kernel_rfl
abbrev Oo:FuncId:=74
noncomputable def E5 (fu:Nat)(call:Am)(a0 a1:Int)(OM:Nat)(a2:List PV)(nn y0:Nat)(y1:List PV)(y2:Int)(y3:List PV):Option Ap:=Fh CB prog fu call 74 Tryz.f74 (D2 Tryz.f74) [.sc (.int .u64 a0),.sc (.int .u64 a1),.lst false 1 OM a2] [.r,.r,.l,.r,.l] nn ⟨lk [(2,(.lst false 1 y0 y1)),(7,(.ptr 7 0)),(8,(.sc (.int .i64 y2)))],Iw [(7,(.ar false y3))]⟩
noncomputable def Ee (fu:Nat)(call:Am)(a0 a1:Int)(OM:Nat)(a2:List PV)(m0 nn y0:Nat)(y1:List PV)(y2 y3 y4:Int)(y5:List PV):Option Ap:=Fh CB prog fu call 74 Tryz.f74 (D2 Tryz.f74) [.sc (.int .u64 a0),.sc (.int .u64 a1),.lst false 1 OM a2] [.r,.r,.l,.r,.l,.i m0,.r,.l,.l,.r,.l,.r,.l] nn ⟨lk [(2,(.lst false 1 y0 y1)),(7,(.ptr 7 0)),(8,(.sc (.int .i64 y2))),(9,(.sc (.int .u64 y3))),(10,(.sc (.int .i64 y4)))],Iw [(7,(.ar false y5))]⟩
theorem Kw (fu:Nat)(call:Am)(a0 a1:Int)(OM:Nat)(a2:List PV)(nn y0:Nat)(y1:List PV)(y2:Int)(y3:List PV):E5 fu call a0 a1 OM a2 (nn+1) y0 y1 y2 y3=(Ba (decide (y2<=(↑y0:Int))) (Ee fu call a0 a1 OM a2 nn (fu) (y0) (y1) (y2) 0 7 (y3)) (Aj .u64 (List.getD y3 2 .top) fun x5=>Ac (Gi .u64 x5 255) fun x6=>A2 (decide (3<=y3.length))<|Ac (Ca y3 [.sc (.int .u64 x6)] 2) fun x7=>Aj .u64 (List.getD x7 0 .top) fun x8=>Aj .u64 (List.getD x7 1 .top) fun x9=>Aj .u64 (List.getD x7 2 .top) fun E4=>Aj .u64 (List.getD x7 3 .top) fun Is=>Ah (call 97 [.agg [.sc (.int .u64 x8),.sc (.int .u64 x9),.sc (.int .u64 E4),.sc (.int .u64 Is)]]) fun Iu Ey=>Ad Ey<|Aa Iu fun Gt Ja=>F7 Gt fun Gs=>Aa Gs fun Hk I6=>Aj .u64 Hk fun H9=>Aa I6 fun I9 I5=>Aj .u64 I9 fun Jr=>Aa I5 fun I4 Hw=>Aj .u64 I4 fun Iz=>Aa Hw fun Kr L1=>Aj .u64 Kr fun Ms=>Ad L1<|Ad Ja<|Ah (call 97 [.agg [.sc (.int .u64 H9),.sc (.int .u64 Jr),.sc (.int .u64 Iz),.sc (.int .u64 Ms)]]) fun L6 N4=>Ad N4<|Aa L6 fun N1 Pf=>F7 N1 fun N6=>Aa N6 fun O4 Pq=>Aj .u64 O4 fun Pm=>Aa Pq fun Q2 Qs=>Aj .u64 Q2 fun Pi=>Aa Qs fun Vw Xj=>Aj .u64 Vw fun Pb=>Aa Xj fun Pp V7=>Aj .u64 Pp fun Vn=>Ad V7<|Ad Pf<|Ah (call 97 [.agg [.sc (.int .u64 Pm),.sc (.int .u64 Pi),.sc (.int .u64 Pb),.sc (.int .u64 Vn)]]) fun Xv Yb=>Ad Yb<|Aa Xv fun X9 Vp=>F7 X9 fun Wb=>Aa Wb fun Xh Oa=>Aj .u64 Xh fun R8=>Aa Oa fun Xk DJ=>Aj .u64 Xk fun BW=>Aa DJ fun Z9 Z5=>Aj .u64 Z9 fun EJ=>Aa Z5 fun FH EZ=>Aj .u64 FH fun MC=>Ad EZ<|Ad Vp<|Ah (call 97 [.agg [.sc (.int .u64 R8),.sc (.int .u64 BW),.sc (.int .u64 EJ),.sc (.int .u64 MC)]]) fun RX ND=>Ad ND<|Aa RX fun JK PQ=>F7 JK fun KP=>Aa KP fun NQ QW=>Aj .u64 NQ fun QA=>Aa QW fun LQ JF=>Aj .u64 LQ fun FM=>Aa JF fun KK LO=>Aj .u64 KK fun SG=>Aa LO fun VF RE=>Aj .u64 VF fun WB=>Ad RE<|Ad PQ<|A2 (decide (4<=x7.length))<|Ac (Ca x7 [.sc (.int .u64 QA),.sc (.int .u64 FM),.sc (.int .u64 SG),.sc (.int .u64 WB)] 0) fun JU=>Aj .u64 (List.getD JU 0 .top) fun QP=>Aj .u64 (List.getD JU 1 .top) fun RR=>Ac (Gi .u64 QP RR) fun WN=>Aj .u64 (List.getD JU 2 .top) fun OB=>Ac (Gi .u64 WN OB) fun TI=>Aj .u64 (List.getD JU 3 .top) fun RQ=>Ac (Gi .u64 TI RQ) fun XB=>some (Ap.mk [.sc (.int .u64 XB)] []))):=by kernel_rfl
theorem K1 (fu:Nat)(call:Am)(a0 a1:Int)(OM:Nat)(a2:List PV)(m0 nn y0:Nat)(y1:List PV)(y2 y3 y4:Int)(y5:List PV):Ee fu call a0 a1 OM a2 m0 (nn+1) y0 y1 y2 y3 y4 y5=(Ba (decide (y4>=0)) (Ac (wrap .i64 (y2+y4)) fun NV=>Ba (decide (NV<(↑y0:Int))) (Ac (wrap .i64 (y2+y4)) fun QX=>A2 (decide (0<=QX)&&decide (QX<(↑y0:Int)))<|Aj .u8 (List.getD y1 (Int.toNat QX*1) .top) fun WO=>Ac (Ka .u64 y3 8) fun PY=>Ac (wrap .u64 WO) fun QN=>Ac (QM .u64 PY QN) fun VH=>Ac (wrap .i64 (y4-1)) fun QZ=>Ee fu call a0 a1 OM a2 m0 (nn) (y0) (y1) (y2) VH QZ (y5)) (Ba (y4==7) (Ac (wrap .u8 (↑y0:Int)) fun UX=>Ac (Ka .u64 y3 8) fun YS=>Ac (wrap .u64 UX) fun OP=>Ac (QM .u64 YS OP) fun RJ=>Ac (wrap .i64 (y4-1)) fun WA=>Ee fu call a0 a1 OM a2 m0 (nn) (y0) (y1) (y2) RJ WA (y5)) (Ac (Ka .u64 y3 8) fun Qq=>Ac (QM .u64 Qq 0) fun U9=>Ac (wrap .i64 (y4-1)) fun Ri=>Ee fu call a0 a1 OM a2 m0 (nn) (y0) (y1) (y2) U9 Ri (y5)))) (Aj .u64 (List.getD y5 3 .top) fun Sg=>Ac (Gi .u64 Sg y3) fun Tc=>A2 (decide (4<=y5.length))<|Ac (Ca y5 [.sc (.int .u64 Tc)] 3) fun Ob=>Aj .u64 (List.getD Ob 0 .top) fun Rx=>Aj .u64 (List.getD Ob 1 .top) fun Q9=>Aj .u64 (List.getD Ob 2 .top) fun Uw=>Aj .u64 (List.getD Ob 3 .top) fun W0=>Ah (call 97 [.agg [.sc (.int .u64 Rx),.sc (.int .u64 Q9),.sc (.int .u64 Uw),.sc (.int .u64 W0)]]) fun Uq Wl=>Ad Wl<|Aa Uq fun BI S6=>F7 BI fun Uv=>Aa Uv fun V0 Wf=>Aj .u64 V0 fun Va=>Aa Wf fun S3 Ry=>Aj .u64 S3 fun R0=>Aa Ry fun Vz Wo=>Aj .u64 Vz fun Sc=>Aa Wo fun Wd Wm=>Aj .u64 Wd fun U6=>Ad Wm<|Ad S6<|Ah (call 97 [.agg [.sc (.int .u64 Va),.sc (.int .u64 R0),.sc (.int .u64 Sc),.sc (.int .u64 U6)]]) fun Vc Ww=>Ad Ww<|Aa Vc fun R5 Vi=>F7 R5 fun BB=>Aa BB fun AH BD=>Aj .u64 AH fun BK=>Aa BD fun AU Z2=>Aj .u64 AU fun AJ=>Aa Z2 fun DH AO=>Aj .u64 DH fun Xl=>Aa AO fun DG AP=>Aj .u64 DG fun Uu=>Ad AP<|Ad Vi<|A2 (decide (4<=Ob.length))<|Ac (Ca Ob [.sc (.int .u64 BK),.sc (.int .u64 AJ),.sc (.int .u64 Xl),.sc (.int .u64 Uu)] 0) fun X7=>Aj .u64 (List.getD X7 0 .top) fun Zy=>Ac (Gi .u64 Zy y3) fun Yq=>A2 (decide (1<=X7.length))<|Ac (Ca X7 [.sc (.int .u64 Yq)] 0) fun Yo=>Ac (wrap .i64 (y2+8)) fun Y6=>E5 fu call a0 a1 OM a2 (m0) (y0) (y1) Y6 Yo)):=by kernel_rfl
theorem Xt {xs:FuncId->Option (List PV->Option Ap)} (fu d:Nat)(a0 a1:Int)(OM:Nat)(a2:List PV):Ae (CX xs) prog fu (d+1) Oo [.sc (.int .u64 a0),.sc (.int .u64 a1),.lst false 1 OM a2]=(fun (call:Am)=>Ac (Gi .u64 a0 8317987319222330741) fun x1=>Ac (Gi .u64 a1 7237128888997146477) fun x2=>Ac (Gi .u64 a0 7816392313619706465) fun x3=>Ac (Gi .u64 a1 8387220255154660723) fun x4=>E5 fu call a0 a1 OM a2 (fu) (OM) (a2) 0 ([.sc (.int .u64 x1),.sc (.int .u64 x2),.sc (.int .u64 x3),.sc (.int .u64 x4)])) (Ae (CX xs) prog fu d):=by kernel_rfl
abbrev Oj:FuncId:=53
theorem Yg {xs:FuncId->Option (List PV->Option Ap)} (fu d:Nat)(a0 a1:Int)(OM:Nat)(a2:List PV):Ae (CX xs) prog fu (d+1) Oj [.sc (.int .u64 a0),.sc (.int .i64 a1),.lst false 1 OM a2]=(fun (call:Am)=>Ac (wrap .u64 a1) fun x1=>Ac (wrap .u64 (1+x1)) fun x2=>Ah (call 74 [.sc (.int .u64 a0),.sc (.int .u64 x2),.lst false 1 OM a2]) fun x3 x4=>Ad x4<|Aa x3 fun x5 x6=>Aj .u64 x5 fun x7=>Ad x6<|some (Ap.mk [.sc (.int .u64 x7)] [])) (Ae (CX xs) prog fu d):=by kernel_rfl
abbrev Fu:FuncId:=52
noncomputable def Em (fu:Nat)(call:Am)(Hg:Nat)(a0:List PV)(nn y0:Nat)(y1:List PV)(y2:Nat)(y3:Int)(y4:List PV):Option Ap:=Fh CB prog fu call 52 Tryz.f52 (D2 Tryz.f52) [.lst false 1 Hg a0] [.r,.r,.l,.r,.l] nn ⟨lk [(0,(.lst false 1 y0 y1)),(3,(.view 3 1 0 y2)),(4,(.sc (.int .i64 y3)))],Iw [(3,(.ar false y4))]⟩
noncomputable def Fl (fu:Nat)(call:Am)(Hg:Nat)(a0:List PV)(m0 nn y0:Nat)(y1:List PV)(y2:Nat)(y3 y4:Int)(y5:List PV):Option Ap:=Fh CB prog fu call 52 Tryz.f52 (D2 Tryz.f52) [.lst false 1 Hg a0] [.r,.r,.l,.r,.l,.i m0,.r,.l,.l,.r,.l] nn ⟨lk [(0,(.lst false 1 y0 y1)),(3,(.view 3 1 0 y2)),(4,(.sc (.int .i64 y3))),(5,(.sc (.int .i64 y4)))],Iw [(3,(.ar false y5))]⟩
theorem Je (fu:Nat)(call:Am)(Hg:Nat)(a0:List PV)(nn y0:Nat)(y1:List PV)(y2:Nat)(y3:Int)(y4:List PV):Em fu call Hg a0 (nn+1) y0 y1 y2 y3 y4=(Ba (decide (y3<(↑y0:Int))) (Fl fu call Hg a0 nn (fu) (y0) (y1) (y2) (y3) 7 (y4)) (A2 (decide (y2*1<=y4.length))<|some (Ap.mk [.own 1 y2 (List.take (y2*1) y4)] []))):=by kernel_rfl
theorem Jl (fu:Nat)(call:Am)(Hg:Nat)(a0:List PV)(m0 nn y0:Nat)(y1:List PV)(y2:Nat)(y3 y4:Int)(y5:List PV):Fl fu call Hg a0 m0 (nn+1) y0 y1 y2 y3 y4 y5=(Ba (decide (y4>=0)) (A2 (decide (0<=y3)&&decide (y3<(↑y0:Int)))<|Aj .u64 (List.getD y1 (Int.toNat y3*1) .top) fun x1=>Ac (wrap .i64 (8*y4)) fun x2=>Ac (wrap .u64 x2) fun x3=>A2 (decide (0<=x3))<|Ac (Ut .u64 x1 x3) fun x4=>Ac (wrap .u8 x4) fun x5=>A2 (decide (y2*1<=y5.length)&&true&&decide ((y2+1)*1<=1099511627776)&&decide (y2+1<=1099511627776))<|Ac (y2+1) fun x6=>Ac (List.take (y2*1) y5++[.sc (.int .u8 x5)]) fun x7=>Ac (wrap .i64 (y4-1)) fun x8=>Fl fu call Hg a0 m0 (nn) (y0) (y1) x6 (y3) x8 x7) (Ac (wrap .i64 (y3+1)) fun x9=>Em fu call Hg a0 (m0) (y0) (y1) (y2) x9 (y5))):=by kernel_rfl
theorem Ux {xs:FuncId->Option (List PV->Option Ap)} (fu d Hg:Nat)(a0:List PV):Ae (CX xs) prog fu (d+1) Fu [.lst false 1 Hg a0]=(fun (call:Am)=>Em fu call Hg a0 (fu) (Hg) (a0) 0 0 ([])) (Ae (CX xs) prog fu d):=by kernel_rfl
end
section
open Go.IntKind (wrap)
def rot (x k:Int):Int:=QM .u64 (Ka .u64 x k) (Ut .u64 x (64-k))
structure W4 where
 a:Int
 b:Int
 c:Int
 d:Int
def W4.cells (v:W4):List PV:=[.sc (.int .u64 v.a),.sc (.int .u64 v.b),.sc (.int .u64 v.c),.sc (.int .u64 v.d)]
def Bb8 (v:W4):W4:=⟨rot (wrap .u64 (v.a+v.b)) 32,Gi .u64 (rot v.b 13) (wrap .u64 (v.a+v.b)),wrap .u64 (v.c+v.d),Gi .u64 (rot v.d 16) (wrap .u64 (v.c+v.d))⟩
def A9m (v:W4):W4:=⟨wrap .u64 (v.a+v.d),Gi .u64 (rot v.b 17) (wrap .u64 (v.c+v.b)),rot (wrap .u64 (v.c+v.b)) 32,Gi .u64 (rot v.d 21) (wrap .u64 (v.a+v.d))⟩
def JD (v:W4):W4:=A9m (Bb8 v)
def A0g:Nat->W4->W4
 |0,v=>v
 |n+1,v=>A0g n (JD v)
def A4t (r:W4)(m:Int):W4:=⟨Gi .u64 r.a m,r.b,r.c,r.d⟩
def VV (v:W4)(m:Int):W4:=A4t (A0g 2 ⟨v.a,v.b,v.c,Gi .u64 v.d m⟩) m
def Xi:List Int->Int
 |[]=>0
 |b::r=>b+256*Xi r
def Aej:Nat->W4->List Int->W4
 |0,v,_=>v
 |n+1,v,l=>Aej n (VV v (Xi (l.take 8))) (l.drop 8)
def A2a (k0 k1:Int):W4:=⟨Gi .u64 k0 8317987319222330741,Gi .u64 k1 7237128888997146477,Gi .u64 k0 7816392313619706465,Gi .u64 k1 8387220255154660723⟩
def Aut (v:W4):W4:=A0g 4 ⟨v.a,v.b,Gi .u64 v.c 255,v.d⟩
def Apd (v:W4):Int:=Gi .u64 (Gi .u64 (Gi .u64 v.a v.b) v.c) v.d
def MR (l:List Int):Int:=Xi (l.drop (8*(l.length / 8)))+72057594037927936*((l.length:Int) % 256)
def A2c (k0 k1:Int)(l:List Int):Int:=Apd (Aut (VV (Aej (l.length / 8) (A2a k0 k1) l) (MR l)))
def A2v (key dom:Int)(l:List Int):Int:=A2c key (wrap .u64 (1+wrap .u64 dom)) l
def Cx (l:List Int):Prop:=∀b∈l,0<=b∧b<=255
theorem II:∀{l:List Int},Cx l->0<=Xi l∧Xi l<256 ^ l.length
 |[],_=>by simp[Xi]
 |b::r,h=>by
  have h1:=h b (by simp)
  have h2:=II (l:=r) fun x hx=>h x (by simp[hx])
  have h3:(256:Int) ^ (b::r).length=256 ^ r.length*256:=by rw[Uk,Int.pow_succ]
  simp only[Xi];omega
theorem FG:∀(l r:List Int),Xi (l++r)=Xi l+256 ^ l.length*Xi r
 |[],r=>by simp[Xi]
 |b::l,r=>by
  have ih:=FG l r;simp only[Zzp,Xi,Uk,Int.pow_succ];rw[ih,Int.mul_add];have:(256:Int)*(256 ^ l.length*Xi r)=256 ^ l.length*256*Xi r:=by rw[←Int.mul_assoc,Int.mul_comm 256]
  omega
theorem PN {a c:Int}(k b:Nat)(h0:0<=a)(h1:a<((2 ^ k:Nat):Int)) (hc:c=((b*2 ^ k:Nat):Int)) (h:a+c<=18446744073709551615):QM .u64 a c=a+c∧QM .u64 c a=a+c:=by
 obtain⟨n,rfl⟩:=Int.eq_ofNat_of_zero_le h0;subst hc;have hn:n<2 ^ k:=by omega
 generalize hB:b*2 ^ k=m at h
 have e4:(BitVec.ofInt 64 (n:Int)).toNat=n:=by
  rw[BitVec.toNat_ofInt];omega
 have e5:(BitVec.ofInt 64 (m:Int)).toNat=m:=by
  rw[BitVec.toNat_ofInt];omega
 have e6:m ||| n=m+n:=by
  have:=Nat.shiftLeft_add_eq_or_of_lt hn b;rw[Nat.shiftLeft_eq,hB] at this;exact this.symm
 constructor
 ·show wrap .u64 ((BitVec.ofInt 64 (n:Int) ||| BitVec.ofInt 64 (m:Int)).toNat:Int)=_;rw[BitVec.toNat_or,e4,e5,Nat.or_comm,e6,E6 (by omega) (by omega)]
  omega
 ·show wrap .u64 ((BitVec.ofInt 64 (m:Int) ||| BitVec.ofInt 64 (n:Int)).toNat:Int)=_;rw[BitVec.toNat_or,e4,e5,e6,E6 (by omega) (by omega)]
  omega
theorem QI {a k:Int}(h0:0<=a)(hk:0<=k)(Ll:k<=64)(h:a*((2 ^ k.toNat:Nat):Int)<=18446744073709551615):Ka .u64 a k=a*((2 ^ k.toNat:Nat):Int):=by
 show wrap .u64 (a*2 ^ (min k.toNat IntKind.u64.bits))=_;have e:min k.toNat IntKind.u64.bits=k.toNat:=Nat.min_eq_left (by show k.toNat<=64;omega)
 have e2:(2:Int) ^ k.toNat=((2 ^ k.toNat:Nat):Int):=by simp
 rw[e,e2,E6 (Int.mul_nonneg h0 (Int.natCast_nonneg _)) h]
end
section
open Go.Proofs.Tryz (prog)
open Go.IntKind (wrap)
section
variable {fu d:Nat} {xs:FuncId->Option (List PV->Option Ap)}
theorem Ai1 {x k:Int}(hk:k=13∨k=16∨k=17∨k=21∨k=32):Ae (CX xs) prog fu (d+1) Nd [.sc (.int .u64 x),.sc (.int .u64 k)]=some ⟨[.sc (.int .u64 (rot x k))],[]⟩:=by
 rw[V1];rcases hk with rfl|rfl|rfl|rfl|rfl<;>kernel_rfl
theorem Mx (k:IntKind)(l:List Int)(i:Nat):List.take i (Bl k l)=Bl k (l.take i):=by
 have:=Ab8 (HU k) l i
 simpa using this
theorem Cx.drop {l:List Int}(h:Cx l)(i:Nat):Cx (l.drop i):=fun x hx=>h x (List.mem_of_mem_drop hx)
theorem Cx.take {l:List Int}(h:Cx l)(i:Nat):Cx (l.take i):=fun x hx=>h x (List.mem_of_mem_take hx)
theorem Mt (v:W4):Ae (CX xs) prog fu (d+2) Lv [.agg [.sc (.int .u64 v.a),.sc (.int .u64 v.b),.sc (.int .u64 v.c),.sc (.int .u64 v.d)]]=some ⟨[.agg (JD v).cells],[]⟩:=by
 have r13:=fun x=>Ai1 (xs:=xs) (fu:=fu) (d:=d) (x:=x) (k:=13) (by simp)
 have r16:=fun x=>Ai1 (xs:=xs) (fu:=fu) (d:=d) (x:=x) (k:=16) (by simp)
 have r17:=fun x=>Ai1 (xs:=xs) (fu:=fu) (d:=d) (x:=x) (k:=17) (by simp)
 have r21:=fun x=>Ai1 (xs:=xs) (fu:=fu) (d:=d) (x:=x) (k:=21) (by simp)
 have r32:=fun x=>Ai1 (xs:=xs) (fu:=fu) (d:=d) (x:=x) (k:=32) (by simp)
 rw[Vb];simp (disch:=omega) only[B4,r13,r16,r17,r21,r32];rfl
def Sa (l:List Int)(i k:Nat):Int:=if i+k<l.length then l.getD (i+k) 0 else if k=7 then (l.length:Int) % 256 else 0
def pc (l:List Int)(i:Nat):List Int:=(List.range 8).map (Sa l i)
theorem A8a {l:List Int}(hb:Cx l)(i:Nat):Cx (pc l i):=by
 intro x hx;obtain⟨k,hk,rfl⟩:=List.mem_map.1 hx;unfold Sa;split
 ·rename_i h;rw[List.getD_eq_getElem?_getD,List.getElem?_eq_getElem h];exact hb _ (List.getElem_mem h)
 ·split<;>omega
theorem And {l:List Int}{i:Nat}(h:i+8<=l.length):pc l i=(l.drop i).take 8:=by
 refine List.ext_getElem (by simp[pc];omega) fun k h1 h2=>?_
 have hk:k<8:=by simpa [pc] using h1
 simp only[pc,List.getElem_map,List.getElem_range,List.getElem_take,List.getElem_drop,Sa];rw[Dy (by omega),List.getD_eq_getElem?_getD,List.getElem?_eq_getElem (by omega)]
 rfl
theorem KY (x:Int):∀n,Xi (List.replicate n 0++[x])=256 ^ n*x
 |0=>by simp[Xi]
 |n+1=>by
  rw[List.replicate_succ,Zzp,Xi,KY x n,Int.pow_succ,Int.mul_comm (256 ^ n) 256,Int.mul_assoc];omega
theorem Ao8 {l:List Int}:Xi (pc l (8*(l.length / 8)))=MR l:=by
 have e:pc l (8*(l.length / 8))=l.drop (8*(l.length / 8))++(List.replicate (7-(l.length-8*(l.length / 8))) 0++[(l.length:Int) % 256]):=by
  refine List.ext_getElem (by simp[pc];omega) fun k h1 h2=>?_
  have hk:k<8:=by simpa [pc] using h1
  simp only[pc,List.getElem_map,List.getElem_range,Sa];by_cases hc:8*(l.length / 8)+k<l.length
  ·rw[Dy hc,List.getElem_append_left (by rw[List.length_drop];omega),List.getElem_drop,List.getD_eq_getElem?_getD,List.getElem?_eq_getElem hc]
   rfl
  ·rw[Ct hc,List.getElem_append_right (by rw[List.length_drop];omega)]
   by_cases h7:k=7
   ·rw[Dy h7,List.getElem_append_right (by simp;omega)]
    simp
   ·rw[Ct h7,List.getElem_append_left (by simp;omega)]
    simp
 rw[e,FG,KY];unfold MR
 have:(256:Int) ^ (l.drop (8*(l.length / 8))).length*(256 ^ (7-(l.length-8*(l.length / 8)))*((l.length:Int) % 256))=72057594037927936*((l.length:Int) % 256):=by
  rw[←Int.mul_assoc,←Int.pow_add,List.length_drop];have:l.length-8*(l.length / 8)+(7-(l.length-8*(l.length / 8)))=7:=by omega
  rw[this];rfl
 rw[this]
theorem A1y {a b:Int}(ha:0<=a)(ha':a<72057594037927936)(hb:0<=b)(H5:b<=255):QM .u64 (Ka .u64 a 8) b=b+256*a:=by
 obtain⟨n,rfl⟩:=Int.eq_ofNat_of_zero_le ha
 have hs:Ka .u64 (n:Int) 8=((n*2 ^ 8:Nat):Int):=by
  have:=QI (a:=(n:Int)) (k:=8) (by omega) (by omega) (by omega) (by
   have:(2 ^ (8:Int).toNat:Nat)=256:=by decide
   rw[this];omega)
  rw[this];have:(2 ^ (8:Int).toNat:Nat)=256:=by decide
  rw[this];have:(2 ^ 8:Nat)=256:=by decide
  rw[this];omega
 have h8:(2 ^ 8:Nat)=256:=by decide
 rw[hs,(PN (a:=b) 8 n hb (by rw[h8];omega) rfl (by rw[h8];omega)).2,h8]
 omega
theorem Abv {a0 a1:Int}{n m0:Nat}{c:List PV}{l:List Int}(hb:Cx l)(hl:l.length<=1099511627776){i:Nat}(hi:i<=l.length)(v:W4):∀(j nn:Nat),j<=8->j<nn ->
  Ee fu (Ae (CX xs) prog fu (d+2)) a0 a1 n c m0 nn l.length (Bl .u8 l) i (Xi ((pc l i).drop j)) ((j:Int)-1) v.cells =
   E5 fu (Ae (CX xs) prog fu (d+2)) a0 a1 n c m0 l.length (Bl .u8 l) ((i+8:Nat):Int) (VV v (Xi (pc l i))).cells
 |_,0,_,h=>by omega
 |0,nn+1,hj,hn=>by
  have w8:wrap .i64 ((i:Int)+8)=((i+8:Nat):Int):=by rw[Au (by omega) (by omega)];omega
  have r1:=Mt (xs:=xs) (fu:=fu) (d:=d) ⟨v.a,v.b,v.c,Gi .u64 v.d (Xi (pc l i))⟩;have r2:=Mt (xs:=xs) (fu:=fu) (d:=d) (JD ⟨v.a,v.b,v.c,Gi .u64 v.d (Xi (pc l i))⟩);have eA:VV v (Xi (pc l i))=A4t (JD (JD ⟨v.a,v.b,v.c,Gi .u64 v.d (Xi (pc l i))⟩)) (Xi (pc l i)):=rfl;rw[eA];generalize JD ⟨v.a,v.b,v.c,Gi .u64 v.d (Xi (pc l i))⟩=U at r1 r2 ⊢;generalize JD U=U2 at r2 ⊢;simp only[W4.cells] at r1 r2;rw[K1,GZ _ _ _ (by omega),Zze]
  simp only[W4.cells,List.getD_cons_zero,List.getD_cons_succ,HK,M7];simp (disch:=first|omega|(simp;done)) only[B4,Ca,List.take_succ_cons,List.take_zero,List.drop_succ_cons,Zze,List.drop_nil,Zzp,List.nil_append,List.append_nil,Uk,QY,List.getD_cons_zero,List.getD_cons_succ,r1,r2,w8,WS,Nat.reduceAdd,Nat.reduceLeDiff,List.append_eq]
  rfl
 |j+1,nn+1,hj,hn=>by
  have ih:=Abv (a0:=a0) (a1:=a1) (n:=n) (m0:=m0) (c:=c) hb hl hi v j nn (by omega) (by omega)
  have hw:wrap .i64 ((i:Int)+(((j+1:Nat):Int)-1))=((i+j:Nat):Int):=by rw[Au (by omega) (by omega)];omega
  have wj:wrap .i64 (((j+1:Nat):Int)-1-1)=(j:Int)-1:=by rw[Au (by omega) (by omega)];omega
  have hd:(pc l i).drop j=Sa l i j::(pc l i).drop (j+1):=by
   rw[List.drop_eq_getElem_cons (by simp[pc];omega)]
   simp[pc]
  have hB:=A8a hb i;have hbn:=II (hB.drop (j+1))
  have hp7:(256:Int) ^ ((pc l i).drop (j+1)).length<=72057594037927936:=by
   have C6:((pc l i).drop (j+1)).length<=7:=by simp[pc]
   have:(256:Nat) ^ ((pc l i).drop (j+1)).length<=256 ^ 7:=Nat.pow_le_pow_right (by omega) C6
   have h2:(((256:Nat) ^ ((pc l i).drop (j+1)).length:Nat):Int)<=((256 ^ 7:Nat):Int):=by omega
   simpa using h2
  have hc0:0<=Sa l i j∧Sa l i j<=255:=hB _ (by rw[←Zze (l:=pc l i)];exact List.mem_of_mem_drop (i:=j) (by rw[Zze,hd];simp))
  have hj2:QM .u64 (Ka .u64 (Xi ((pc l i).drop (j+1))) 8) (Sa l i j)=Xi ((pc l i).drop j):=by
   rw[A1y hbn.1 (by omega) hc0.1 hc0.2,hd]
   rfl
  have wc:wrap .u64 (Sa l i j)=Sa l i j:=E6 (by omega) (by omega)
  rw[K1,GI _ _ _ (by omega)]
  simp only[M7,hw];by_cases c1:i+j<l.length
  ·have e:Sa l i j=l.getD (i+j) 0:=by unfold Sa;rw[Dy c1]
   have e2:l[i+j]?=some (Sa l i j):=by rw[e,List.getD_eq_getElem?_getD,List.getElem?_eq_getElem c1];rfl
   rw[GI _ _ _ (by omega)]
   simp (disch:=omega) only[B4,Kj,EB,ati e2,wc,hj2,wj];exact ih
  ·rw[GZ _ _ _ (by omega)]
   by_cases h7:j=7
   ·subst h7;have e:Sa l i 7=(l.length:Int) % 256:=by unfold Sa;rw[Ct c1,Dy rfl]
    have e8:wrap .u8 (l.length:Int)=Sa l i 7:=by
     rw[e];simp only[wrap,IntKind.signed,IntKind.bits];simp
    rw[Acg,Dy (by omega),e8,wc,hj2,wj]
    exact ih
   ·have e:Sa l i j=0:=by unfold Sa;rw[Ct c1,Ct h7]
    rw[e] at hj2;rw[Acg,Ct (by omega),hj2,wj]
    exact ih
theorem MZ {a0 a1:Int}{n:Nat}{c:List PV}{l:List Int}(hb:Cx l)(hl:l.length<=1099511627776)(Eu:100<=fu):∀(k i nn:Nat)(v:W4),i+k=l.length / 8->k+1<nn ->
  E5 fu (Ae (CX xs) prog fu (d+2)) a0 a1 n c nn l.length (Bl .u8 l) ((8*i:Nat):Int) v.cells=some ⟨[.sc (.int .u64 (Apd (Aut (VV (Aej k v (l.drop (8*i))) (MR l)))))],[]⟩
 |_,_,0,_,_,h=>by omega
 |k,i,nn+1,v,hi,hn=>by
  have step:=Abv (xs:=xs) (fu:=fu) (d:=d) (a0:=a0) (a1:=a1) (n:=n) (m0:=nn) (c:=c) hb hl (i:=8*i) (by omega) v 8 fu (by omega) (by omega)
  have e0:Xi ((pc l (8*i)).drop 8)=0:=by rw[List.drop_of_length_le (by simp[pc])];rfl
  rw[e0] at step;rw[Kw,GI _ _ _ (by omega)]
  refine step.trans ?_;cases k with
  |zero=>
   have e:i=l.length / 8:=by omega
   subst e;rw[Ao8];generalize hv:VV v (MR l)=u;obtain⟨nn',rfl⟩:∃nn',nn=nn'+1:=⟨nn-1,by omega⟩
   have r1:=Mt (xs:=xs) (fu:=fu) (d:=d) ⟨u.a,u.b,Gi .u64 u.c 255,u.d⟩;have r2:=Mt (xs:=xs) (fu:=fu) (d:=d) (JD ⟨u.a,u.b,Gi .u64 u.c 255,u.d⟩);have r3:=Mt (xs:=xs) (fu:=fu) (d:=d) (JD (JD ⟨u.a,u.b,Gi .u64 u.c 255,u.d⟩));have r4:=Mt (xs:=xs) (fu:=fu) (d:=d) (JD (JD (JD ⟨u.a,u.b,Gi .u64 u.c 255,u.d⟩)))
   have eF:Apd (Aut (VV (Aej 0 v (l.drop (8*(l.length / 8)))) (MR l)))=Apd (JD (JD (JD (JD ⟨u.a,u.b,Gi .u64 u.c 255,u.d⟩)))):=by
    rw[Aej,hv];rfl
   rw[eF];clear eF;generalize JD ⟨u.a,u.b,Gi .u64 u.c 255,u.d⟩=U1 at r1 r2 r3 r4 ⊢;generalize JD U1=U2 at r2 r3 r4 ⊢;generalize JD U2=U3 at r3 r4 ⊢;generalize JD U3=U4 at r4 ⊢;simp only[W4.cells] at r1 r2 r3 r4;rw[Kw,GZ _ _ _ (by omega)]
   simp only[W4.cells,List.getD_cons_zero,List.getD_cons_succ,HK,M7];simp (disch:=first|omega|(simp;done)) only[B4,Ca,List.take_succ_cons,List.take_zero,List.drop_succ_cons,Zze,List.drop_nil,Zzp,List.nil_append,List.append_nil,Uk,QY,List.getD_cons_zero,List.getD_cons_succ,r1,r2,r3,r4,WS,Nat.reduceAdd,Nat.reduceLeDiff,List.append_eq]
   rfl
  |succ k=>
   have ih:=MZ (a0:=a0) (a1:=a1) (n:=n) (c:=c) hb hl Eu k (i+1) nn (VV v (Xi (pc l (8*i)))) (by omega) (by omega)
   rw[show 8*i+8=8*(i+1) by omega,ih,And (by omega)]
   simp only[Aej,List.drop_drop];rw[show 8*(i+1)=8*i+8 by omega]
theorem Ao7 {l:List Int}(hb:Cx l)(hl:l.length<=1099511627776)(Eu:100<=fu)(hf:l.length<fu)(k0 k1:Int):Ae (CX xs) prog fu (d+3) Oo [.sc (.int .u64 k0),.sc (.int .u64 k1),.lst false 1 l.length (Bl .u8 l)]=some ⟨[.sc (.int .u64 (A2c k0 k1 l))],[]⟩:=by
 rw[Xt];exact MZ (xs:=xs) (fu:=fu) (d:=d) (a0:=k0) (a1:=k1) (n:=l.length) (c:=Bl .u8 l) hb hl Eu (l.length / 8) 0 fu (A2a k0 k1) (by omega) (by omega)
theorem Apq {l:List Int}(hb:Cx l)(hl:l.length<=1099511627776)(Eu:100<=fu)(hf:l.length<fu)(key dom:Int):Ae (CX xs) prog fu (d+4) Oj [.sc (.int .u64 key),.sc (.int .i64 dom),.lst false 1 l.length (Bl .u8 l)]=some ⟨[.sc (.int .u64 (A2v key dom l))],[]⟩:=by
 rw[Yg];have s:=Ao7 (xs:=xs) (fu:=fu) (d:=d) hb hl Eu hf key (wrap .u64 (1+wrap .u64 dom));simp only[B4,s];rfl
end
end
section
open Go.Proofs.Tryz (prog)
open Go.IntKind (wrap)
def Q3 (w:Int)(k:Nat):Int:=wrap .u8 (Ut .u64 w (56-8*(k:Int)))
def P4 (w:Int):List Int:=(List.range' 0 8).map (Q3 w)
def Gg (ws:List Int):List Int:=ws.flatMap P4
theorem J6 (w:Int):(P4 w).length=8:=rfl
section
variable {fu d:Nat} {xs:FuncId->Option (List PV->Option Ap)} {call:Am} {n:Nat} {c:List PV}
theorem MH {ws:List Int}{w:Int}{m0 i:Nat}(hw:ws[i]?=some w):∀(r nn:Nat)(j:Int)(bs:List Int),j=(r:Int)-1->r<=8->r<nn->bs.length+r<=34359738368 ->
  Fl fu call n c m0 nn ws.length (Bl .u64 ws) bs.length i j (Bl .u8 bs) =
   Em fu call n c m0 ws.length (Bl .u64 ws) (bs++(List.range' (8-r) r).map (Q3 w)).length (wrap .i64 (i+1)) (Bl .u8 (bs++(List.range' (8-r) r).map (Q3 w)))
 |r,0,j,bs,_,_,h,_=>by omega
 |0,nn+1,j,bs,hr,_,_,_=>by
  rw[Jl];simp (disch:=omega) only[B4];simp
 |r+1,nn+1,j,bs,hr,CJ,hn,hb=>by
  have hi:=As6 hw;have ih:=MH (m0:=m0) hw r nn (j-1) (bs++[Q3 w (8-(r+1))]) (by omega) (by omega) (by omega) (by simp;omega)
  have e8:=Ek .u8 bs
  have hx:wrap .u8 (Ut .u64 w (wrap .u64 (wrap .i64 (8*j))))=Q3 w (8-(r+1)):=by
   rw[Au (by omega) (by omega),E6 (by omega) (by omega)]
   unfold Q3;rw[show 56-8*((8-(r+1):Nat):Int)=8*j by omega]
  have h0:0<=wrap .u64 (wrap .i64 (8*j)):=by
   rw[Au (by omega) (by omega),E6 (by omega) (by omega)]
   omega
  have Aw7:List.range' (8-(r+1)) (r+1)=(8-(r+1))::List.range' (8-r) r:=by
   rw[List.range'_succ,show 8-(r+1)+1=8-r by omega]
  rw[Jl];simp (disch:=first|omega|exact h0) only[B4,Kj,EB,ati hw,hx,tki,Alv,Au (x:=j-1)];rw[Aw7];simp only[BZ,Uk,QY,WS,Zzv,Zzw,List.singleton_append] at ih ⊢;exact ih
theorem CA {ws:List Int}(hl:ws.length<=1073741824)(Eu:100<=fu):∀(r:List Int)(i nn:Nat)(bs:List Int),ws.drop i=r->r.length<nn->bs.length=8*i ->
  Em fu call n c nn ws.length (Bl .u64 ws) bs.length i (Bl .u8 bs)=some ⟨[.own 1 (bs++Gg r).length (Bl .u8 (bs++Gg r))],[]⟩
 |r,i,0,_,_,h,_=>by omega
 |[],i,nn+1,bs,h,_,_=>by
  have:=drop_nil h;have e8:=Ek .u8 bs;rw[Je];simp (disch:=omega) only[B4,EB,tki,Gg,List.flatMap_nil,List.append_nil]
 |w::r,i,nn+1,bs,h,hn,hb=>by
  obtain⟨h1,h2,h3⟩:=Ff h;simp only[Uk] at hn;rw[Je];simp (disch:=omega) only[B4];rw[MH h2 8 fu 7 bs rfl (by omega) (by omega) (by omega),Au (by omega) (by omega)]
  have ih:=CA hl Eu r (i+1) nn (bs++P4 w) h3 (by omega) (by simp[J6];omega)
  have e:bs++P4 w++Gg r=bs++Gg (w::r):=by simp[Gg]
  rw[e] at ih;exact ih
theorem LR {ws:List Int}(hl:ws.length<=1073741824)(Eu:100<=fu)(hf:ws.length<fu):Ae (CX xs) prog fu (d+1) Fu [.lst false 1 ws.length (Bl .u64 ws)]=some ⟨[.own 1 (Gg ws).length (Bl .u8 (Gg ws))],[]⟩:=by
 rw[Ux];exact CA hl Eu ws 0 fu [] rfl hf rfl
end
end
section
open Go.IntKind (wrap)
theorem Akm (w:Int)(k:Nat):0<=Q3 w k∧Q3 w k<=255:=by
 unfold Q3;simp only[wrap,IntKind.signed,IntKind.bits];simp;omega
theorem Abm (w:Int):Cx (P4 w):=by
 intro x hx;obtain⟨k,_,rfl⟩:=List.mem_map.1 hx;exact Akm w k
theorem Ajw (ws:List Int):Cx (Gg ws):=by
 intro x hx;obtain⟨w,_,hx⟩:=List.mem_flatMap.1 hx;exact Abm w x hx
theorem FA (ws:List Int):(Gg ws).length=8*ws.length:=by
 induction ws with
 |nil=>rfl
 |cons w ws ih=>
  show (P4 w++Gg ws).length=_;rw[BZ,ih,J6,Uk];omega
end
section
open Go.IntKind (wrap)
def Fn (s:ByteArray):List Int:=s.data.toList.map fun b=>(b.toNat:Int)
def Ab (l:List Int):ByteArray:=⟨(l.map fun n=>n.toNat.toUInt8).toArray⟩
theorem Qm (s:ByteArray):(Fn s).length=s.size:=by
 unfold Fn;rw[List.length_map];rfl
theorem QL (s:ByteArray):Cx (Fn s):=by
 intro x hx;obtain⟨b,_,rfl⟩:=List.mem_map.1 hx;have:=b.toNat_lt;omega
theorem Af (l:List Int):(Ab l).size=l.length:=by
 show (l.map fun n=>n.toNat.toUInt8).toArray.size=_
 simp
theorem Cd {l:List Int}(h:Cx l):Fn (Ab l)=l:=by
 unfold Fn Ab;simp only[List.map_map]
 have:∀l:List Int,Cx l->List.map ((fun b:UInt8=>(b.toNat:Int)) ∘ fun n:Int=>n.toNat.toUInt8) l=l:=by
  intro l
  induction l with
  |nil=>intro _;rfl
  |cons x l ih=>
   intro h;have hx:=h x (by simp)
   rw[Zzw,ih fun y hy=>h y (by simp[hy])]
   congr 1
   show ((x.toNat.toUInt8.toNat:Nat):Int)=x;rw[Nat.toUInt8,UInt8.toNat_ofNat'];omega
 exact this l h
theorem Hl (s:ByteArray):Ab (Fn s)=s:=by
 unfold Ab Fn;simp only[List.map_map]
 have:∀l:List UInt8,List.map ((fun n:Int=>n.toNat.toUInt8) ∘ fun b:UInt8=>(b.toNat:Int)) l=l:=by
  intro l
  induction l with
  |nil=>rfl
  |cons x l ih=>
   rw[Zzw,ih]
   congr 1
   show ((x.toNat:Int).toNat).toUInt8=x;rw[Kj];simp
 rw[this]
theorem BV:∀l:List Int,Kn (Bl .u8 l)=some (l.map fun n=>n.toNat.toUInt8)
 |[]=>rfl
 |x::l=>by
  show (Kn (Bl .u8 l)).map (x.toNat.toUInt8 :: ·)=_
  rw[BV l];rfl
end
end Go.Proofs.YtodnjibebeghjaaGreatDoor.Pv
