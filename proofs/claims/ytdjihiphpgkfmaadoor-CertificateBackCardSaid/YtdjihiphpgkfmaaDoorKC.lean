/-
  The proof of CertificateBack, part 3.
-/
import Derived.Test.YtdjihiphpgkfmaaDoorKB
import Derived.StillTail
import Derived.WalkKit
import Derived.ProofKit
import Derived.OpenShut
import Derived.ShutString
import Derived.ChangeOld
import Derived.Below
import Derived.Deep.Slices
import Derived.ChangeSame
import Derived.WideKeyArgs
import Derived.Carry
import Derived.Test.YtdjihiphpgkfmaaDoorRows
set_option linter.unusedSimpArgs false
set_option linter.unusedVariables false
namespace Go.Proofs.YtdjihiphpgkfmaaDoor.Pv
section
section
variable {R R':Type} {Rel:Option R->Option R'->Prop}
theorem Ho (hn:Rel none none){k:IntKind}{p:PV}{K:Int->Option R}{K':Int->Option R'}(hK:∀n,Rel (K n) (K' n)):Rel (Ad k p K) (Ad k p K'):=by
 unfold Ad;split
 ·split<;>first|exact hK _|exact hn
 ·exact hn
theorem Dm (hn:Rel none none){p:PV}{K:IntKind->Int->Option R}{K':IntKind->Int->Option R'}(hK:∀k n,Rel (K k n) (K' k n)):Rel (C8 p K) (C8 p K'):=by
 unfold C8;split<;>first|exact hK _ _|exact hn
theorem Gd (hn:Rel none none){p:PV}{K:Bool->Option R}{K':Bool->Option R'}(hK:∀n,Rel (K n) (K' n)):Rel (Bn p K) (Bn p K'):=by
 unfold Bn;split<;>first|exact hK _|exact hn
theorem Fu (hn:Rel none none){p:PV}{K:ByteArray->Option R}{K':ByteArray->Option R'}(hK:∀n,Rel (K n) (K' n)):Rel (Dp p K) (Dp p K'):=by
 unfold Dp;split<;>first|exact hK _|exact hn
theorem Fh (hn:Rel none none){es:Nat}{p:PV}{K:Bool->Nat->List PV->Option R}{K':Bool->Nat->List PV->Option R'}(hK:∀z n c,Rel (K z n c) (K' z n c)):Rel (Gk es p K) (Gk es p K'):=by
 unfold Gk;split
 ·rename_i es' _ _;cases Nat.beq es' es
  ·exact hn
  ·exact hK _ _ _
 ·exact hK _ _ _
 ·exact hn
theorem Ah5 (hn:Rel none none){es:Nat}{p:PV}{K:PV->Option R}{K':PV->Option R'}(hK:∀p,Rel (K p) (K' p)):Rel (fsK es p K) (fsK es p K'):=by
 unfold fsK;split
 ·rename_i es' _ _;cases Nat.beq es' es
  ·exact hn
  ·exact hK _
 ·exact Fh hn fun _ _ _=>hK _
theorem YI (hn:Rel none none){es:Nat}{p:PV}{K:Nat->List PV->Option R}{K':Nat->List PV->Option R'}(hK:∀n c,Rel (K n c) (K' n c)):Rel (Eg es p K) (Eg es p K'):=by
 unfold Eg;split
 ·rename_i es' _ _;cases Nat.beq es' es
  ·exact hn
  ·exact hK _ _
 ·exact hn
theorem A5 (hn:Rel none none){b:Bool}{K:Option R}{K':Option R'}(hK:b=true->Rel K K'):Rel (Ao b K) (Ao b K'):=by
 cases b
 ·exact hn
 ·exact hK rfl
theorem EM {b:Bool}{x y:Option R}{x' y':Option R'}(hx:Rel x x')(hy:Rel y y'):Rel (Bc b x y) (Bc b x' y'):=by
 cases b
 ·exact hy
 ·exact hx
theorem Db (hn:Rel none none){α:Type}{o:Option α}{K:α->Option R}{K':α->Option R'}(hK:∀a,o=some a->Rel (K a) (K' a)):Rel (D3 o K) (D3 o K'):=by
 cases o
 ·exact hn
 ·exact hK _ rfl
theorem Bg (hn:Rel none none){α:Type}{l:List α}{K:α->List α->Option R}{K':α->List α->Option R'}(hK:∀a r,l=a::r->Rel (K a r) (K' a r)):Rel (Ab l K) (Ab l K'):=by
 cases l
 ·exact hn
 ·exact hK _ _ rfl
theorem Em (hn:Rel none none){α:Type}{l:List α}{K:Option R}{K':Option R'}(hK:Rel K K'):Rel (Ac l K) (Ac l K'):=by
 cases l
 ·exact hK
 ·exact hn
theorem Ip (hn:Rel none none){p:PV}{K:List PV->Option R}{K':List PV->Option R'}(hK:∀c,p=.agg c->Rel (K c) (K' c)):Rel (Ez p K) (Ez p K'):=by
 unfold Ez;split
 ·exact hK _ rfl
 ·exact hn
theorem Abv (hn:Rel none none){p:PV}{K:List PV->Option R}{K':List PV->Option R'}(hK:∀c,Rel (K c) (K' c)):Rel (Vb p K) (Vb p K'):=by
 unfold Vb;split
 ·exact hK _
 ·exact hn
theorem NH (hn:Rel none none){r:Option Aw}{K:List PV->List (List PV)->Option R} {K':List PV->List (List PV)->Option R'} (hK:∀v o,Rel (K v o) (K' v o)):Rel (Ai r K) (Ai r K'):=by
 unfold Ai;split
 ·exact hK _ _
 ·exact hn
theorem ZT (hn:Rel none none){p:PV}{K:Value->Option R}{K':Value->Option R'}(hK:∀v,Rel (K v) (K' v)):Rel (fnK p K) (fnK p K'):=by
 unfold fnK;split
 ·exact hK _
 ·exact hn
theorem Agz (hn:Rel none none){p:PV}{K:FuncId->Option R}{K':FuncId->Option R'}(hK:∀v,Rel (K v) (K' v)):Rel (fvK p K) (fvK p K'):=by
 unfold fvK;split
 ·rename_i f a b;cases (a.isEmpty&&b.isEmpty)
  ·exact hn
  ·exact hK _
 ·exact hn
theorem O0 (hn:Rel none none){t:CT}{p:PV}{K:PV->Option R}{K':PV->Option R'}(hK:∀p,Rel (K p) (K' p)):Rel (AY t p K) (AY t p K'):=by
 unfold AY;split
 ·exact Ho hn fun _=>hK _
 ·exact Gd hn fun _=>hK _
 ·exact Fu hn fun _=>hK _
 ·exact Fh hn fun _ _ _=>hK _
 ·exact ZT hn fun _=>hK _
theorem Ahj (hn:Rel none none){t:CT}{p:PV}{K:PV->Option R}{K':PV->Option R'}(hK:∀p,Rel (K p) (K' p)):Rel (fcK t p K) (fcK t p K'):=by
 unfold fcK;split
 ·exact Ah5 hn hK
 ·exact O0 hn hK
theorem Qx (hn:Rel none none):∀{ts:List CT}{cells:List PV}{off:Nat}{K:List PV->Option R}{K':List PV->Option R'},(∀c,Rel (K c) (K' c))->Rel (S2 ts cells off K) (S2 ts cells off K')
 |[],_,_,_,_,hK=>hK _
 |_::_,_,_,_,_,hK=>O0 hn fun _=>Qx hn fun _=>hK _
theorem Nj (hn:Rel none none):∀{ts:List CT}{cells:List PV}{off:Nat}{K:List PV->Option R}{K':List PV->Option R'},(∀c,Rel (K c) (K' c))->Rel (Ps ts cells off K) (Ps ts cells off K')
 |[],_,_,_,_,hK=>hK _
 |_::_,_,_,_,_,hK=>Ahj hn fun _=>Nj hn fun _=>hK _
theorem W6 (hn:Rel none none){g:Bool}{cells:List PV}{K:PV->Option R}{K':PV->Option R'}(hK:∀p,Rel (K p) (K' p)):Rel (ZO g cells K) (ZO g cells K'):=by
 cases g
 ·exact Bg hn fun _ _ _=>Em hn (hK _)
 ·exact hK _
theorem Ahv (hn:Rel none none){P:Program}{t:TypeId}{v:Value}{K:PV->Option R}{K':PV->Option R'}(hK:∀p,Bo p=[]->Rel (K p) (K' p)) (hK':∀c,Rel (K (.agg c)) (K' (.agg c))):Rel (cvK P t v K) (cvK P t v K'):=by
 unfold cvK;split
 ·exact A5 hn fun _=>Qx hn fun _=>hK' _
 ·split
  ·exact hK _ rfl
  ·exact hn
 ·exact hK _ rfl
theorem Afa (hn:Rel none none){op:BinOp}{x y:Int}{K:Bool->Option R}{K':Bool->Option R'}(hK:∀n,Rel (K n) (K' n)):Rel (Ag4 op x y K) (Ag4 op x y K'):=by
 unfold Ag4;split<;>first|exact hK _|exact hn
theorem VB (hn:Rel none none){op:BinOp}{k:IntKind}{x y:Int}{K:PV->Option R}{K':PV->Option R'}(hK:∀n,Rel (K n) (K' n)):Rel (GD op k x y K) (GD op k x y K'):=by
 unfold GD;split<;>first|exact hK _|exact A5 hn fun _=>hK _|exact Afa hn fun _=>hK _
theorem XS (hn:Rel none none){op:BinOp}{x y:ByteArray}{K:PV->Option R}{K':PV->Option R'}(hK:∀n,Rel (K n) (K' n)):Rel (IM op x y K) (IM op x y K'):=by
 unfold IM;split<;>first|exact hK _|exact A5 hn fun _=>hK _|exact hn
theorem KG (hn:Rel none none){e:Bool}{p:PV}{K:PV->Option R}{K':PV->Option R'}(hK:∀n,Rel (K n) (K' n)):Rel (HX e p K) (HX e p K'):=by
 unfold HX;split<;>first|exact hK _|exact EM (hK _) (EM (hK _) (hK _))|exact EM (hK _) (hK _)|exact hn
theorem RB (hn:Rel none none):∀{ts:List CT}{ps qs:List PV}{K:Bool->Option R}{K':Bool->Option R'},(∀b,Rel (K b) (K' b))->Rel (HR ts ps qs K) (HR ts ps qs K'):=by
 intro ts
 induction ts with
 |nil=>
  intro ps qs K K' hK;cases ps<;>cases qs<;>first|exact hK _|exact hn
 |cons t ts ih=>
  intro ps qs K K' hK;cases ps with
  |nil=>cases t<;>cases qs<;>exact hn
  |cons p ps=>
   cases qs with
   |nil=>cases t<;>exact hn
   |cons q qs=>
    cases t
    ·exact Ho hn fun _=>Ho hn fun _=>ih fun _=>hK _
    ·exact Gd hn fun _=>Gd hn fun _=>ih fun _=>hK _
    ·exact Fu hn fun _=>Fu hn fun _=>ih fun _=>hK _
    ·exact hn
    ·exact hn
theorem Ad9 (hn:Rel none none){P:Program}{op:BinOp}{t:TypeId}{x y:PV}{K:PV->Option R}{K':PV->Option R'}(hK:∀p,Rel (K p) (K' p)):Rel (Aed P op t x y K) (Aed P op t x y K'):=by
 unfold Aed;split
 ·split
  ·exact Ho hn fun _=>Dm hn fun _ _=>A5 hn fun _=>hK _
  ·exact Ho hn fun _=>Dm hn fun _ _=>A5 hn fun _=>hK _
  ·exact Ho hn fun _=>Ho hn fun _=>VB hn hK
 ·exact Fu hn fun _=>Fu hn fun _=>XS hn hK
 ·split
  ·exact Gd hn fun _=>Gd hn fun _=>hK _
  ·exact Gd hn fun _=>Gd hn fun _=>hK _
  ·exact hn
 ·split
  ·exact KG hn fun _=>hK _
  ·exact KG hn fun _=>hK _
  ·exact hn
 ·exact hn
theorem TE (hn:Rel none none){P:Program}{op:BinOp}{t:TypeId}{x y:PV}{K:PV->Option R}{K':PV->Option R'}(hK:∀p,Rel (K p) (K' p)):Rel (Tx P op t x y K) (Tx P op t x y K'):=by
 unfold Tx;split
 ·split
  ·exact A5 hn fun _=>Ip hn fun _ _=>Ip hn fun _ _=>RB hn fun _=>hK _
  ·exact A5 hn fun _=>Ip hn fun _ _=>Ip hn fun _ _=>RB hn fun _=>hK _
  ·exact hn
 ·exact Ad9 hn hK
theorem Ahh (hn:Rel none none){op:UnOp}{x:PV}{K:PV->Option R}{K':PV->Option R'}(hK:∀p,Rel (K p) (K' p)):Rel (unK op x K) (unK op x K'):=by
 unfold unK;split<;>first|exact Gd hn fun _=>hK _|exact Dm hn fun _ _=>hK _|exact hn
theorem Gv (hn:Rel none none){p:Option PV}{d:Nat}{K:Nat->Option R}{K':Nat->Option R'}(hK:∀n,Rel (K n) (K' n)):Rel (Kz p d K) (Kz p d K'):=by
 unfold Kz;split
 ·exact hK _
 ·exact Dm hn fun _ _=>A5 hn fun _=>hK _
theorem Zl (hn:Rel none none){x:PV}{d:Nat}{K:PV->Option R}{K':PV->Option R'}(hK:∀n,Rel (K n) (K' n)):Rel (Si x d K) (Si x d K'):=by
 unfold Si;split<;>first|exact hK _|exact hn
theorem HD (hn:Rel none none){P:Program}{t:TypeId}{x:PV}{i:Int}{K:PV->Option R}{K':PV->Option R'}(hK:∀p,Rel (K p) (K' p)):Rel (Jl P t x i K) (Jl P t x i K'):=by
 unfold Jl;split
 ·exact A5 hn fun _=>A5 hn fun _=>Zl hn hK
 ·refine A5 hn fun _=>?_
  split
  ·exact A5 hn fun _=>A5 hn fun _=>hK _
  ·exact Fh hn fun _ _ _=>A5 hn fun _=>hK _
 ·exact hn
theorem Z9 (hn:Rel none none){Gn:Nat->Option (Nat × Nat)}:∀{ps:List (Nat × PV)} {cells:List PV}{K:List PV->Option R}{K':List PV->Option R'},(∀c,Rel (K c) (K' c))->Rel (Tk Gn ps cells K) (Tk Gn ps cells K')
 |[],_,_,_,hK=>hK _
 |(_,_)::_,_,_,_,hK=>Db hn fun _ _=>A5 hn fun _=>Z9 hn hK
theorem Tq (hn:Rel none none){P:Program}{t:TypeId}{K:List PV->Option R}{K':List PV->Option R'}(hK:∀p,Rel (K p) (K' p)):Rel (Gl P t K) (Gl P t K'):=
 Db hn fun _ _=>A5 hn fun _=>Qx hn hK
theorem Ae5 (hn:Rel none none){x y:PV}{K:PV->Option R}{K':PV->Option R'}(hK:∀p,Rel (K p) (K' p)):Rel (Ag6 x y K) (Ag6 x y K'):=
 Dm hn fun _ _=>Ho hn fun _=>hK _
theorem Afo (hn:Rel none none){x y:PV}{K:PV->Option R}{K':PV->Option R'}(hK:∀p,Rel (K p) (K' p)):Rel (Ahg x y K) (Ahg x y K'):=
 Dm hn fun _ _=>Ho hn fun _=>hK _
theorem Ac5 (hn:Rel none none){P:Program}{t:TypeId}{x:PV}{K:Nat->Option R}{K':Nat->Option R'}(hK:∀p,Rel (K p) (K' p)):Rel (Abk P t x K) (Abk P t x K'):=by
 unfold Abk;split
 ·exact Fu hn fun _=>hK _
 ·exact hK _
 ·split
  ·exact A5 hn fun _=>hK _
  ·exact Fh hn fun _ _ _=>hK _
 ·exact hn
def QB (Rel:Option R->Option R'->Prop)(f f':Nat->Option (List PV)) (l:List Nat):Prop:=∀i∈l,f i=f' i∨(f i=none∧∀b,Rel none b)
variable {f f':Nat->Option (List PV)}
theorem QB.sub {l l':List Nat}(h:QB Rel f f' l)(hs:∀i∈l',i∈l):QB Rel f f' l':=fun i hi=>h i (hs i hi)
theorem Y2 (hn:Rel none none){l:List Nat}{id:Nat}(hf:QB Rel f f' l)(hi:id∈l){K:List PV->Option R}{K':List PV->Option R'}(hK:∀c,f id=some c->Rel (K c) (K' c)):Rel (D3 (f id) K) (D3 (f' id) K'):=by
 rcases hf id hi with h|⟨h,hb⟩
 ·rw [←h];exact Db hn hK
 ·rw [h];exact hb _
theorem Xh (hn:Rel none none){es:Nat}{p:PV}{K:Nat->List PV->Option R}{K':Nat->List PV->Option R'}(hf:QB Rel f f' (Aq p)) (hK:∀n c,Rel (K n c) (K' n c)):Rel (UK f es p K) (UK f' es p K'):=by
 unfold UK;split
 ·rename_i id es' off n;cases Nat.beq es' es
  ·exact hn
  ·exact Y2 hn hf (by simp [Aq]) fun _ _=>A5 hn fun _=>hK _ _
 ·exact Fh hn fun _ _ _=>hK _ _
theorem Adk (hn:Rel none none){t:CT}{p:PV}{K:PV->List Nat->Option R}{K':PV->List Nat->Option R'}(hf:QB Rel f f' (Aq p)) (hK:∀c m,(∀i∈m,f i≠none)->Rel (K c m) (K' c m)):Rel (Od f t p K) (Od f' t p K'):=by
 unfold Od;split
 ·split
  ·rename_i id es' off n;cases Nat.beq es' _
   ·exact hn
   ·exact Y2 hn hf (by simp [Aq]) fun c hc=>A5 hn fun _=>hK _ _ (by simp [hc])
  ·exact Fh hn fun _ _ _=>hK _ _ (by simp)
 ·exact O0 hn fun _=>hK _ _ (by simp)
theorem Ub (hn:Rel none none):∀{ts:List CT}{ps:List PV}{K:List PV->List Nat->Option R}{K':List PV->List Nat->Option R'},QB Rel f f' (ps.flatMap Aq)->(∀c m,(∀i∈m,f i≠none)->Rel (K c m) (K' c m))->Rel (Ms f ts ps K) (Ms f' ts ps K')
 |[],[],_,_,_,hK=>hK _ _ (by simp)
 |[],_::_,_,_,_,_=>hn
 |_::_,[],_,_,_,_=>hn
 |_::_,p::ps,_,_,hf,hK=>Adk hn (fun i hi=>hf i (by simp only [List.flatMap_cons,List.mem_append];exact .inl hi)) fun _ m hm=>Ub hn (fun i hi=>hf i (by simp only [List.flatMap_cons,List.mem_append];exact .inr hi)) fun _ ms hms=>hK _ _ fun i hi=>by
   rcases List.mem_append.1 hi with h|h
   ·exact hm i h
   ·exact hms i h
theorem Ac7 (hn:Rel none none){P:Program}{t:TypeId}{p:PV}{K:PV->List Nat->Option R}{K':PV->List Nat->Option R'}(hf:QB Rel f f' (B3 p)) (hK:∀c m,(∀i∈m,f i≠none)->Rel (K c m) (K' c m)):Rel (WQ P f t p K) (WQ P f' t p K'):=by
 unfold WQ
 have h1:∀i,i∈[p].flatMap Aq->i∈B3 p:=by
  intro i hi;simp only [List.flatMap_cons,List.flatMap_nil,List.append_nil] at hi;cases p<;>first|exact hi|simp [Aq] at hi
 cases Ck P t
 ·exact Ub hn (fun i hi=>hf i (h1 i hi)) fun _ _ hm=>Bg hn fun _ _ _=>Em hn (hK _ _ hm)
 ·refine Ip hn fun c hc=>?_
  subst hc;exact Ub hn (fun i hi=>hf i hi) fun _ _ hm=>hK _ _ hm
theorem KQ (hn:Rel none none){P:Program}:∀{ts:List TypeId}{ps:List PV}{K:List PV->List Nat->Option R}{K':List PV->List Nat->Option R'},QB Rel f f' (ps.flatMap B3)->(∀c m,(∀i∈m,f i≠none)->Rel (K c m) (K' c m))->Rel (FK P f ts ps K) (FK P f' ts ps K')
 |[],[],_,_,_,hK=>hK _ _ (by simp)
 |[],_::_,_,_,_,_=>hn
 |_::_,[],_,_,_,_=>hn
 |_::_,p::ps,_,_,hf,hK=>Ac7 hn (fun i hi=>hf i (by simp only [List.flatMap_cons,List.mem_append];exact .inl hi)) fun _ m hm=>KQ hn (fun i hi=>hf i (by simp only [List.flatMap_cons,List.mem_append];exact .inr hi)) fun _ ms hms=>hK _ _ fun i hi=>by
   rcases List.mem_append.1 hi with h|h
   ·exact hm i h
   ·exact hms i h
theorem VA (hn:Rel none none){P:Program}{t:TypeId}{x:PV}{lo hi:Option PV}{K:PV->Option R}{K':PV->Option R'}(hf:(∃n e,P.underlying t=some (.array n e))->QB Rel f f' (Aq x)) (hK:∀c,Rel (K c) (K' c)):Rel (Zj P f t x lo hi K) (Zj P f' t x lo hi K'):=by
 unfold Zj;split
 ·exact Fu hn fun _=>Gv hn fun _=>Gv hn fun _=>A5 hn fun _=>hK _
 ·refine A5 hn fun _=>?_
  split
  ·exact A5 hn fun _=>Gv hn fun _=>Gv hn fun _=>A5 hn fun _=>hK _
  ·exact Fh hn fun _ _ _=>Gv hn fun _=>Gv hn fun _=>A5 hn fun _=>hK _
 ·rename_i n e hu;refine A5 hn fun _=>?_
  split
  ·rename_i id off;exact Y2 hn (hf ⟨_,_,hu⟩) (by simp [Aq]) fun _ _=>A5 hn fun _=>Gv hn fun _=>Gv hn fun _=>A5 hn fun _=>hK _
  ·exact hn
 ·exact hn
theorem KO {g g':Nat->Option (List PV)} (hn:Rel none none){P:Program}{t:TypeId}{x:PV}{K:PV->Option R}{K':PV->Option R'}(hf:∀i∈Aq x,(f i=f' i∧g i=g' i)∨(f i=none∧g i=none∧∀b,Rel none b)) (hK:∀c,Rel (K c) (K' c)):Rel (Xf P f g t x K) (Xf P f' g' t x K'):=by
 unfold Xf;split
 ·rename_i id off;refine A5 hn fun _=>?_
  rcases hf id (by simp [Aq]) with ⟨h1,h2⟩|⟨h1,h2,h3⟩
  ·rw [←h1,←h2];split
   ·exact Qx hn fun _=>W6 hn fun _=>hK _
   ·exact Db hn fun _ _=>Nj hn fun _=>W6 hn hK
  ·rw [h1,h2];exact h3 _
 ·exact A5 hn fun _=>Qx hn fun _=>W6 hn fun _=>hK _
 ·exact hn
theorem Ab2 (hn:Rel none none){P:Program}{d:Nat}{src dst:TypeId}{x:PV}{K:PV->List (Nat × Bj)->Option R} {K':PV->List (Nat × Bj)->Option R'} (hf:P.underlying dst=some .string->QB Rel f f' (Aq x)) (hK:∀v b,(∀q∈b,q.1=d)->Rel (K v b) (K' v b)):Rel (FF P f d src dst x K) (FF P f' d src dst x K'):=by
 unfold FF;split
 ·exact A5 hn fun _=>Dm hn fun _ _=>hK _ _ (by simp)
 ·rename_i hds;split
  ·exact Fu hn fun _=>hK _ _ (by simp)
  ·split
   ·exact Xh hn (hf hds) fun _ _=>A5 hn fun _=>Db hn fun _ _=>hK _ _ (by simp)
   ·exact hn
  ·exact hn
 ·split
  ·exact Fu hn fun _=>A5 hn fun _=>hK _ _ (by simp)
  ·exact hn
 ·exact hn
theorem Adz (hn:Rel none none){shr:Bool}{id:Nat}{t:CT}{p:PV}{K:PV->List (Nat × Bj)->Option R} {K':PV->List (Nat × Bj)->Option R'} (hK:∀c b,(∀q∈b,q.1=id)->Rel (K c b) (K' c b)):Rel (Aej shr id t p K) (Aej shr id t p K'):=by
 unfold Aej;split
 ·cases shr
  ·exact YI hn fun _ _=>hK _ _ (by simp)
  ·exact Fh hn fun _ _ _=>hK _ _ (by simp)
 ·exact O0 hn fun _=>hK _ _ (by simp)
theorem Ua (hn:Rel none none){shr:Bool}{N:Nat}:∀{ts:List CT}{id:Nat}{ps:List PV}{K:List PV->List (Nat × Bj)->Option R} {K':List PV->List (Nat × Bj)->Option R'},(∀c b,(∀q∈b,∃j,q.1=id+N*j)->Rel (K c b) (K' c b))->Rel (P0 shr N id ts ps K) (P0 shr N id ts ps K')
 |[],_,_,_,_,hK=>Em hn (hK _ _ (by simp))
 |_::_,id,_,_,_,hK=>Bg hn fun _ _ _=>Adz hn fun _ b hb=>Ua hn fun _ bs hbs=>hK _ _ fun q hq=>by
   rcases List.mem_append.1 hq with h|h
   ·exact ⟨0,by rw [hb q h];simp⟩
   ·obtain ⟨j,hj⟩:=hbs q h;exact ⟨j+1,by rw [hj,Nat.mul_add];omega⟩
theorem Ac4 (hn:Rel none none){P:Program}{shr:Bool}{N id:Nat}{t:TypeId}{p:PV}{K:PV->List (Nat × Bj)->Option R} {K':PV->List (Nat × Bj)->Option R'} (hK:∀c b,(∀q∈b,∃j,q.1=id+N*j)->Rel (K c b) (K' c b)):Rel (Aag P shr N id t p K) (Aag P shr N id t p K'):=by
 unfold Aag;split
 ·refine Abv hn fun ps=>Ua hn fun _ _ hb=>hK _ _ fun q hq=>?_
  rcases List.mem_cons.1 hq with rfl|hq
  ·exact ⟨0,by simp⟩
  ·obtain ⟨j,hj⟩:=hb q hq;exact ⟨j+1,by rw [hj,Nat.mul_add];omega⟩
 cases Ck P t
 ·exact Ua hn fun _ _ hb=>Bg hn fun _ _ _=>Em hn (hK _ _ hb)
 ·exact Ip hn fun _ _=>Ua hn fun _ _ hb=>hK _ _ hb
theorem Zq (hn:Rel none none){P:Program}{shr:Bool}{N:Nat}:∀{ts:List TypeId}{id:Nat}{ps:List PV}{K:List PV->List (Nat × Bj)->Option R} {K':List PV->List (Nat × Bj)->Option R'},(∀c b,(∀q∈b,∃j,q.1=id+N*j)->Rel (K c b) (K' c b))->Rel (BV P shr N id ts ps K) (BV P shr N id ts ps K')
 |[],_,_,_,_,hK=>Em hn (hK _ _ (by simp))
 |t::_,id,_,_,_,hK=>Bg hn fun _ _ _=>Ac4 hn fun _ b hb=>Zq hn fun _ bs hbs=>hK _ _ fun q hq=>by
   rcases List.mem_append.1 hq with h|h
   ·exact hb q h
   ·obtain ⟨j,hj⟩:=hbs q h;exact ⟨RA P t+j,by rw [hj,Nat.mul_add];omega⟩
end
theorem Sj {p:PV}{i:Nat}(h:i∈Aq p):i∈B3 p:=by cases p<;>first|exact h|simp [Aq] at h
theorem Ff {p:PV}{i:Nat}(h:i∈B3 p):i∈Bo p:=by cases p<;>first|exact h|simp [B3,Aq] at h
theorem Jp {p:PV}{i:Nat}(h:i∈Aq p):i∈Bo p:=Ff (Sj h)
section
variable {R R':Type} {Rel:Option R->Option R'->Prop} {P:Program} {N:Nat} {tm tm':Nat->PV} {f f' g g':Nat->Option (List PV)} {o:Oper}
theorem GQ (hn:Rel none none){t:TypeId}{x:Operand}{K:PV->Option R}{K':PV->Option R'}(hx:B7 tm x=B7 tm' x)(hK:∀p,Rel (K p) (K' p)):Rel (Zo P t tm x K) (Zo P t tm' x K'):=by
 unfold Zo;split
 ·exact Ahv hn (fun _ _=>hK _) (fun _=>hK _)
 ·rw [hx];exact hK _
theorem Ae7 (hn:Rel none none){t:CT}{p:PV}{K:PV->Option R}{K':PV->Option R'}(hK:∀p,Aq p=[]->Rel (K p) (K' p)):Rel (AY t p K) (AY t p K'):=by
 unfold AY;split
 ·exact Ho hn fun _=>hK _ rfl
 ·exact Gd hn fun _=>hK _ rfl
 ·exact Fu hn fun _=>hK _ rfl
 ·exact Fh hn fun _ _ _=>hK _ rfl
 ·exact ZT hn fun _=>hK _ rfl
theorem LM (hn:Rel none none):∀{ts:List CT}{cells:List PV}{off:Nat}{K:List PV->Option R}{K':List PV->Option R'},(∀c,(∀p∈c,Aq p=[])->Rel (K c) (K' c))->Rel (S2 ts cells off K) (S2 ts cells off K')
 |[],_,_,_,_,hK=>hK _ (by simp)
 |_::_,_,_,_,_,hK=>Ae7 hn fun c hc=>LM hn fun cs hcs=>hK _ (by
   intro p hp;rcases List.mem_cons.1 hp with h|h
   ·rw [h];exact hc
   ·exact hcs p h)
theorem W5 (hn:Rel none none){t:TypeId}{K:List PV->Option R}{K':List PV->Option R'}(hK:∀c,(∀p∈c,Aq p=[])->Rel (K c) (K' c)):Rel (Gl P t K) (Gl P t K'):=
 Db hn fun _ _=>A5 hn fun _=>LM hn hK
theorem S8 {p c:PV}(h:c∈cellsOf p){i:Nat}(hi:i∈Aq c):i∈B3 p:=by
 unfold cellsOf at h;split at h
 ·exact List.mem_flatMap.2 ⟨c,h,hi⟩
 ·simp at h;subst h;exact Sj hi
theorem XQ {cells new:List PV}{off:Nat}{c:PV}(h:c∈Bd cells new off):c∈cells∨c∈new:=by
 unfold Bd at h;rcases List.mem_append.1 h with h|h
 ·rcases List.mem_append.1 h with h|h
  ·exact .inl (List.mem_of_mem_take h)
  ·exact .inr h
 ·exact .inl (List.mem_of_mem_drop h)
theorem FS (hn:Rel none none){Gn:Nat->Option (Nat × Nat)} {S:Nat->Prop}:∀{ps:List (Nat × PV)} {cells:List PV}{K:List PV->Option R}{K':List PV->Option R'},(∀c∈cells,∀i∈Aq c,S i)->(∀q∈ps,∀i∈B3 q.2,S i) ->
  (∀cs,(∀c∈cs,∀i∈Aq c,S i)->Rel (K cs) (K' cs))->Rel (Tk Gn ps cells K) (Tk Gn ps cells K')
 |[],_,_,_,h1,_,hK=>hK _ h1
 |(_,p)::_,_,_,_,h1,h2,hK=>Db hn fun _ _=>A5 hn fun _=>FS hn (fun c hc i hi=>by
   rcases XQ hc with h|h
   ·exact h1 c h i hi
   ·exact h2 (_,p) List.mem_cons_self i (S8 h hi)) (fun q hq=>h2 q (List.mem_cons_of_mem _ hq)) hK
theorem BW (hn:Rel none none):∀{ts:List CT}{ps:List PV}{K:List PV->List Nat->Option R}{K':List PV->List Nat->Option R'},(∀t∈ts,∀es,t ≠ .sl es)->(∀c,Rel (K c []) (K' c []))->Rel (Ms g ts ps K) (Ms g' ts ps K')
 |[],[],_,_,_,hK=>hK _
 |[],_::_,_,_,_,_=>hn
 |_::_,[],_,_,_,_=>hn
 |t::ts,p::ps,K,K',ht,hK=>by
  show Rel (Od g t p _) (Od g' t p _)
  have:∀{g:Nat->Option (List PV)} {S:Type} {L:PV->List Nat->Option S},Od g t p L=AY t p fun c=>L c []:=by
   intro g S L;cases t with
   |sl es=>exact absurd rfl (ht _ (by simp) es)
   |_=>rfl
  rw [this,this];exact O0 hn fun c=>BW hn (fun t h=>ht t (by simp [h])) fun cs=>hK _
theorem Aff (hn:Rel none none){es:Nat}{t:TypeId}{x:PV}{K:Nat->List PV->Option R}{K':Nat->List PV->Option R'}(hx:QB Rel g g' (Aq x)) (hK:∀m c,Rel (K m c) (K' m c)):Rel (UO P g es t x K) (UO P g' es t x K'):=by
 unfold UO;split
 ·exact A5 hn fun _=>Fu hn fun _=>hK _ _
 ·exact Xh hn hx hK
 ·exact hn
theorem Aes (hn:Rel none none){t:TypeId}{x:PV}{K:Nat->Option R}{K':Nat->Option R'}(hK:∀n,Rel (K n) (K' n)):Rel (Ab1 P t x K) (Ab1 P t x K'):=by
 unfold Ab1;split
 ·exact Fh hn fun _ _ _=>A5 hn fun _=>hK _
 ·exact hn
theorem SQ (hn:Rel none none){d:Nat}{t tx:TypeId}{x:PV}{K:PV->List (Nat × Bj)->Option R} {K':PV->List (Nat × Bj)->Option R'} (hx:QB Rel g g' (Aq x)) (hK:∀v nw,Rel (K v nw) (K' v nw)):Rel (Ud P g d t tx x K) (Ud P g' d t tx x K'):=by
 unfold Ud;split
 ·exact A5 hn fun _=>Aff hn hx fun _ _=>A5 hn fun _=>hK _ _
 ·exact hn
theorem GL (hn:Rel none none){C:Gi}{call:Ah}{K:PV->List Nat->List (Nat × Bj)->Option R} {K':PV->List Nat->List (Nat × Bj)->Option R'}
  (htm:∀x∈o.op.operands.toList,B7 tm x=B7 tm' x)
  (hfg:Hb P o.op=true->∀x∈o.op.operands.toList,∀i∈Bo (B7 tm' x),(f i=f' i∧g i=g' i)∨(f i=none∧g i=none∧∀b,Rel none b))
  (hK:∀v fz nw,(Hb P o.op=false->fz=[]∧∀q∈nw,o.dst=some q.1)->(∀i∈fz,g i≠none)->Rel (K v fz nw) (K' v fz nw)):
  Rel (HY C P N call tm f g o K) (HY C P N call tm' f' g' o K'):=by
 have h0:∀v,Rel (K v [] []) (K' v [] []):=fun v=>hK v [] [] (fun _=>⟨rfl,by simp⟩) (by simp)
 have hf:Hb P o.op=true->∀x∈o.op.operands.toList,QB Rel f f' (Bo (B7 tm' x)):=fun h x hx i hi=>(hfg h x hx i hi).imp (·.1) fun h=>⟨h.1,h.2.2⟩
 have hg:Hb P o.op=true->∀x∈o.op.operands.toList,QB Rel g g' (Bo (B7 tm' x)):=fun h x hx i hi=>(hfg h x hx i hi).imp (·.2) fun h=>⟨h.2.1,h.2.2⟩
 unfold HY;generalize hop:o.op=op at *
 split
 ·exact GQ hn (htm _ (by simp [Op.operands])) h0
 ·exact GQ hn (htm _ (by simp [Op.operands])) h0
 ·rename_i c x y;rw [htm c (by simp [Op.operands]),htm x (by simp [Op.operands]),htm y (by simp [Op.operands])]
  exact Gd hn fun _=>EM (h0 _) (h0 _)
 ·exact Db hn fun d hd=>Tq hn fun _=>hK _ _ _ (fun _=>⟨rfl,by simp [hd]⟩) (by simp)
 ·rename_i t x;rw [htm x (by simp [Op.operands])]
  refine Db hn fun d hd=>A5 hn fun _=>?_
  cases Ss P t
  ·exact Nj hn fun _=>hK _ _ _ (fun _=>⟨rfl,by simp [hd]⟩) (by simp)
  ·exact Qx hn fun _=>hK _ _ _ (fun _=>⟨rfl,by simp [hd]⟩) (by simp)
 ·rename_i t ps
  have:(ps.toList.map fun q=>(q.1,B7 tm q.2))=ps.toList.map fun q=>(q.1,B7 tm' q.2):=by
   apply List.map_congr_left;intro q hq;rw [htm q.2 (by simp only [Op.operands];exact List.mem_map_of_mem hq)]
  rw [this];exact A5 hn fun _=>Tq hn fun _=>Z9 hn fun _=>Nj hn fun _=>h0 _
 ·rename_i t n ps
  have:(ps.toList.map fun q=>(q.1,B7 tm q.2))=ps.toList.map fun q=>(q.1,B7 tm' q.2):=by
   apply List.map_congr_left;intro q hq;rw [htm q.2 (by simp only [Op.operands];exact List.mem_map_of_mem hq)]
  rw [this];refine Db hn fun d hd=>?_
  split
  ·rename_i e hu;cases hsl:Im P [e]
   ·refine A5 hn fun _=>W5 hn fun z hz=>Z9 hn fun cs=>BW hn ?_ fun cs'=>hK _ _ _ (fun _=>⟨rfl,by simp [hd]⟩) (by simp)
    intro c hc es he;obtain ⟨l,hl,hc⟩:=List.mem_flatten.1 hc;rw [List.eq_of_mem_replicate hl] at hc;subst he
    have:Im P [e]=true:=by
     unfold Im;simp only [List.any_cons,List.any_nil,Bool.or_false,Bool.or_eq_true];exact .inr (List.any_eq_true.2 ⟨_,hc,rfl⟩)
    rw [this] at hsl;cases hsl
   refine A5 hn fun _=>W5 hn fun z hz=>FS (S:=fun i=>∃x∈(Op.buildSlice t n ps).operands.toList,i∈Bo (B7 tm' x)) hn ?_ ?_ fun cs hcs=>?_
   ·intro c hc i hi;obtain ⟨l,hl,hc⟩:=List.mem_flatten.1 hc;rw [List.eq_of_mem_replicate hl] at hc;rw [hz c hc] at hi;simp at hi
   ·intro q hq i hi;obtain ⟨q',hq',rfl⟩:=List.mem_map.1 hq;exact ⟨q'.2,by simp only [Op.operands];exact List.mem_map_of_mem hq',Ff hi⟩
   ·refine Ub hn (fun i hi=>?_) fun cs' m hm=>hK _ _ _ (fun h=>by simp [Hb,hu,hsl] at h) hm
    obtain ⟨c,hc,hi⟩:=List.mem_flatMap.1 hi;obtain ⟨x,hx,hxi⟩:=hcs c hc i hi;exact hg (by simp [Hb,hu,hsl]) x hx i hxi
  ·exact hn
 ·rename_i t x;rw [htm x (by simp [Op.operands])]
  exact KO hn (fun i hi=>hfg (by simp [Hb]) x (by simp [Op.operands]) i (Jp hi)) h0
 ·rename_i x;rw [htm x (by simp [Op.operands])]
  exact Zl hn h0
 ·rename_i op' t x y _;rw [htm x (by simp [Op.operands]),htm y (by simp [Op.operands])]
  exact TE hn h0
 ·rename_i op' t x;rw [htm x (by simp [Op.operands])]
  exact Ahh hn h0
 ·rename_i src dst x;rw [htm x (by simp [Op.operands])]
  exact Ab2 hn (fun hds i hi=>hg (by simp [Hb,hds]) x (by simp [Op.operands]) i (Jp hi)) fun v b hb=>Db hn fun d hd=>hK _ _ _ (fun _=>⟨rfl,fun q hq=>by rw [hd,hb q hq,hd];rfl⟩) (by simp)
 ·rename_i t x y;rw [htm x (by simp [Op.operands]),htm y (by simp [Op.operands])]
  refine Db hn fun d hd=>?_
  split
  ·exact Dm hn fun _ _=>Dm hn fun _ _=>A5 hn fun _=>Tq hn fun _=>hK _ _ _ (fun _=>⟨rfl,by simp [hd]⟩) (by simp)
  ·exact hn
 ·rename_i t x lo hi mx;split
  ·rw [htm x (by simp [Op.operands])]
   have h1:lo.map (B7 tm)=lo.map (B7 tm'):=by
    cases lo with
    |none=>rfl
    |some y=>simp only [Option.map_some];rw [htm y (by simp [Op.operands])]
   have h2:hi.map (B7 tm)=hi.map (B7 tm'):=by
    cases hi with
    |none=>rfl
    |some y=>simp only [Option.map_some];rw [htm y (by simp [Op.operands])]
   rw [h1,h2];exact VA hn (fun ⟨n,e,he⟩ i hi=>hf (by simp [Hb,he]) x (by simp [Op.operands]) i (Jp hi)) h0
  ·exact hn
 ·rename_i t x fl;rw [htm x (by simp [Op.operands])]
  exact Db hn fun _ _=>A5 hn fun _=>Zl hn h0
 ·rename_i t x fl;rw [htm x (by simp [Op.operands])]
  exact Db hn fun _ _=>A5 hn fun _=>Ip hn fun _ _=>Nj hn fun _=>W6 hn h0
 ·rename_i t x i;rw [htm x (by simp [Op.operands]),htm i (by simp [Op.operands])]
  exact Dm hn fun _ _=>HD hn h0
 ·rename_i t x i;rw [htm x (by simp [Op.operands]),htm i (by simp [Op.operands])]
  refine Dm hn fun _ _=>?_
  split
  ·exact Fu hn fun _=>A5 hn fun _=>Db hn fun _ _=>h0 _
  ·exact Ip hn fun _ _=>A5 hn fun _=>Nj hn fun _=>W6 hn h0
  ·exact hn
 ·rename_i x i;rw [htm x (by simp [Op.operands])]
  split
  ·exact Db hn fun _ _=>h0 _
  ·exact hn
 ·rename_i c
  have hmem:∀x∈c.args.toList,x∈(Op.call c).operands.toList:=by
   intro x hx;simp only [Op.operands,Call.operands,Array.toList_append,List.mem_append];exact .inr hx
  have rc:∀fn,Hb P (.call c)=true->Rel (HF C P N call tm g o c fn K) (HF C P N call tm' g' o c fn K'):=by
   intro fn hmm;unfold HF;have:c.args.toList.map (B7 tm)=c.args.toList.map (B7 tm'):=List.map_congr_left fun x hx=>htm x (hmem x hx)
   rw [this];refine KQ hn (fun i hi=>?_) fun vs m hm=>NH hn fun rv ro=>Em hn (A5 hn fun _=>Zq hn fun ws bs hbs=>A5 hn fun _=>hK _ _ _ (fun h=>by rw [hmm] at h;cases h) (fun i hi=>?_))
   ·obtain ⟨p,hp,hi⟩:=List.mem_flatMap.1 hi;obtain ⟨x,hx,rfl⟩:=List.mem_map.1 hp;exact hg hmm x (hmem x hx) i (Ff hi)
   ·have hi':i∈m:=by
     cases hq:Im P (Mt P o.type)<;>rw [hq] at hi
     ·simp at hi
     ·exact hi
    exact hm i hi'
  split
  ·refine Bg hn fun x _ hx=>Bg hn fun _ _ _=>?_
   rw [htm x (hmem x (by rw [hx];simp))]
   exact Ac5 hn fun _=>h0 _
  ·refine Bg hn fun x _ hx=>Bg hn fun _ _ _=>?_
   rw [htm x (hmem x (by rw [hx];simp))]
   exact Aes hn fun _=>h0 _
  ·refine Bg hn fun x _ hx=>Bg hn fun y _ hy=>Em hn ?_
   subst hy;rw [htm x (hmem x (by rw [hx];simp)),htm y (hmem y (by rw [hx];simp))]
   exact Ae5 hn h0
  ·refine Bg hn fun x _ hx=>Bg hn fun y _ hy=>Em hn ?_
   subst hy;rw [htm x (hmem x (by rw [hx];simp)),htm y (hmem y (by rw [hx];simp))]
   exact Afo hn h0
  ·rename_i hc;have hmm:Hb P (.call c)=true:=by simp [Hb,hc]
   refine A5 hn fun _=>Db hn fun d hd=>Bg hn fun _ _ hb=>Bg hn fun x _ hx=>Em hn (Bg hn fun _ _ _=>Bg hn fun _ _ _=>?_)
   have hxm:x∈c.args.toList:=by rw [hb,hx];simp
   rw [htm x (hmem x hxm)];exact SQ hn (fun i hi=>hg hmm x (hmem x hxm) i (Jp hi)) fun v nw=>hK _ _ _ (fun h=>by rw [hmm] at h;cases h) (by simp)
  ·rename_i fn hc;have hmm:Hb P (.call c)=true:=by simp [Hb,hc]
   exact rc fn hmm
  ·rename_i t hc;have hmm:Hb P (.call c)=true:=by simp [Hb,hc]
   have ht:=htm (.tmp t) (by simp [Op.operands,Call.operands,hc])
   change tm t=tm' t at ht;rw [ht];exact Agz hn fun fn=>rc fn hmm
  ·exact hn
 ·exact hn
variable {hp:Nat->Option Bj}
end
open Go.RowKit
abbrev Wm:=PV × List Nat × List (Nat × Bj)
def Fk (ops:Array Oper)(o:Oper)(tm:Nat->PV):Option Bool:=
 match o.guard with
 |none=>some true
 |some (j,want)=>
  match (ops[j]?).bind (·.dst) with
  |none=>none
  |some d=>
   match tm d with
   |.sc (.bool b)=>some (b==want)
   |.sc (.tuple _)=>some false
   |_=>none
section
variable {R:Type} {r:R} {C:Gi} {P:Program} {N:Nat} {call:Ah} {ops:Array Oper} {o x:Oper} {s:St} {K:St->Option R}
theorem EI:C6 C P N call ops o s K=match Fk ops o s.tm with
  |none=>none
  |some true=>QH C P N call o s K
  |some false=>Ao (F4 N o.dst) (K ⟨Bk s.tm o.dst (.sc undef),s.hp⟩):=by
 unfold C6 Fk;cases o.guard with
 |none=>rfl
 |some q=>
  obtain ⟨j,want⟩:=q;cases hd:(ops[j]?).bind (·.dst) with
  |none=>simp [hd]
  |some d=>
   simp only [hd];cases ht:s.tm d with
   |sc v=>
    cases v with
    |bool b=>
     cases b<;>cases want<;>simp only [Bc,cond_true,cond_false,Yu s.tm ht]<;>rfl
    |_=>rfl
   |_=>rfl
def Acr (C:Gi)(P:Program)(N:Nat)(call:Ah)(o:Oper)(s:St):Option Wm:=
 HY C P N call s.tm (rd s.hp) (I5 s.hp) o fun v fz nw=>some (v,fz,nw)
theorem Ag2 {K:PV->List Nat->List (Nat × Bj)->Option R}:HY C P N call s.tm (rd s.hp) (I5 s.hp) o K=(Acr C P N call o s).bind fun q=>K q.1 q.2.1 q.2.2:=by
 refine GL (Rel:=fun (a:Option R) (b:Option Wm)=>a=b.bind fun q=>K q.1 q.2.1 q.2.2) (K:=K) (K':=fun v fz nw=>some (v,fz,nw)) rfl (fun _ _=>rfl) (fun _ _ _ _ _=>.inl ⟨rfl,rfl⟩) fun v fz nw _ _=>rfl
theorem UL {q:Wm}(h:Acr C P N call o s=some q):(Hb P o.op=false->q.2.1=[]∧∀p∈q.2.2,o.dst=some p.1)∧∀i∈q.2.1,I5 s.hp i≠none:=by
 have:=GL (C:=C) (P:=P) (N:=N) (call:=call) (o:=o) (tm:=s.tm) (tm':=s.tm) (f:=rd s.hp) (f':=rd s.hp) (g:=I5 s.hp) (g':=I5 s.hp)
  (Rel:=fun (a:Option Wm)(_:Option Wm)=>∀q,a=some q->(Hb P o.op=false->q.2.1=[]∧∀p∈q.2.2,o.dst=some p.1)∧∀i∈q.2.1,I5 s.hp i≠none)
  (K:=fun v fz nw=>some (v,fz,nw)) (K':=fun v fz nw=>some (v,fz,nw)) (fun _ h=>by cases h) (fun _ _=>rfl) (fun _ _ _ _ _=>.inl ⟨rfl,rfl⟩) (fun v fz nw h1 h2 q hq=>by cases hq;exact ⟨h1,h2⟩)
 exact this q h
def gE (C:Gi)(P:Program)(N:Nat)(call:Ah)(ops:Array Oper)(o:Oper)(s:St):Option Wm:=
 match Fk ops o s.tm with
 |none=>none
 |some true=>bif Rf C P o.op then none else Acr C P N call o s
 |some false=>some (.sc undef,[],[])
def Gh (C:Gi)(P:Program)(ops:Array Oper)(o:Oper)(tm:Nat->PV):Bool:=Rf C P o.op&&(Fk ops o tm==some true)
theorem Jy (h:Gh C P ops o s.tm=false):C6 C P N call ops o s K=(gE C P N call ops o s).bind fun q=>BD N s o.dst q.1 q.2.1 q.2.2 K:=by
 rw [EI];unfold gE;unfold Gh at h;cases hv:Fk ops o s.tm with
 |none=>rfl
 |some b=>
  rw [hv] at h;cases b with
  |false=>
   show Ao _ _=BD N s o.dst (.sc undef) [] [] K;unfold BD;have h1:Bq s.hp []=true:=rfl;have h2:At (Af s.hp []) []=s.hp:=rfl;rw [h1,h2,Bool.and_true]
  |true=>
   have hm:Rf C P o.op=false:=by simpa using h
   simp only [QH,hm,cond_false];exact Ag2
theorem H1 (h:Gh C P ops o s.tm=true):C6 C P N call ops o s K=Ur C P N call s o K:=by
 rw [EI];unfold Gh at h;simp only [Bool.and_eq_true,beq_iff_eq] at h;rw [h.2];simp only [QH,h.1,cond_true]
theorem Sn {q:Wm}(h:gE C P N call ops o s=some q):(Hb P o.op=false->q.2.1=[]∧∀p∈q.2.2,o.dst=some p.1)∧∀i∈q.2.1,I5 s.hp i≠none:=by
 unfold gE at h;split at h
 ·cases h
 ·cases hm:Rf C P o.op<;>rw [hm] at h
  ·exact UL h
  ·cases h
 ·cases h;exact ⟨fun _=>⟨rfl,by simp⟩,by simp⟩
theorem E5 {tm tm':Nat->PV}(h:∀t∈looks ops o,tm t=tm' t):∀y∈o.op.operands.toList,B7 tm y=B7 tm' y:=by
 intro y hy;cases y with
 |tmp t=>
  refine h t ?_;unfold looks Aet;refine List.mem_append.2 (.inl (List.mem_filterMap.2 ⟨.tmp t,hy,rfl⟩))
 |const v=>cases v<;>rfl
 |func f=>rfl
 |«global» g=>rfl
theorem J7 {tm tm':Nat->PV}(h:∀t∈looks ops o,tm t=tm' t):Fk ops o tm=Fk ops o tm':=by
 unfold Fk;cases hg:o.guard with
 |none=>rfl
 |some q=>
  obtain ⟨j,want⟩:=q;cases hd:(ops[j]?).bind (·.dst) with
  |none=>simp [hd]
  |some d=>
   have:tm d=tm' d:=h d (by
    unfold looks;rw [hg];refine List.mem_append.2 (.inr ?_);simp only [hd];simp)
   simp only [hd,this]
theorem Yn {s':St}{q:Wm}(ht:∀t∈looks ops o,s.tm t=s'.tm t)
  (hm:Hb P o.op=true->∀y∈o.op.operands.toList,∀i∈Bo (B7 s'.tm y),(rd s.hp i=rd s'.hp i∧I5 s.hp i=I5 s'.hp i)∨(rd s.hp i=none∧I5 s.hp i=none))
  (h:gE C P N call ops o s=some q):gE C P N call ops o s'=some q:=by
 unfold gE at h ⊢;rw [←J7 ht];split at h
 ·cases h
 ·cases hM:Rf C P o.op<;>rw [hM] at h
  ·have:=GL (C:=C) (P:=P) (N:=N) (call:=call) (o:=o) (tm:=s.tm) (tm':=s'.tm) (f:=rd s.hp) (f':=rd s'.hp) (g:=I5 s.hp) (g':=I5 s'.hp)
    (Rel:=fun (a b:Option Wm)=>a=some q->b=some q)
    (K:=fun v fz nw=>some (v,fz,nw)) (K':=fun v fz nw=>some (v,fz,nw)) (fun h=>h) (E5 ht)
    (fun hm' y hy i hi=>(hm hm' y hy i hi).imp id fun h=>⟨h.1,h.2,fun _ h=>by cases h⟩) (fun v fz nw _ _ h=>h)
   exact this h
  ·cases h
 ·exact h
end
open Go.RowKit
theorem P3:∀{nw:List (Nat × Bj)} {hp hp':Nat->Option Bj},Bq hp nw=true->(∀i b,(i,b)∈nw->hp' i=none)->Bq hp' nw=true
 |[],_,_,_,_=>rfl
 |(i,b)::nw,hp,hp',h,h'=>by
  simp only [Bq,Bool.and_eq_true,Option.isNone_iff_eq_none] at h ⊢;exact ⟨⟨h' i b (by simp),h.1.2⟩,P3 h.2 fun j c hj=>h' j c (by simp [hj])⟩
section
variable {hp:Nat->Option Bj} {fz:List Nat} {nw:List (Nat × Bj)}
theorem Fw (ha:Bq hp nw=true){i:Nat}(hi:hp i≠none):At (Af hp fz) nw i=if i∈fz then (hp i).map Sq else hp i:=by
 obtain ⟨h1,h2⟩:=Bm ha;rw [(D0 h2).2 i (fun bx hb=>hi (h1 i bx hb)),Bu]
theorem Ie (ha:Bq hp nw=true){i:Nat}{b:Bj}(hi:(i,b)∈nw):At (Af hp fz) nw i=some b:=
 (D0 (Bm ha).2).1 i b hi
theorem Nr (ha:Bq hp nw=true){i:Nat}(hi:hp i=none)(hn:∀b,(i,b) ∉ nw):At (Af hp fz) nw i=none:=by
 rw [(D0 (Bm ha).2).2 i hn,Bu,hi];simp
theorem M9 (ha:Bq hp nw=true){i:Nat}(hi:hp i≠none):At (Af hp fz) nw i≠none:=by
 rw [Fw ha hi];cases h:hp i with
 |none=>exact absurd h hi
 |some b=>split<;>simp
theorem Agk (b:Option Bj):(match b.map Sq with|some (.st c)=>some c|some (.ar _ c)=>some c|_=>none)=(match b with|some (.st c)=>some c|some (.ar _ c)=>some c|_=>none):=by
 cases b with
 |none=>rfl
 |some b=>cases b<;>rfl
theorem Ael (b:Option Bj):(match b.map Sq with|some (.ar _ c)=>some c|_=>none)=(match b with|some (.ar _ c)=>some c|_=>none):=by
 cases b with
 |none=>rfl
 |some b=>cases b<;>rfl
theorem SJ (ha:Bq hp nw=true){i:Nat}(hi:hp i≠none):rd (At (Af hp fz) nw) i=rd hp i:=by
 unfold rd;rw [Fw ha hi];by_cases h:i∈fz
 ·rw [if_pos h];exact Agk _
 ·rw [if_neg h]
theorem KP (ha:Bq hp nw=true){i:Nat}(hi:hp i≠none):I5 (At (Af hp fz) nw) i=I5 hp i:=by
 unfold I5;rw [Fw ha hi];by_cases h:i∈fz
 ·rw [if_pos h];exact Ael _
 ·rw [if_neg h]
theorem YT {i:Nat}(hi:hp i=none):rd hp i=none:=by unfold rd;rw [hi]
theorem Kd {i:Nat}(hi:hp i=none):I5 hp i=none:=by unfold I5;rw [hi]
theorem Ala (b:Option Bj):(b.map Sq).map Sq=b.map Sq:=by
 cases b with
 |none=>rfl
 |some b=>cases b<;>rfl
theorem VV {fx fo:List Nat}{nx no:List (Nat × Bj)} (hx:Bq hp nx=true)(ho:Bq (At (Af hp fx) nx) no=true) (ho':Bq hp no=true)
  (hx':Bq (At (Af hp fo) no) nx=true) (h1:∀i∈fx,hp i≠none)(h2:∀i∈fo,hp i≠none):
  At (Af (At (Af hp fx) nx) fo) no=At (Af (At (Af hp fo) no) fx) nx:=by
 funext i
 by_cases hi:hp i=none
 ·by_cases hno:∃b,(i,b)∈no
  ·obtain ⟨b,hb⟩:=hno
   have hnx:∀b',(i,b') ∉ nx:=fun b' hb'=>by
    have:=(Bm ho).1 i b hb;rw [Ie hx hb'] at this;cases this
   rw [Ie ho hb,Fw hx' (by rw [Ie ho' hb];simp),Ie ho' hb,if_neg (fun h=>h1 i h hi)]
  ·have hno:∀b,(i,b) ∉ no:=fun b hb=>hno ⟨b,hb⟩
   by_cases hnx:∃b,(i,b)∈nx
   ·obtain ⟨b,hb⟩:=hnx;rw [Ie hx' hb,Fw ho (by rw [Ie hx hb];simp),Ie hx hb,if_neg (fun h=>h2 i h hi)]
   ·have hnx:∀b,(i,b) ∉ nx:=fun b hb=>hnx ⟨b,hb⟩
    rw [Nr ho (Nr hx hi hnx) hno,Nr hx' (Nr ho' hi hno) hnx]
 ·rw [Fw ho (M9 hx hi),Fw hx hi,Fw hx' (M9 ho' hi),Fw ho' hi];split<;>split<;>first|rfl|rw [Ala]
end
section
variable {R:Type} {r:R} {C:Gi} {P:Program} {N:Nat} {call:Ah} {ops:Array Oper} {o x:Oper} {s:St} {K:St->Option R}
structure Yd (C:Gi) (P:Program) (ops:Array Oper) (x o:Oper):Prop where
 xo:∀d,x.dst=some d->d ∉ looks ops o
 ne:∀d,x.dst=some d->o.dst≠some d
 ox:∀d,o.dst=some d->d ∉ looks ops x
 mx:Rf C P x.op=true->Hb P o.op=false
 mo:Rf C P o.op=true->Hb P x.op=false
theorem Q0 {l:List Nat}{d:Nat}(h:l.any (Nat.beq d)=false):d ∉ l:=by
 intro hm;have:l.any (Nat.beq d)=true:=List.any_eq_true.2 ⟨d,hm,Nat.beq_refl d⟩;rw [this] at h;cases h
theorem Aei (h:HZ C P ops x o=false):Yd C P ops x o:=by
 unfold HZ at h;simp only [Bool.or_eq_false_iff,Bool.and_eq_false_iff] at h;obtain ⟨⟨⟨h1,h2⟩,h3⟩,h4⟩:=h;refine ⟨fun d hd=>?_,fun d hd he=>?_,fun d hd=>?_,fun hm=>?_,fun hm=>?_⟩
 ·simp only [hd,Bool.or_eq_false_iff] at h1;exact Q0 h1.1
 ·simp only [hd,he,Bool.or_eq_false_iff] at h1;rw [Nat.beq_refl] at h1;cases h1.2
 ·simp only [hd] at h2;exact Q0 h2
 ·rw [hm] at h3;rcases h3 with h|h
  ·cases h
  ·exact h
 ·rw [hm] at h4;rcases h4 with h|h
  ·cases h
  ·exact h
theorem Eb {tm:Nat->PV}{d:Option Tmp}{v:PV}{l:List Nat}(h:∀i,d=some i->i ∉ l):∀t∈l,Bk tm d v t=tm t:=by
 intro t ht;cases d with
 |none=>rfl
 |some d=>exact Ak _ _ (by rintro rfl;exact h _ rfl ht)
theorem Jn {tm:Nat->PV}{d e:Option Tmp}{u v:PV}(h:∀i,d=some i->e≠some i):Bk (Bk tm d u) e v=Bk (Bk tm e v) d u:=by
 cases d with
 |none=>rfl
 |some d=>
  cases e with
  |none=>rfl
  |some e=>exact RZ _ _ _ (by rintro rfl;exact h _ rfl rfl)
def UF (C:Gi)(P:Program)(o:Oper)(s:St):Prop:=(∀y∈o.op.operands.toList,∀i∈Bo (B7 s.tm y),s.hp i≠none) ∧
 (Rf C P o.op=true->Nb o.op=false->∀y∈o.op.operands.toList,∀i∈Bo (B7 s.tm y),∀c,s.hp i=some (.st c)->∀p∈c,∀k∈Aq p,s.hp k≠none)
theorem Gx {tm tm':Nat->PV}(h:∀t∈looks ops o,tm t=tm' t):Gh C P ops o tm=Gh C P ops o tm':=by
 unfold Gh;rw [J7 h]
theorem YP (hw:UF C P o s)(xo:∀d,x.dst=some d->d ∉ looks ops o)(ne:∀d,x.dst=some d->o.dst≠some d)(ox:∀d,o.dst=some d->d ∉ looks ops x)(hx:Gh C P ops x s.tm=false)(ho:Gh C P ops o s.tm=false)
  (h:C6 C P N call ops x s (fun s1=>C6 C P N call ops o s1 K)=some r):C6 C P N call ops o s (fun s1=>C6 C P N call ops x s1 K)=some r:=by
 rw [Jy hx] at h;cases ex:gE C P N call ops x s with
 |none=>rw [ex] at h;cases h
 |some q=>
 obtain ⟨vx,fx,nx⟩:=q;rw [ex] at h;obtain ⟨hb,h1⟩:=Am h;simp only [Bool.and_eq_true] at hb;have t1:∀t∈looks ops o,Bk s.tm x.dst vx t=s.tm t:=Eb xo;change C6 C P N call ops o ⟨Bk s.tm x.dst vx,At (Af s.hp fx) nx⟩ K=some r at h1;rw [Jy (by rw [Gx t1];exact ho)] at h1
 cases eo:gE C P N call ops o ⟨Bk s.tm x.dst vx,At (Af s.hp fx) nx⟩ with
 |none=>rw [eo] at h1;cases h1
 |some q=>
 obtain ⟨vo,fo,no⟩:=q;rw [eo] at h1;obtain ⟨hc,h2⟩:=Am h1;change K ⟨Bk (Bk s.tm x.dst vx) o.dst vo,At (Af (At (Af s.hp fx) nx) fo) no⟩=some r at h2;simp only [Bool.and_eq_true] at hc
 have eo':gE C P N call ops o s=some (vo,fo,no):=by
  refine Yn t1 (fun _ y hy i hi=>?_) eo
  have:=hw.1 y hy i hi;exact .inl ⟨SJ hb.2 this,KP hb.2 this⟩
 have ho':Bq s.hp no=true:=P3 hc.2 fun i b hi=>by
  cases hs:s.hp i with
  |none=>rfl
  |some c=>exact absurd ((Bm hc.2).1 i b hi) (M9 hb.2 (by rw [hs];simp))
 rw [Jy ho,eo']
 have hx':Bq (At (Af s.hp fo) no) nx=true:=P3 hb.2 fun i b hi=>by
  refine Nr ho' ((Bm hb.2).1 i b hi) fun c hc'=>?_
  have:=(Bm hc.2).1 i c hc';rw [Ie hb.2 hi] at this;cases this
 have t2:∀t∈looks ops x,s.tm t=Bk s.tm o.dst vo t:=fun t ht=>(Eb ox t ht).symm
 have ex':gE C P N call ops x ⟨Bk s.tm o.dst vo,At (Af s.hp fo) no⟩=some (vx,fx,nx):=by
  refine Yn t2 (fun _ y hy i hi=>?_) ex
  by_cases hs:s.hp i=none
  ·exact .inr ⟨YT hs,Kd hs⟩
  ·exact .inl ⟨(SJ ho' hs).symm,(KP ho' hs).symm⟩
 show Ao _ _=_;rw [hc.1,ho'];show C6 C P N call ops x ⟨Bk s.tm o.dst vo,At (Af s.hp fo) no⟩ K=some r;rw [Jy (by rw [←Gx t2];exact hx),ex']
 show Ao _ _=_;rw [hb.1,hx'];rw [←h2];have hfx:∀i∈fx,s.hp i≠none:=fun i hi hs=>(Sn ex).2 i hi (Kd hs)
 have hfo:∀i∈fo,s.hp i≠none:=fun i hi hs=>(Sn eo').2 i hi (Kd hs)
 show K ⟨Bk (Bk s.tm o.dst vo) x.dst vx,At (Af (At (Af s.hp fo) no) fx) nx⟩=K _;rw [Jn ne,VV hb.2 hc.2 ho' hx' hfx hfo]
end
open Go.RowKit
theorem W7 {C:Gi}{P:Program}{o:Op}(h:Rf C P o=true):Hb P o=true:=by
 unfold Rf at h;split at h
 ·rfl
 ·rename_i c;unfold Hb;simp only;split at h<;>rename_i hc
  ·rw [hc]
  ·rw [hc]
  ·cases h
  ·rw [hc]
  ·cases h
 ·cases h
structure JS (N:Nat) (S:Nat->Prop) (dst:Option Nat) (hp hp1 hp' hp1':Nat->Option Bj):Prop where
 keep:∀i,hp i≠none->hp' i≠none
 off:∀i,i<N->dst≠some i->(¬S i∨hp i=none)->hp' i=hp i∧hp1' i=hp1 i
 same:∀i,hp i=hp1 i->hp' i=hp1' i
 far:∀i,¬S i->hp i≠none->hp' i=hp i
section
variable {R R':Type} {Rel:Option R->Option R'->Prop} {P:Program} {N:Nat} {tm tm':Nat->PV} {hp hp1:Nat->Option Bj} {f f':Nat->Option (List PV)} {o:Oper}
theorem MU (hn:Rel none none){t:CT}{p:PV}{K:PV->List Nat->Option R}{K':PV->List Nat->Option R'}(hf:QB Rel f f' (Aq p)) (hK:∀c m,(∀i∈m,f i≠none∧i∈Aq p)->Rel (K c m) (K' c m)):Rel (Od f t p K) (Od f' t p K'):=by
 unfold Od;split
 ·split
  ·rename_i id es' off n;cases Nat.beq es' _
   ·exact hn
   ·exact Y2 hn hf (by simp [Aq]) fun c hc=>A5 hn fun _=>hK _ _ (by simp [hc,Aq])
  ·exact Fh hn fun _ _ _=>hK _ _ (by simp)
 ·exact O0 hn fun _=>hK _ _ (by simp)
theorem IQ (hn:Rel none none):∀{ts:List CT}{ps:List PV}{K:List PV->List Nat->Option R}{K':List PV->List Nat->Option R'},QB Rel f f' (ps.flatMap Aq)->(∀c m,(∀i∈m,f i≠none∧i∈ps.flatMap Aq)->Rel (K c m) (K' c m))->Rel (Ms f ts ps K) (Ms f' ts ps K')
 |[],[],_,_,_,hK=>hK _ _ (by simp)
 |[],_::_,_,_,_,_=>hn
 |_::_,[],_,_,_,_=>hn
 |_::_,p::ps,_,_,hf,hK=>MU hn (fun i hi=>hf i (by simp only [List.flatMap_cons,List.mem_append];exact .inl hi)) fun _ m hm=>IQ hn (fun i hi=>hf i (by simp only [List.flatMap_cons,List.mem_append];exact .inr hi)) fun _ ms hms=>hK _ _ fun i hi=>by
   simp only [List.flatMap_cons,List.mem_append];rcases List.mem_append.1 hi with h|h
   ·exact ⟨(hm i h).1,.inl (hm i h).2⟩
   ·exact ⟨(hms i h).1,.inr (hms i h).2⟩
theorem Uj {S:Nat->Prop}{dst:Option Nat}{id:Nat}{b:Bj}{h0 h1:Nat->Option Bj}(hS:S id)(hid:hp id≠none)(h:JS N S dst hp hp1 h0 h1):JS N S dst hp hp1 (Ch h0 id (some b)) (Ch h1 id (some b)):=by
 refine ⟨fun i hi=>?_,fun i hN hd hi=>?_,fun i hi=>?_,fun i hn hi=>?_⟩
 ·by_cases e:i=id
  ·subst e;rw [Ap];simp
  ·rw [Ak _ _ e];exact h.keep i hi
 ·have e:i≠id:=by
   rintro rfl
   rcases hi with hi|hi
   ·exact hi hS
   ·exact hid hi
  rw [Ak _ _ e,Ak _ _ e];exact h.off i hN hd hi
 ·by_cases e:i=id
  ·subst e;rw [Ap,Ap]
  ·rw [Ak _ _ e,Ak _ _ e];exact h.same i hi
 ·rw [Ak _ _ (by rintro rfl;exact hn hS)];exact h.far i hn hi
theorem PG {S:Nat->Prop}{d:Nat}{b:Bj}{h0 h1:Nat->Option Bj}(hz:hp d=none)(h:JS N S (some d) hp hp1 h0 h1):JS N S (some d) hp hp1 (Ch h0 d (some b)) (Ch h1 d (some b)):=by
 refine ⟨fun i hi=>?_,fun i hN hd hi=>?_,fun i hi=>?_,fun i hn hi=>?_⟩
 ·by_cases e:i=d
  ·subst e;rw [Ap];simp
  ·rw [Ak _ _ e];exact h.keep i hi
 ·have e:i≠d:=by rintro rfl;exact hd rfl
  rw [Ak _ _ e,Ak _ _ e];exact h.off i hN hd hi
 ·by_cases e:i=d
  ·subst e;rw [Ap,Ap]
  ·rw [Ak _ _ e,Ak _ _ e];exact h.same i hi
 ·rw [Ak _ _ (by rintro rfl;exact hi hz)];exact h.far i hn hi
theorem Tn (S:Nat->Prop)(dst:Option Nat):JS N S dst hp hp1 hp hp1:=⟨fun _ h=>h,fun _ _ _ _=>⟨rfl,rfl⟩,fun _ h=>h,fun _ _ _=>rfl⟩
theorem VE {S:Nat->Prop}{dst:Option Nat}{m:List Nat}(hm:∀i∈m,hp i≠none∧S i):JS N S dst hp hp1 (Af hp m) (Af hp1 m):=by
 refine ⟨fun i hi=>fun h=>hi (Do.1 h),fun i hN hd hi=>?_,fun i hi=>?_,fun i hn hi=>?_⟩
 ·have e:i ∉ m:=by
   intro h;rcases hi with hi|hi
   ·exact hi (hm i h).2
   ·exact (hm i h).1 hi
  rw [Bu,Bu,if_neg e,if_neg e];exact ⟨rfl,rfl⟩
 ·rw [Bu,Bu,hi]
 ·rw [Bu,if_neg (fun h=>hn (hm i h).2)]
theorem PQ {S:Nat->Prop}(h:∀i,S i->hp i=hp1 i∨(hp i=none∧∀b,Rel none b)) {l:List Nat}(hl:∀i∈l,S i):QB Rel (I5 hp) (I5 hp1) l:=by
 intro i hi;rcases h i (hl i hi) with h|⟨h,h'⟩
 ·left;unfold I5;rw [h]
 ·exact .inr ⟨Kd h,h'⟩
theorem RO (hn:Rel none none){t:TypeId}{a x:PV}{K:St->Option R}{K':St->Option R'}{S:Nat->Prop}(hS:∀i,S i->hp i=hp1 i∨(hp i=none∧∀b,Rel none b)) (ha:∀i∈Aq a,S i)(hx:∀i∈B3 x,S i)
  (hK:∀hp' hp1',JS N S none hp hp1 hp' hp1'->Rel (K ⟨tm,hp'⟩) (K' ⟨tm',hp1'⟩)):Rel (AV P ⟨tm,hp⟩ t a x K) (AV P ⟨tm',hp1⟩ t a x K'):=by
 unfold AV;split
 ·rename_i id off;show Rel (match hp id with|some (.st c)=>_|some (.ar false c)=>_|_=>none) (match hp1 id with|some (.st c)=>_|some (.ar false c)=>_|_=>none)
  have hid:S id:=ha id (by simp [Aq])
  rcases hS id hid with h|⟨h,hb⟩
  ·rw [←h];split
   ·rename_i c hc;exact A5 hn fun _=>Nj hn fun _=>hK _ _ (Uj hid (by rw [hc];simp) (Tn _ _))
   ·rename_i c hc;refine A5 hn fun _=>IQ hn (PQ hS fun i hi=>hx i ?_) fun _ m hm=>A5 hn fun _=>hK _ _ (Uj hid (by rw [hc];simp) (VE fun i hi=>⟨fun h=>(hm i hi).1 (Kd h),hx i ?_⟩))
    ·obtain ⟨c,hc,hi⟩:=List.mem_flatMap.1 hi;exact S8 hc hi
    ·obtain ⟨c,hc,hi⟩:=List.mem_flatMap.1 (hm i hi).2;exact S8 hc hi
   ·exact hn
  ·rw [h];exact hb _
 ·exact hn
theorem Zz (hn:Rel none none){es:Nat}{t:TypeId}{x:PV}{K:Nat->List PV->Option R}{K':Nat->List PV->Option R'}{S:Nat->Prop}(hS:∀i,S i->hp i=hp1 i∨(hp i=none∧∀b,Rel none b)) (hx:∀i∈B3 x,S i)(hK:∀m c,Rel (K m c) (K' m c)):Rel (UP P ⟨tm,hp⟩ es t x K) (UP P ⟨tm',hp1⟩ es t x K'):=by
 unfold UP UO;split
 ·exact A5 hn fun _=>Fu hn fun _=>hK _ _
 ·exact Xh hn (PQ hS fun i hi=>hx i (Sj hi)) hK
 ·exact hn
theorem Xl (hn:Rel none none){d:Nat}{t tx:TypeId}{b x:PV}{K:St->Option R}{K':St->Option R'}{S:Nat->Prop}(hS:∀i,S i->hp i=hp1 i∨(hp i=none∧∀b,Rel none b)) (hdd:hp d=hp1 d)(hb:∀i∈B3 b,S i)(hx:∀i∈B3 x,S i)
  (hK:∀v hp' hp1',(∀M,JS M S (some d) hp hp1 hp' hp1')->Rel (K ⟨Ch tm d v,hp'⟩) (K' ⟨Ch tm' d v,hp1'⟩)):Rel (Oo P N ⟨tm,hp⟩ d t tx b x K) (Oo P N ⟨tm',hp1⟩ d t tx b x K'):=by
 unfold Oo;split
 ·refine A5 hn fun _=>?_
  cases Zd P tx
  rotate_left
  ·show Rel (Tb P N ⟨tm,hp⟩ d _ b x K) (Tb P N ⟨tm',hp1⟩ d _ b x K');refine Dm hn fun _ n=>Fh hn fun z _ _=>?_
   show Rel (Ao (z&&Nat.blt d N&&(hp d).isNone&&_&&_&&_) _) (Ao (z&&Nat.blt d N&&(hp1 d).isNone&&_&&_&&_) _);rw [←hdd];exact A5 hn fun hb=>hK _ _ _ (fun M=>PG (by simp only [Bool.and_eq_true,Option.isNone_iff_eq_none] at hb;simp only [hb]) (Tn _ _))
  rw [cond_false,cond_false];refine Zz hn hS hx fun m new=>?_
  split
  ·rename_i id es off n;show Rel (match hp id with|some (.ar false c)=>Ao (Nat.beq es _&&Nat.beq off 0&&Nat.blt d N&&(hp d).isNone&&_&&_&&_&&_) _|_=>none) (match hp1 id with|some (.ar false c)=>Ao (Nat.beq es _&&Nat.beq off 0&&Nat.blt d N&&(hp1 d).isNone&&_&&_&&_&&_) _|_=>none)
   have hid:S id:=hb id (by simp [B3,Aq])
   rw [←hdd];rcases hS id hid with h|⟨h,hbb⟩
   ·rw [←h];split
    ·rename_i c hc;exact A5 hn fun hb=>hK _ _ _ (fun M=>PG (by simp only [Bool.and_eq_true,Option.isNone_iff_eq_none] at hb;simp only [hb]) (Uj hid (by rw [hc];simp) (Tn _ _)))
    ·exact hn
   ·rw [h];exact hbb _
  ·refine Fh hn fun z _ _=>?_
   show Rel (Ao (z&&Nat.blt d N&&(hp d).isNone&&_&&_&&_) _) (Ao (z&&Nat.blt d N&&(hp1 d).isNone&&_&&_&&_) _);rw [←hdd];exact A5 hn fun hb=>hK _ _ _ (fun M=>PG (by simp only [Bool.and_eq_true,Option.isNone_iff_eq_none] at hb;simp only [hb]) (Tn _ _))
 ·exact hn
theorem WE (hn:Rel none none){d:Option Tmp}{t tx:TypeId}{b x:PV}{K:St->Option R}{K':St->Option R'}{S:Nat->Prop}(hS:∀i,S i->hp i=hp1 i∨(hp i=none∧∀b,Rel none b)) (hb:∀i∈B3 b,S i)(hx:∀i∈B3 x,S i)
  (hK:∀v hp' hp1',JS N S d hp hp1 hp' hp1'->Rel (K ⟨Bk tm d v,hp'⟩) (K' ⟨Bk tm' d v,hp1'⟩)):Rel (MA P N ⟨tm,hp⟩ d t tx b x K) (MA P N ⟨tm',hp1⟩ d t tx b x K'):=by
 unfold MA;split
 ·refine A5 hn fun _=>?_
  refine Zz hn hS hx fun m new=>?_
  split
  ·rename_i id es off n;show Rel (match hp id with|some (.ar false c)=>Ao (Nat.beq es _&&_&&_) _|_=>none) (match hp1 id with|some (.ar false c)=>Ao (Nat.beq es _&&_&&_) _|_=>none)
   have hid:S id:=hb id (by simp [B3,Aq])
   rcases hS id hid with h|⟨h,hbb⟩
   ·rw [←h];split
    ·rename_i c hc;exact A5 hn fun _=>hK _ _ _ (Uj hid (by rw [hc];simp) (Tn _ _))
    ·exact hn
   ·rw [h];exact hbb _
  ·exact hn
 ·exact hn
def Aif (o:Oper)(tm:Nat->PV)(i:Nat):Prop:=∃x∈o.op.operands.toList,i∈Bo (B7 tm x)
def Vv (o:Oper)(tm:Nat->PV)(hp:Nat->Option Bj)(i:Nat):Prop:=Aif o tm i∨Nb o.op=false∧∃id c,Aif o tm id∧hp id=some (.st c)∧∃p∈c,i∈Aq p
theorem Acd (hn:Rel none none){mv:Bool}{t:CT}{p:PV}{K:PV->List Nat->List Nat->Option R}{K':PV->List Nat->List Nat->Option R'}{S:Nat->Prop}(hS:∀i,S i->hp i=hp1 i∨(hp i=none∧∀b,Rel none b)) (hp_:∀i∈Aq p,S i)
  (hK:∀c m x,(∀i∈m++x,hp i≠none∧S i)->Rel (K c m x) (K' c m x)):Rel (Aco mv hp t p K) (Aco mv hp1 t p K'):=by
 have frz:∀{t:CT} {p:PV},(∀i∈Aq p,S i)->Rel (Od (I5 hp) t p fun c m=>K c m []) (Od (I5 hp1) t p fun c m=>K' c m []):=fun h=>MU hn (PQ hS h) fun c m hm=>hK _ _ _ fun i hi=>by
  rw [List.append_nil] at hi;exact ⟨fun e=>(hm i hi).1 (Kd e),h i (hm i hi).2⟩
 unfold Aco;split
 ·rename_i es;cases mv<;>simp only [cond_true,cond_false]
  ·exact frz hp_
  ·split
   ·rename_i id es' off n;rcases hS id (hp_ id (by simp [Aq])) with h|⟨h,hb⟩
    ·rw [←h];split
     ·rename_i c hc;cases (Nat.beq es' es&&Nat.beq off 0)<;>simp only [cond_true,cond_false]
      ·exact frz hp_
      ·exact A5 hn fun _=>hK _ _ _ fun i hi=>by
        simp only [List.nil_append,List.mem_singleton] at hi;subst hi;exact ⟨by rw [hc];simp,hp_ i (by simp [Aq])⟩
     ·exact frz hp_
    ·rw [h]
     have:(Od (I5 hp) (.sl es) (.view id es' off n) fun c m=>K c m [])=none:=by
      unfold Od;simp only;cases Nat.beq es' es
      ·rfl
      ·simp only [cond_true,Kd h,D3]
     show Rel (Od (I5 hp) (.sl es) (.view id es' off n) fun c m=>K c m []) _
     rw [this];exact hb _
   ·refine Fh hn fun z n c=>?_
    cases z
    ·exact hK _ _ _ (by simp)
    ·exact hK _ _ _ (by simp)
 ·exact O0 hn fun _=>hK _ _ _ (by simp)
theorem Rj (hn:Rel none none){mv:Bool}{S:Nat->Prop}(hS:∀i,S i->hp i=hp1 i∨(hp i=none∧∀b,Rel none b)):∀{ts:List CT}{ps:List PV}{K:List PV->List Nat->List Nat->Option R}{K':List PV->List Nat->List Nat->Option R'},(∀p∈ps,∀i∈Aq p,S i) ->
  (∀c m x,(∀i∈m++x,hp i≠none∧S i)->Rel (K c m x) (K' c m x))->Rel (CL mv hp ts ps K) (CL mv hp1 ts ps K')
 |[],[],_,_,_,hK=>hK _ _ _ (by simp)
 |[],_::_,_,_,_,_=>hn
 |_::_,[],_,_,_,_=>hn
 |_::_,p::ps,_,_,hp_,hK=>Acd hn hS (hp_ p (by simp)) fun _ m x hm=>Rj hn hS (fun q hq=>hp_ q (by simp [hq])) fun _ ms xs hms=>hK _ _ _ fun i hi=>by
   simp only [List.mem_append] at hi hm hms;rcases hi with (hi|hi)|(hi|hi)
   ·exact hm i (.inl hi)
   ·exact hms i (.inl hi)
   ·exact hm i (.inr hi)
   ·exact hms i (.inr hi)
theorem QG (hn:Rel none none){C:Gi}{f:FuncId}{i:Nat}{t:TypeId}{p:PV}{K:PV->List Nat->List Nat->List Gc->Option R}{K':PV->List Nat->List Nat->List Gc->Option R'}{S:Nat->Prop}(hS:∀i,S i->hp i=hp1 i∨(hp i=none∧∀b,Rel none b))
  (hp_:∀i∈Bo p,S i)(hc:∀i∈Bo p,∀c,hp1 i=some (.st c)->∀q∈c,∀k∈Aq q,S k)
  (hK:∀v m x l,(∀i∈m++x++l.flatMap Gc.ids,hp i≠none∧S i)->Rel (K v m x l) (K' v m x l)):Rel (AB C P f hp i t p K) (AB C P f hp1 i t p K'):=by
 unfold AB;split
 ·split
  ·rename_i id off;have hid:S id:=hp_ id (by simp [Bo,B3,Aq])
   rcases hS id hid with h|⟨h,hb⟩
   ·rw [h];split
    ·rename_i c hc1;refine A5 hn fun _=>Rj hn hS (fun q hq k hk=>hc id (by simp [Bo,B3,Aq]) c hc1 q (List.mem_of_mem_drop (List.mem_of_mem_take hq)) k hk) fun cs m x hm=>hK _ _ _ _ fun k hk=>?_
     rcases List.mem_append.1 hk with hk|hk
     ·exact hm k hk
     ·simp only [List.flatMap_cons,List.flatMap_nil,Gc.ids,List.append_nil,List.mem_singleton] at hk;subst hk;exact ⟨by rw [h,hc1];simp,hid⟩
    ·exact hn
   ·rw [h];exact hb _
  ·exact hn
 ·cases C.lnd f i
  ·cases Ck P t
   ·exact Rj hn hS (fun q hq k hk=>by
     simp at hq;subst hq;exact hp_ k (Jp hk)) fun cs m x hm=>Bg hn fun _ _ _=>Em hn (hK _ _ _ _ (by simpa using hm))
   ·refine Ip hn fun cs hcs=>Rj hn hS (fun q hq k hk=>hp_ k ?_) fun cs m x hm=>hK _ _ _ _ (by simpa using hm)
    subst hcs;exact List.mem_flatMap.2 ⟨q,hq,hk⟩
  ·refine Db hn fun e he=>?_
   unfold Adm;split
   ·rename_i id es' off n;have hid:S id:=hp_ id (by simp [Bo,B3,Aq])
    rcases hS id hid with h|⟨h,hb⟩
    ·rw [h];split
     ·rename_i c hc1;refine A5 hn fun _=>hK _ _ _ _ fun k hk=>?_
      simp only [List.nil_append,List.flatMap_cons,List.flatMap_nil,Gc.ids,List.append_nil,List.mem_singleton] at hk;subst hk;exact ⟨by rw [h,hc1];simp,hid⟩
     ·exact hn
    ·rw [h];exact hb _
   ·exact Fh hn fun _ _ _=>A5 hn fun _=>hK _ _ _ _ (by simp [Gc.ids])
theorem HN (hn:Rel none none){C:Gi}{f:FuncId}{S:Nat->Prop}(hS:∀i,S i->hp i=hp1 i∨(hp i=none∧∀b,Rel none b)):∀{ts:List TypeId}{ps:List PV}{i:Nat}{K:List PV->List Nat->List Nat->List Gc->Option R}{K':List PV->List Nat->List Nat->List Gc->Option R'},
  (∀p∈ps,∀i∈Bo p,S i)->(∀p∈ps,∀i∈Bo p,∀c,hp1 i=some (.st c)->∀q∈c,∀k∈Aq q,S k) ->
  (∀v m x l,(∀i∈m++x++l.flatMap Gc.ids,hp i≠none∧S i)->Rel (K v m x l) (K' v m x l))->Rel (LR C P f hp i ts ps K) (LR C P f hp1 i ts ps K')
 |[],[],_,_,_,_,_,hK=>hK _ _ _ _ (by simp)
 |[],_::_,_,_,_,_,_,_=>hn
 |_::_,[],_,_,_,_,_,_=>hn
 |_::_,p::ps,_,_,_,hp_,hc,hK=>QG hn hS (hp_ p (by simp)) (hc p (by simp)) fun _ m x l hm=>HN hn hS (fun q hq=>hp_ q (by simp [hq])) (fun q hq=>hc q (by simp [hq])) fun _ ms xs ls hms=>hK _ _ _ _ fun i hi=>by
   simp only [List.mem_append,List.flatMap_append] at hi hm hms;rcases hi with ((hi|hi)|(hi|hi))|(hi|hi)
   ·exact hm i (.inl (.inl hi))
   ·exact hms i (.inl (.inl hi))
   ·exact hm i (.inl (.inr hi))
   ·exact hms i (.inl (.inr hi))
   ·exact hm i (.inr hi)
   ·exact hms i (.inr hi)
theorem Ac0 (hn:Rel none none){t:Nat}{ct:CT}{was p:PV}{K:Nat->PV->List (Nat × Bj)->Option R} {K':Nat->PV->List (Nat × Bj)->Option R'} (hK:∀t c b,(∀q∈b,∃k,q.1=UG N k)->Rel (K t c b) (K' t c b)):Rel (Aa9 N t ct was p K) (Aa9 N t ct was p K'):=by
 unfold Aa9;split
 ·split
  ·exact YI hn fun _ _=>hK _ _ _ (by intro q hq;simp only [List.mem_singleton] at hq;subst hq;exact ⟨t,rfl⟩)
  ·exact Fh hn fun _ _ _=>hK _ _ _ (by simp)
 ·exact O0 hn fun _=>hK _ _ _ (by simp)
theorem MM (hn:Rel none none):∀{cts:List CT}{ws ps:List PV}{t:Nat}{K:Nat->List PV->List (Nat × Bj)->Option R} {K':Nat->List PV->List (Nat × Bj)->Option R'},(∀t c b,(∀q∈b,∃k,q.1=UG N k)->Rel (K t c b) (K' t c b))->Rel (MI N t cts ws ps K) (MI N t cts ws ps K')
 |[],[],_,_,_,_,hK=>Em hn (hK _ _ _ (by simp))
 |[],_::_,_,_,_,_,_=>hn
 |_::_,[],_,_,_,_,_=>hn
 |_::_,_::_,_,_,_,_,hK=>Bg hn fun _ _ _=>Ac0 hn fun _ _ b hb=>MM hn fun _ _ bs hbs=>hK _ _ _ fun q hq=>by
   rcases List.mem_append.1 hq with h|h
   ·exact hb q h
   ·exact hbs q h
theorem Ue (hn:Rel none none){S:Nat->Prop}{dst:Option Nat}:∀{l:List Gc}{ro:List (List PV)} {t:Nat}{h0 h1:Nat->Option Bj}{K:(Nat->Option Bj)->List (Nat × Bj)->Option R} {K':(Nat->Option Bj)->List (Nat × Bj)->Option R'},
  JS N S dst hp hp1 h0 h1->(∀i∈l.flatMap Gc.ids,hp i≠none∧S i∧hp i=hp1 i)->(∀h0' h1' b,JS N S dst hp hp1 h0' h1'->(∀q∈b,∃k,q.1=UG N k)->Rel (K h0' b) (K' h1' b))->Rel (Wg N t l ro h0 K) (Wg N t l ro h1 K')
 |[],_,_,_,_,_,_,hT,_,hK=>Em hn (hK _ _ _ hT (by simp))
 |.var id off cts ws::l,ro,t,h0,h1,K,K',hT,hl,hK=>by
  unfold Wg;refine Bg hn fun cs ro _=>MM hn fun t' cs' bs hbs=>?_
  have hid:=hl id (by simp [Gc.ids])
  rw [←hT.same id hid.2.2];split
  ·exact Ue hn (Uj hid.2.1 hid.1 hT) (fun i hi=>hl i (by simp only [List.flatMap_cons,List.mem_append];exact .inr hi)) fun h0' h1' b hT' hb=>hK _ _ _ hT' fun q hq=>by
    rcases List.mem_append.1 hq with h|h
    ·exact hbs q h
    ·exact hb q h
  ·exact hn
 |.row id::l,ro,t,h0,h1,K,K',hT,hl,hK=>by
  unfold Wg;have hid:=hl id (by simp [Gc.ids])
  exact Bg hn fun cs ro _=>Ue hn (Uj hid.2.1 hid.1 hT) (fun i hi=>hl i (by simp only [List.flatMap_cons,List.mem_append];exact .inr hi)) hK
 |.none::l,ro,t,h0,h1,K,K',hT,hl,hK=>by
  unfold Wg;exact Bg hn fun cs ro _=>Ue hn hT (fun i hi=>hl i (by simp only [List.flatMap_cons,List.mem_append];exact .inr hi)) hK
theorem TI (h:∀i,N<=i->hp i=hp1 i)(hN:0<N):∀k t,TM N hp k t=TM N hp1 k t
 |0,_=>rfl
 |k+1,t=>by
  unfold TM;rw [h (UG N t) (by unfold UG;exact Nat.le_mul_of_pos_right _ (by omega)),TI h hN k (t+1)]
theorem KY {h0 h1:Nat->Option Bj}:∀{nw:List (Nat × Bj)},(∀q∈nw,h0 q.1=h1 q.1)->Bq h0 nw=Bq h1 nw
 |[],_=>rfl
 |(i,b)::nw,h=>by
  unfold Bq;rw [h (i,b) (by simp),KY (fun q hq=>h q (by simp [hq]))]
theorem IJ {S:Nat->Prop}{dst:Option Nat}{h0 h1:Nat->Option Bj}(hT:JS N S dst hp hp1 h0 h1):∀{nw:List (Nat × Bj)} {g0 g1:Nat->Option Bj},JS N S dst hp hp1 g0 g1->(∀q∈nw,N<=q.1∨dst=some q.1)->(∀q∈nw,hp q.1=none)->JS N S dst hp hp1 (At g0 nw) (At g1 nw)
 |[],_,_,h,_,_=>h
 |(i,b)::nw,g0,g1,h,hi,hz=>by
  refine IJ hT (nw:=nw) ⟨fun k hk=>?_,fun k hN hd hk=>?_,fun k hk=>?_,fun k hn hk=>?_⟩ (fun q hq=>hi q (by simp [hq])) (fun q hq=>hz q (by simp [hq]))
  ·by_cases e:k=i
   ·subst e;rw [Ap];simp
   ·rw [Ak _ _ e];exact h.keep k hk
  ·have e:k≠i:=by
    rintro rfl
    rcases hi (k,b) (by simp) with q|q
    ·simp only at q;omega
    ·exact hd q
   rw [Ak _ _ e,Ak _ _ e];exact h.off k hN hd hk
  ·by_cases e:k=i
   ·subst e;rw [Ap,Ap]
   ·rw [Ak _ _ e,Ak _ _ e];exact h.same k hk
  ·rw [Ak _ _ (by rintro rfl;exact hk (hz (k,b) (by simp)))];exact h.far k hn hk
theorem Akz {S:Nat->Prop}{dst:Option Nat}{m x:List Nat}(hm:∀i∈m++x,hp i≠none∧S i):JS N S dst hp hp1 (Tg (Af hp m) x) (Tg (Af hp1 m) x):=by
 refine ⟨fun i hi h=>?_,fun i hN hd hi=>?_,fun i hi=>?_,fun i hn hi=>?_⟩
 ·rw [F1] at h;have h1:Af hp m i≠none:=fun e=>hi (Do.1 e)
  split at h
  ·cases hq:Af hp m i with
   |none=>exact h1 hq
   |some b=>rw [hq] at h;cases h
  ·exact h1 h
 ·have e:i ∉ m∧i ∉ x:=by
   refine ⟨fun h=>?_,fun h=>?_⟩<;>(rcases hi with hi|hi)
   ·exact hi (hm i (by simp [h])).2
   ·exact (hm i (by simp [h])).1 hi
   ·exact hi (hm i (by simp [h])).2
   ·exact (hm i (by simp [h])).1 hi
  rw [F1,F1,if_neg e.2,if_neg e.2,Bu,Bu,if_neg e.1,if_neg e.1];exact ⟨rfl,rfl⟩
 ·rw [F1,F1,Bu,Bu,hi]
 ·rw [F1,Bu,if_neg (fun h=>hn (hm i (by simp [h])).2),if_neg (fun h=>hn (hm i (by simp [h])).2)]
theorem RP (hn:Rel none none){C:Gi}{call:Ah}{f:FuncId}{c:Call}{K:St->Option R}{K':St->Option R'}{S:Nat->Prop}(htm:c.args.toList.map (B7 tm)=c.args.toList.map (B7 tm')) (hS:∀i,S i->hp i=hp1 i∨(hp i=none∧∀b,Rel none b))
  (hp_:∀p∈c.args.toList.map (B7 tm'),∀i∈Bo p,S i) (hc:∀p∈c.args.toList.map (B7 tm'),∀i∈Bo p,∀c,hp1 i=some (.st c)->∀q∈c,∀k∈Aq q,S k)
  (hdd:∀d,o.dst=some d->hp d=hp1 d)(hNN:∀i,N<=i->hp i=hp1 i)
  (hK:∀v hp' hp1',JS N S o.dst hp hp1 hp' hp1'->Rel (K ⟨Bk tm o.dst v,hp'⟩) (K' ⟨Bk tm' o.dst v,hp1'⟩)):Rel (AA C P N call ⟨tm,hp⟩ o f c K) (AA C P N call ⟨tm',hp1⟩ o f c K'):=by
 unfold AA;simp only [htm];refine HN hn hS hp_ hc fun vs m x l hm=>A5 hn fun hb=>NH hn fun rv ro=>Zq hn fun ws bs hbs=>A5 hn fun _=>?_
 simp only [Bool.and_eq_true] at hb;have hN:0<N:=Nat.lt_of_succ_le (Nat.le_of_ble_eq_true hb.1.2);rw [TI hNN hN];by_cases hbad:∃i∈l.flatMap Gc.ids,hp i≠hp1 i
 ·obtain ⟨i,hi,hne⟩:=hbad;obtain ⟨h1,h2⟩:=hm i (List.mem_append.2 (.inr hi));rcases hS i h2 with h|⟨h,_⟩
  ·exact absurd h hne
  ·exact absurd h h1
 have hl:∀i∈l.flatMap Gc.ids,hp i≠none∧S i∧hp i=hp1 i:=fun i hi=>⟨(hm i (List.mem_append.2 (.inr hi))).1,(hm i (List.mem_append.2 (.inr hi))).2,Classical.byContradiction fun h=>hbad ⟨i,hi,h⟩⟩
 have hT0:JS N S o.dst hp hp1 (Tg (Af hp m) x) (Tg (Af hp1 m) x):=Akz fun i hi=>hm i (List.mem_append.2 (.inl hi))
 refine Ue hn hT0 hl fun h0 h1 bs' hT hbs'=>?_
 have hids:∀q∈bs++bs',N<=q.1∨o.dst=some q.1:=by
  intro q hq;rcases List.mem_append.1 hq with hq|hq
  ·obtain ⟨j,hj⟩:=hbs q hq;cases hd:o.dst with
   |none=>
    rw [hd] at hj;left;rw [hj];exact Nat.le_add_right _ _
   |some d=>
    rw [hd] at hj;change q.1=d+N*j at hj;cases j with
    |zero=>right;rw [hj];simp
    |succ j=>left;rw [hj,Nat.mul_add];omega
  ·obtain ⟨k,hk⟩:=hbs' q hq;left;rw [hk];unfold UG;exact Nat.le_mul_of_pos_right _ (by omega)
 have hsame:∀q∈bs++bs',h0 q.1=h1 q.1:=by
  intro q hq;refine hT.same q.1 ?_;rcases hids q hq with h|h
  ·exact hNN _ h
  ·exact hdd _ h
 rw [KY hsame]
 exact A5 hn fun hb=>hK _ _ _ (IJ hT hT hids fun q hq=>by
  cases hz:hp q.1 with
  |none=>rfl
  |some c=>exact absurd ((hsame q hq).trans ((Bm hb).1 q.1 q.2 hq)) (hT.keep q.1 (by rw [hz];simp)))
theorem Jv (hn:Rel none none){C:Gi}{call:Ah}{K:St->Option R}{K':St->Option R'}(htm:∀x∈o.op.operands.toList,B7 tm x=B7 tm' x)
  (hS:∀i,Vv o tm' hp1 i->hp i=hp1 i∨(hp i=none∧∀b,Rel none b)) (hdd:∀d,o.dst=some d->hp d=hp1 d)(hNN:∀i,N<=i->hp i=hp1 i)
  (hK:∀v hp' hp1',JS N (Vv o tm' hp1) o.dst hp hp1 hp' hp1'->Rel (K ⟨Bk tm o.dst v,hp'⟩) (K' ⟨Bk tm' o.dst v,hp1'⟩)):Rel (Ur C P N call ⟨tm,hp⟩ o K) (Ur C P N call ⟨tm',hp1⟩ o K'):=by
 unfold Ur;have hl:∀x∈o.op.operands.toList,∀i∈Bo (B7 tm' x),Vv o tm' hp1 i:=fun x hx i hi=>.inl ⟨x,hx,hi⟩
 have hl2:Nb o.op=false->∀x∈o.op.operands.toList,∀i∈Bo (B7 tm' x),∀c,hp1 i=some (.st c)->∀q∈c,∀k∈Aq q,Vv o tm' hp1 k:=fun ha x hx i hi c hc q hq k hk=>.inr ⟨ha,i,c,⟨x,hx,hi⟩,hc,q,hq,hk⟩
 generalize hLd:Vv o tm' hp1=S at *
 generalize hop:o.op=op at *
 split
 ·rename_i t x y;simp only [htm x (by simp [Op.operands]),htm y (by simp [Op.operands])]
  refine A5 hn fun hd=>RO (N:=N) hn hS (fun i hi=>hl x (by simp [Op.operands]) i (Jp hi)) (fun i hi=>hl y (by simp [Op.operands]) i (Ff hi)) fun hp' hp1' hh=>?_
  have hd':=Option.isNone_iff_eq_none.1 hd;have:=hK .top hp' hp1' (by rw [hd'];exact hh)
  rw [hd'] at this;exact this
 ·rename_i c
  have hmem:∀x∈c.args.toList,x∈(Op.call c).operands.toList:=by
   intro x hx;simp only [Op.operands,Call.operands,Array.toList_append,List.mem_append];exact .inr hx
  split
  ·rename_i hc;refine Db hn fun d hd=>Bg hn fun x _ hx=>Bg hn fun y _ hy=>Em hn (Bg hn fun _ _ _=>Bg hn fun _ _ _=>?_)
   subst hy;have hxm:=hmem x (by rw [hx];simp)
   have hym:=hmem y (by rw [hx];simp)
   simp only [htm x hxm,htm y hym];refine Xl hn hS (hdd d hd) (fun i hi=>hl x hxm i (Ff hi)) (fun i hi=>hl y hym i (Ff hi)) fun v hp' hp1' hh=>?_
   have:=hK v hp' hp1' (by rw [hd];exact hh N)
   rw [hd] at this;exact this
  ·rename_i hc;refine Bg hn fun x _ hx=>Bg hn fun y _ hy=>Em hn (Bg hn fun _ _ _=>Bg hn fun _ _ _=>?_)
   subst hy;have hxm:=hmem x (by rw [hx];simp)
   have hym:=hmem y (by rw [hx];simp)
   simp only [htm x hxm,htm y hym];exact WE hn hS (fun i hi=>hl x hxm i (Ff hi)) (fun i hi=>hl y hym i (Ff hi)) hK
  ·rename_i f hcf;refine RP hn (List.map_congr_left fun x hx=>htm x (hmem x hx)) hS (fun p hp i hi=>?_) (fun p hp i hi=>?_) hdd hNN hK
   ·obtain ⟨x,hx,rfl⟩:=List.mem_map.1 hp;exact hl x (hmem x hx) i hi
   ·obtain ⟨x,hx,rfl⟩:=List.mem_map.1 hp;exact hl2 (by simp only [Nb,hcf]) x (hmem x hx) i hi
  ·exact hn
 ·exact hn
theorem FJ (hn:Rel none none){C:Gi}{call:Ah}{K:St->Option R}{K':St->Option R'}(htm:∀x∈o.op.operands.toList,B7 tm x=B7 tm' x)(hK:∀v hp',(∀i,hp i≠none->hp' i≠none)->Rel (K ⟨Bk tm o.dst v,hp'⟩) (K' ⟨Bk tm' o.dst v,hp'⟩)):Rel (Ur C P N call ⟨tm,hp⟩ o K) (Ur C P N call ⟨tm',hp⟩ o K'):=
 Jv hn htm (fun _ _=>.inl rfl) (fun _ _=>rfl) (fun _ _=>rfl) fun v hp' hp1' hT=>by
  have:hp'=hp1':=funext fun i=>hT.same i rfl
  subst this;exact hK v hp' hT.keep
end
section
variable {R:Type} {r:R} {C:Gi} {P:Program} {N:Nat} {call:Ah} {ops:Array Oper} {o x:Oper} {s:St} {K:St->Option R}
theorem NW {tm:Nat->PV}{hp hp':Nat->Option Bj}{tm':Nat->PV}{q:Wm}(hm:Hb P o.op=false)(ht:∀t∈looks ops o,tm t=tm' t)(h:gE C P N call ops o ⟨tm,hp⟩=some q):gE C P N call ops o ⟨tm',hp'⟩=some q:=
 Yn (s:=⟨tm,hp⟩) (s':=⟨tm',hp'⟩) ht (fun h=>by rw [hm] at h;cases h) h
theorem AH {tm:Nat->PV}{hp:Nat->Option Bj}(hm:Hb P o.op=false)(h:C6 C P N call ops o ⟨tm,hp⟩ K=some r):
  ∃v nw,gE C P N call ops o ⟨tm,hp⟩=some (v,[],nw)∧F4 N o.dst=true∧Bq hp nw=true∧(∀p∈nw,o.dst=some p.1)∧K ⟨Bk tm o.dst v,At hp nw⟩=some r:=by
 have hM:Rf C P o.op=false:=by
  cases hh:Rf C P o.op
  ·rfl
  ·rw [W7 hh] at hm;cases hm
 rw [Jy (by simp [Gh,hM])] at h
 cases e:gE C P N call ops o ⟨tm,hp⟩ with
 |none=>rw [e] at h;cases h
 |some q=>
  obtain ⟨v,fz,nw⟩:=q;obtain ⟨h1,h2⟩:=(Sn e).1 hm;simp only at h1 h2;subst h1;rw [e] at h;obtain ⟨hb,h⟩:=Am h;simp only [Bool.and_eq_true] at hb;exact ⟨v,nw,rfl,hb.1,hb.2,h2,h⟩
theorem GY {tm:Nat->PV}{hp:Nat->Option Bj}{v:PV}{nw:List (Nat × Bj)} (hm:Hb P o.op=false)(e:gE C P N call ops o ⟨tm,hp⟩=some (v,[],nw)) (hd:F4 N o.dst=true)(ha:Bq hp nw=true)(h:K ⟨Bk tm o.dst v,At hp nw⟩=some r):C6 C P N call ops o ⟨tm,hp⟩ K=some r:=by
 have hM:Rf C P o.op=false:=by
  cases hh:Rf C P o.op
  ·rfl
  ·rw [W7 hh] at hm;cases hm
 rw [Jy (by simp [Gh,hM]),e]
 show Ao _ _=_;have ha':Bq hp nw=true:=ha;rw [hd,ha'];exact h
theorem Md {hp:Nat->Option Bj}{nw:List (Nat × Bj)} (ha:Bq hp nw=true){i:Nat}(hi:∀p∈nw,p.1≠i):At hp nw i=hp i:=
 (D0 (Bm ha).2).2 i fun b hb=>hi _ hb rfl
theorem Ae2 {hp hp':Nat->Option Bj}{nw:List (Nat × Bj)} (ha:Bq hp nw=true){g:Nat->Option Bj}(h1:∀i,(∀p∈nw,p.1≠i)->g i=hp' i) (h2:∀i,(∃p∈nw,p.1=i)->g i=At hp nw i) (ha':Bq hp' nw=true):g=At hp' nw:=by
 funext i
 by_cases h:∃p∈nw,p.1=i
 ·rw [h2 i h];obtain ⟨⟨j,b⟩,hp,rfl⟩:=h;rw [(D0 (Bm ha).2).1 j b hp,(D0 (Bm ha').2).1 j b hp]
 ·have h':∀p∈nw,p.1≠i:=fun p hp e=>h ⟨p,hp,e⟩
  rw [h1 i h',Md ha' h']
theorem Ag0 (ap:Yd C P ops x o)(hx:Gh C P ops x s.tm=true)
  (h:C6 C P N call ops x s (fun s1=>C6 C P N call ops o s1 K)=some r):C6 C P N call ops o s (fun s1=>C6 C P N call ops x s1 K)=some r:=by
 have hm:Hb P o.op=false:=ap.mx (by unfold Gh at hx;simp only [Bool.and_eq_true] at hx;exact hx.1)
 rw [H1 hx] at h;obtain ⟨tm,hp⟩:=s;have look:∀v,∀t∈looks ops o,Bk tm x.dst v t=tm t:=fun v=>Eb ap.xo
 have h1:=Jv (P:=P) (N:=N) (o:=x) (tm:=tm) (tm':=tm) (hp:=hp) (hp1:=hp) (K:=fun s1=>C6 C P N call ops o s1 K) (K':=fun _=>none)
  (Rel:=fun (a:Option R)(_:Option R)=>a=some r->∃v nw,gE C P N call ops o ⟨tm,hp⟩=some (v,[],nw)∧F4 N o.dst=true∧(∀p∈nw,o.dst=some p.1)∧Bq hp nw=true) (fun h=>by cases h) (fun _ _=>rfl) (fun _ _=>.inl rfl) (fun _ _=>rfl) (fun _ _=>rfl) (fun v hp' _ hT h=>by
   obtain ⟨u,nw,hu,hd,ha,hn,_⟩:=AH hm h;refine ⟨u,nw,NW hm (look v) hu,hd,hn,P3 ha fun i b hi=>?_⟩
   cases hh:hp i with
   |none=>rfl
   |some c=>exact absurd ((Bm ha).1 i b hi) (hT.keep i (by rw [hh];simp))) h
 obtain ⟨v,nw,hv,hd,hn,ha⟩:=h1;refine GY hm hv hd ha ?_;have t2:∀t∈looks ops x,tm t=Bk tm o.dst v t:=fun t ht=>(Eb ap.ox t ht).symm
 rw [H1 (by rw [←Gx t2];exact hx)]
 refine Jv (P:=P) (N:=N) (o:=x) (tm:=tm) (tm':=Bk tm o.dst v) (hp:=hp) (hp1:=At hp nw) (Rel:=fun (a b:Option R)=>a=some r->b=some r) (fun h=>by cases h) (E5 t2) (fun i _=>?_) (fun d hxd=>?_) (fun i hi=>(Md ha fun p hp e=>by have:=Qd hd (hn p hp);omega).symm) (fun u hp' hp1' hT h=>?_) h
 ·by_cases hi:∃p∈nw,p.1=i
  ·obtain ⟨⟨j,b⟩,hp1,rfl⟩:=hi;exact .inr ⟨(Bm ha).1 j b hp1,fun _ h=>by cases h⟩
  ·exact .inl (Md ha fun p hp e=>hi ⟨p,hp,e⟩).symm
 ·refine (Md ha fun p hp e=>?_).symm
  have:=hn p hp;rw [e] at this;exact ap.ne d hxd this
 ·obtain ⟨v',nw',hv',_,ha',_,h'⟩:=AH hm h;have he:=NW (hp':=hp) hm (look u) hv';rw [hv] at he;simp only [Option.some.injEq,Prod.mk.injEq,true_and] at he;obtain ⟨rfl,rfl⟩:=he
  have hh:hp1'=At hp' nw:=by
   refine Ae2 ha (fun i hi=>?_) (fun i hi=>?_) ha'
   ·exact (hT.same i (Md ha hi).symm).symm
   ·obtain ⟨⟨j,b⟩,hp1,rfl⟩:=hi;refine (hT.off j (Qd hd (hn _ hp1)) (fun e=>ap.ne j e (hn _ hp1)) (.inr ((Bm ha).1 j b hp1))).2
  rw [hh,←Jn ap.ne];exact h'
theorem Ahd (hw:UF C P o s)(ap:Yd C P ops x o)(ho:Gh C P ops o s.tm=true)
  (h:C6 C P N call ops x s (fun s1=>C6 C P N call ops o s1 K)=some r):C6 C P N call ops o s (fun s1=>C6 C P N call ops x s1 K)=some r:=by
 have hm:Hb P x.op=false:=ap.mo (by unfold Gh at ho;simp only [Bool.and_eq_true] at ho;exact ho.1)
 obtain ⟨tm,hp⟩:=s;obtain ⟨v,nw,hv,hd,ha,hn,h1⟩:=AH hm h;have t1:∀t∈looks ops o,Bk tm x.dst v t=tm t:=Eb ap.xo;change C6 C P N call ops o ⟨Bk tm x.dst v,At hp nw⟩ K=some r at h1;rw [H1 (by rw [Gx t1];exact ho)] at h1
 rw [H1 ho];have hMo:Rf C P o.op=true:=by unfold Gh at ho;simp only [Bool.and_eq_true] at ho;exact ho.1
 have hlead:∀i,Vv o tm hp i->hp i≠none:=by
  rintro i (⟨y,hy,hi⟩|⟨hap,id,c,⟨y,hy,hi⟩,hc,p,hp1,hk⟩)
  ·exact hw.1 y hy i hi
  ·exact hw.2 hMo hap y hy id hi c hc p hp1 i hk
 refine Jv (P:=P) (N:=N) (o:=o) (tm:=Bk tm x.dst v) (tm':=tm) (hp:=At hp nw) (hp1:=hp) (Rel:=fun (a b:Option R)=>a=some r->b=some r) (fun h=>by cases h) (E5 t1) (fun i hi=>?_) (fun d hod=>?_) (fun i hi=>Md ha fun p hp e=>by have:=Qd hd (hn p hp);omega) (fun u hp' hp1' hT h=>?_) h1
 ·refine .inl (Md ha fun p hp' e=>hlead i hi ?_)
  rw [←e];exact (Bm ha).1 p.1 p.2 hp'
 ·refine Md ha fun p hp' e=>?_
  have:=hn p hp';rw [e] at this;exact ap.ne d this hod
 ·have hoff:∀p∈nw,hp' p.1=At hp nw p.1∧hp1' p.1=none:=by
   intro p hp2;have hno:=(Bm ha).1 p.1 p.2 hp2;have h3:=hT.off p.1 (Qd hd (hn p hp2)) (fun e=>ap.ne p.1 (hn p hp2) e) (.inl fun hL=>hlead _ hL hno)
   exact ⟨h3.1,h3.2.trans hno⟩
  have ha':Bq hp1' nw=true:=P3 ha fun i b hi=>(hoff (i,b) hi).2
  refine GY hm (NW hm (fun t ht=>(Eb ap.ox t ht).symm) hv) hd ha' ?_
  have hh:hp'=At hp1' nw:=by
   refine Ae2 ha (fun i hi=>?_) (fun i hi=>?_) ha'
   ·exact hT.same i (Md ha hi)
   ·obtain ⟨p,hp2,rfl⟩:=hi;exact (hoff p hp2).1
  rw [←Jn ap.ne,←hh];exact h
theorem Al8 (hw:UF C P o s)(ap:Yd C P ops x o)
  (h:C6 C P N call ops x s (fun s1=>C6 C P N call ops o s1 K)=some r):C6 C P N call ops o s (fun s1=>C6 C P N call ops x s1 K)=some r:=by
 cases hx:Gh C P ops x s.tm
 ·cases ho:Gh C P ops o s.tm
  ·exact YP hw ap.xo ap.ne ap.ox hx ho h
  ·exact Ahd hw ap ho h
 ·exact Ag0 ap hx h
theorem J3 (h:Tc P o.op=true):Rf C P o.op=false:=by
 unfold Tc at h;split at h
 ·rename_i ho;rw [ho];rfl
 ·rename_i ho;rw [ho];rfl
 ·cases h
def JV (P:Program)(ops:Array Oper)(o:Oper)(tm:Nat->PV):Prop:=Tc P o.op=true∨Fk ops o tm=some false
theorem V9 {tm tm':Nat->PV}(h:∀t∈looks ops o,tm t=tm' t)(hl:JV P ops o tm):JV P ops o tm':=by
 rcases hl with hl|hl
 ·exact .inl hl
 ·exact .inr (by rw [←J7 h];exact hl)
theorem LX {tm:Nat->PV}(hl:JV P ops o tm):Gh C P ops o tm=false:=by
 rcases hl with hl|hl
 ·simp [Gh,J3 hl]
 ·simp [Gh,hl]
theorem YU {q:Wm}(hl:JV P ops o s.tm)(h:gE C P N call ops o s=some q):q.2.1=[]∧q.2.2=[]:=by
 unfold gE at h;split at h
 ·cases h
 ·rename_i hv
  have hl:Tc P o.op=true:=by
   rcases hl with hl|hl
   ·exact hl
   ·rw [hv] at hl;cases hl
  rw [J3 hl] at h;have h:Acr C P N call o s=some q:=h;unfold Tc at hl;split at hl
  ·rename_i t a ho;unfold Acr HY at h;rw [ho] at h
   have:=KO (P:=P) (f:=rd s.hp) (f':=rd s.hp) (g:=I5 s.hp) (g':=I5 s.hp) (t:=t) (x:=B7 s.tm a) (Rel:=fun (a b:Option Wm)=>∀q,a=some q->q.2.1=[]∧q.2.2=[])
    (K:=fun v=>some (v,[],[])) (K':=fun v=>some (v,[],[])) (fun _ h=>by cases h) (fun _ _=>.inl ⟨rfl,rfl⟩) (fun v q hq=>by cases hq;exact ⟨rfl,rfl⟩)
   exact this q h
  ·rename_i src dst y ho;unfold Acr HY at h;rw [ho] at h;simp only at h;unfold FF at h;split at hl
   ·rename_i hd;rw [hd] at h;simp only at h;split at h
    ·obtain ⟨_,_,h⟩:=Fb h;obtain ⟨_,_,h⟩:=Cs h;cases h;exact ⟨rfl,rfl⟩
    ·split at h
     ·exact Xh (f:=I5 s.hp) (f':=I5 s.hp) (K':=fun _ _=>(none:Option Wm)) (Rel:=fun (a _:Option Wm)=>a=some q->q.2.1=[]∧q.2.2=[]) (fun h=>by cases h) (fun _ _=>.inl rfl) (fun n c h=>by
       obtain ⟨_,h⟩:=Am h;obtain ⟨_,_,h⟩:=Cs h;obtain ⟨_,_,h⟩:=Cs h;cases h;exact ⟨rfl,rfl⟩) h
     ·cases h
    ·cases h
   ·cases hl
  ·cases hl
 ·cases h;exact ⟨rfl,rfl⟩
theorem Abd {tm tm':Nat->PV}{hp:Nat->Option Bj}(h:∀t∈looks ops o,tm t=tm' t){i:Nat}(hi:Vv o tm hp i):Vv o tm' hp i:=by
 have he:=E5 (ops:=ops) (o:=o) h;rcases hi with ⟨y,hy,hi⟩|⟨hap,id,c,⟨y,hy,hi⟩,hc,q⟩
 ·exact .inl ⟨y,hy,by rw [←he y hy];exact hi⟩
 ·exact .inr ⟨hap,id,c,⟨y,hy,by rw [←he y hy];exact hi⟩,hc,q⟩
theorem Ai3 {hp hp':Nat->Option Bj}{i:Nat}(h:hp' i=hp i):rd hp' i=rd hp i∧I5 hp' i=I5 hp i:=by
 unfold rd I5;rw [h];exact ⟨rfl,rfl⟩
theorem AU {tm:Nat->PV}{hp:Nat->Option Bj}(hl:JV P ops o tm)(h:C6 C P N call ops o ⟨tm,hp⟩ K=some r):
  ∃v,gE C P N call ops o ⟨tm,hp⟩=some (v,[],[])∧F4 N o.dst=true∧K ⟨Bk tm o.dst v,hp⟩=some r:=by
 rw [Jy (LX hl)] at h;cases e:gE C P N call ops o ⟨tm,hp⟩ with
 |none=>rw [e] at h;cases h
 |some q=>
  obtain ⟨v,fz,nw⟩:=q;obtain ⟨h1,h2⟩:=YU hl e;simp only at h1 h2;subst h1;subst h2;rw [e] at h;obtain ⟨hb,h⟩:=Am h;simp only [Bool.and_eq_true] at hb;exact ⟨v,rfl,hb.1,h⟩
theorem GC {tm:Nat->PV}{hp:Nat->Option Bj}{v:PV}(hl:JV P ops o tm)(e:gE C P N call ops o ⟨tm,hp⟩=some (v,[],[])) (hd:F4 N o.dst=true)(h:K ⟨Bk tm o.dst v,hp⟩=some r):C6 C P N call ops o ⟨tm,hp⟩ K=some r:=by
 rw [Jy (LX hl),e];show Ao _ _=_;have ha:Bq hp []=true:=rfl;simp only [hd,ha,Bool.and_self];exact h
theorem Ah7 (hw:UF C P o s)(xo:∀d,x.dst=some d->d ∉ looks ops o)(ne:∀d,x.dst=some d->o.dst≠some d)(ox:∀d,o.dst=some d->d ∉ looks ops x)(hl:JV P ops o s.tm)
  (hfar:∀y∈o.op.operands.toList,∀i∈Bo (B7 s.tm y),¬Vv x s.tm s.hp i) (hx:Gh C P ops x s.tm=true)
  (h:C6 C P N call ops x s (fun s1=>C6 C P N call ops o s1 K)=some r):C6 C P N call ops o s (fun s1=>C6 C P N call ops x s1 K)=some r:=by
 rw [H1 hx] at h;obtain ⟨tm,hp⟩:=s;have look:∀v,∀t∈looks ops o,Bk tm x.dst v t=tm t:=fun v=>Eb xo
 have back:∀{u:PV} {hp':Nat->Option Bj} {q:Wm},(∀y∈o.op.operands.toList,∀i∈Bo (B7 tm y),hp' i=hp i)->gE C P N call ops o ⟨Bk tm x.dst u,hp'⟩=some q->gE C P N call ops o ⟨tm,hp⟩=some q:=
  fun hh e=>Yn (s:=⟨Bk tm x.dst _,_⟩) (s':=⟨tm,hp⟩) (look _) (fun _ y hy i hi=>.inl (Ai3 (hh y hy i hi))) e
 have h1:=Jv (P:=P) (N:=N) (o:=x) (tm:=tm) (tm':=tm) (hp:=hp) (hp1:=hp) (K:=fun s1=>C6 C P N call ops o s1 K) (K':=fun _=>none)
  (Rel:=fun (a:Option R)(_:Option R)=>a=some r->∃v,gE C P N call ops o ⟨tm,hp⟩=some (v,[],[])∧F4 N o.dst=true) (fun h=>by cases h) (fun _ _=>rfl) (fun _ _=>.inl rfl) (fun _ _=>rfl) (fun _ _=>rfl) (fun v hp' _ hT h=>by
   obtain ⟨u,hu,hd,_⟩:=AU (V9 (fun t ht=>(look v t ht).symm) hl) h
   exact ⟨u,back (fun y hy i hi=>hT.far i (hfar y hy i hi) (hw.1 y hy i hi)) hu,hd⟩) h
 obtain ⟨v,hv,hd⟩:=h1;refine GC hl hv hd ?_;have t2:∀t∈looks ops x,tm t=Bk tm o.dst v t:=fun t ht=>(Eb ox t ht).symm
 rw [H1 (by rw [←Gx t2];exact hx)]
 refine Jv (P:=P) (N:=N) (o:=x) (tm:=tm) (tm':=Bk tm o.dst v) (hp:=hp) (hp1:=hp) (Rel:=fun (a b:Option R)=>a=some r->b=some r) (fun h=>by cases h) (E5 t2) (fun _ _=>.inl rfl) (fun _ _=>rfl) (fun _ _=>rfl) (fun u hp' hp1' hT h=>?_) h
 have e1:hp'=hp1':=funext fun i=>hT.same i rfl
 subst e1;obtain ⟨v',hv',_,h'⟩:=AU (V9 (fun t ht=>(look u t ht).symm) hl) h
 have he:=back (fun y hy i hi=>hT.far i (fun hR=>hfar y hy i hi (Abd (fun t ht=>(t2 t ht).symm) hR)) (hw.1 y hy i hi)) hv'
 rw [hv] at he;simp only [Option.some.injEq,Prod.mk.injEq,and_true] at he;subst he;rw [←Jn ne];exact h'
theorem Agl (xo:∀d,x.dst=some d->d ∉ looks ops o)(ne:∀d,x.dst=some d->o.dst≠some d)(ox:∀d,o.dst=some d->d ∉ looks ops x)(hl:JV P ops x s.tm)
  (hfar:∀y∈x.op.operands.toList,∀i∈Bo (B7 s.tm y),¬Vv o s.tm s.hp i) (ho:Gh C P ops o s.tm=true)
  (h:C6 C P N call ops x s (fun s1=>C6 C P N call ops o s1 K)=some r):C6 C P N call ops o s (fun s1=>C6 C P N call ops x s1 K)=some r:=by
 obtain ⟨tm,hp⟩:=s;obtain ⟨v,hv,hd,h1⟩:=AU hl h;have t1:∀t∈looks ops o,Bk tm x.dst v t=tm t:=Eb xo;rw [H1 (by rw [Gx t1];exact ho)] at h1
 rw [H1 ho];refine Jv (P:=P) (N:=N) (o:=o) (tm:=Bk tm x.dst v) (tm':=tm) (hp:=hp) (hp1:=hp) (Rel:=fun (a b:Option R)=>a=some r->b=some r) (fun h=>by cases h) (E5 t1) (fun _ _=>.inl rfl) (fun _ _=>rfl) (fun _ _=>rfl) (fun u hp' hp1' hT h=>?_) h1
 have e1:hp'=hp1':=funext fun i=>hT.same i rfl
 subst e1;have t2:∀t∈looks ops x,tm t=Bk tm o.dst u t:=fun t ht=>(Eb ox t ht).symm
 refine GC (V9 t2 hl) (Yn (s:=⟨tm,hp⟩) (s':=⟨Bk tm o.dst u,hp'⟩) t2 (fun _ y hy i hi=>?_) hv) hd ?_
 ·have hi:i∈Bo (B7 tm y):=by rw [E5 t2 y hy];exact hi
  by_cases hn:hp i=none
  ·exact .inr ⟨YT hn,Kd hn⟩
  ·obtain ⟨h3,h4⟩:=Ai3 (hT.far i (hfar y hy i hi) hn);exact .inl ⟨h3.symm,h4.symm⟩
 ·rw [←Jn ne];exact h
def NG (P:Program)(x:Oper)(s s1:St):Prop:=(∀t,x.dst≠some t->s1.tm t=s.tm t)∧(∀i,s.hp i≠none->s1.hp i≠none)∧(Hb P x.op=false->∀i,s.hp i≠none->s1.hp i=s.hp i)
theorem O9 {tm:Nat->PV}{d:Option Tmp}{v:PV}{t:Nat}(h:d≠some t):Bk tm d v t=tm t:=by
 cases d with
 |none=>rfl
 |some d=>exact Ak _ _ (by rintro rfl;exact h rfl)
theorem HI {K':St->Option R}(h:C6 C P N call ops x s K=some r)(hK:∀s1,NG P x s s1->K s1=some r->K' s1=some r):C6 C P N call ops x s K'=some r:=by
 cases hx:Gh C P ops x s.tm
 ·rw [Jy hx] at h ⊢;cases ex:gE C P N call ops x s with
  |none=>rw [ex] at h;cases h
  |some q=>
   rw [ex] at h;obtain ⟨hb,h1⟩:=Am h;simp only [Bool.and_eq_true] at hb;show Ao _ _=_;rw [hb.1,hb.2];refine hK _ ⟨fun t ht=>O9 ht,fun i hi=>M9 hb.2 hi,fun hm i hi=>?_⟩ h1
   show At (Af s.hp q.2.1) q.2.2 i=s.hp i;rw [Fw hb.2 hi,((Sn ex).1 hm).1];simp
 ·rw [H1 hx] at h ⊢
  exact FJ (P:=P) (N:=N) (o:=x) (tm:=s.tm) (tm':=s.tm) (hp:=s.hp) (Rel:=fun (a b:Option R)=>a=some r->b=some r) (fun h=>by cases h) (fun _ _=>rfl) (fun v hp' hh h=>hK _ ⟨fun t ht=>O9 ht,hh,fun hm=>by
   have hM:Rf C P x.op=true:=by unfold Gh at hx;simp only [Bool.and_eq_true] at hx;exact hx.1
   rw [W7 hM] at hm;cases hm⟩ h) h
theorem UF.keeps {s1:St}(h:UF C P o s)(ap:Yd C P ops x o)(hk:NG P x s s1):UF C P o s1:=by
 have hop:∀y∈o.op.operands.toList,B7 s1.tm y=B7 s.tm y:=fun y hy=>E5 (ops:=ops) (o:=o) (fun t ht=>hk.1 t fun hd=>ap.xo t hd ht) y hy
 refine ⟨fun y hy i hi=>?_,fun hM hA y hy i hi c hc p hp k hkk=>?_⟩
 ·rw [hop y hy] at hi;exact hk.2.1 i (h.1 y hy i hi)
 ·rw [hop y hy] at hi;have hi0:=h.1 y hy i hi;rw [hk.2.2 (ap.mo hM) i hi0] at hc;exact hk.2.1 k (h.2 hM hA y hy i hi c hc p hp k hkk)
theorem FQ:∀(l:List Oper){s:St}{K:St->Option R},UF C P o s->(∀x∈l,Yd C P ops x o)->Mq C P N call ops l s (fun s1=>C6 C P N call ops o s1 K)=some r->C6 C P N call ops o s (fun s1=>Mq C P N call ops l s1 K)=some r
 |[],_,_,_,_,h=>h
 |x::l,s,K,hw,ap,h=>by
  refine Al8 hw (ap x (by simp)) ?_
  refine HI (K:=fun s1=>Mq C P N call ops l s1 (fun s2=>C6 C P N call ops o s2 K)) h fun s1 hk h1=>?_
  exact FQ l (hw.keeps (ap x (by simp)) hk) (fun y hy=>ap y (List.mem_cons_of_mem _ hy)) h1
theorem S5:∀(l l':List Oper){s:St}{K:St->Option R},Mq C P N call ops (l++l') s K=Mq C P N call ops l s (fun s1=>Mq C P N call ops l' s1 K)
 |[],_,_,_=>rfl
 |x::l,l',s,K=>by
  show C6 C P N call ops x s (fun s1=>Mq C P N call ops (l++l') s1 K)=C6 C P N call ops x s (fun s1=>Mq C P N call ops l s1 _)
  congr 1
  funext s1
  exact S5 l l'
theorem Aai {l l':List Oper}(hw:UF C P o s)(ap:∀x∈l,Yd C P ops x o)(h:Mq C P N call ops (l++o::l') s K=some r):C6 C P N call ops o s (fun s1=>Mq C P N call ops (l++l') s1 K)=some r:=by
 rw [S5] at h;have:=FQ l hw ap h;refine HI this fun s1 _ h1=>?_
 rw [S5];exact h1
end
open Go.RowKit
section
variable {R:Type} {r:R} {P:Program} {N:Nat} {w0:World} {X0:Ef} {Y:Nat->Prop} {β β':Bt} {s:St} {a:Act} {w w':World} {o:Oper} {ops:Array Oper} {C:Gi} {call:Ah} {K:St->Option R}
theorem Re (h:Bp N w0 X0 Y β s a w){j d:Nat}(hd:(ops[j]?).bind (·.dst)=some d) {v:Value}(ht:s.tm d=.sc v):yielded ops a.tmps j=match v with | .bool b=>some b|_=>none:=by
 have hlt:d<N:=by
  rcases Nat.lt_or_ge d N with h'|h'
  ·exact h'
  ·rw [h.tmo d h'] at ht;cases ht
 have hv:=h.tms d hlt;rw [ht] at hv;have hv:=Na hv;have hlt':d<a.tmps.size:=by rw [h.tsz];exact hlt
 have he:a.tmps[d]?=some v:=by
  rw [Array.getElem?_eq_getElem hlt'];simp [hlt'] at hv;rw [hv]
 unfold yielded;rw [hd];simp only [Option.bind_some,he];cases v<;>rfl
theorem Vu (h:Bp N w0 X0 Y β s a w){G:Se}(hNG:EC P G w0 X0)(hcall:∀f args res,call f args=some res->Cr G P f args res){i:Nat}(hi:ops[i]?=some o) (hk:C6 C P N call ops o s K=some r):
  ∃s',K s'=some r∧∀(next:Act->World->Prop) (Q:Exit->Act->World->Prop),(∀a' w' β',Bp N w0 X0 Y β' s' a' w'->next a' w')->wpOp P ops Q i next a w:=by
 rw [EI] at hk
 have hw:∀b,Fk ops o s.tm=some b->Region.wanted o (yielded ops a.tmps)=b:=by
  intro b hb;unfold Fk at hb;unfold Region.wanted;cases hg:o.guard with
  |none=>rw [hg] at hb;simpa using hb
  |some q=>
   obtain ⟨j,want⟩:=q;rw [hg] at hb;simp only at hb ⊢;cases hd:(ops[j]?).bind (·.dst) with
   |none=>rw [hd] at hb;cases hb
   |some d=>
    rw [hd] at hb;simp only at hb;split at hb
    ·rename_i b' ht;rw [Re h hd ht];simp at hb;rw [←hb];cases b'<;>cases want<;>rfl
    ·rename_i ht;rw [Re h hd ht];simp at hb;rw [hb];rfl
    ·cases hb
 split at hk
 ·cases hk
 ·rename_i hv;obtain ⟨s',hs',hn⟩:=ID h hNG hcall hk;refine ⟨s',hs',fun next Q hnext=>?_⟩
  unfold wpOp;rw [hi];simp only [hw _ hv,if_true];exact .inl (hn next Q hnext)
 ·rename_i hv;obtain ⟨hd,hk⟩:=Am hk;refine ⟨_,hk,fun next Q hnext=>?_⟩
  unfold wpOp;rw [hi];simp only [hw _ hv];refine hnext _ _ β (h.put hd (Av.sc _) (by simp [Bo,B3,Aq]))
theorem Bp.known (h:Bp N w0 X0 Y β s a w){d:Nat}(hd:s.tm d=.ub):∃b,Bp N w0 X0 Y β ⟨Ch s.tm d (.sc (.bool b)),s.hp⟩ a w:=by
 have hlt:d<N:=by
  rcases Nat.lt_or_ge d N with h'|h'
  ·exact h'
  ·rw [h.tmo d h'] at hd;cases hd
 have hu:=h.tms d hlt;rw [hd] at hu;have hu':Av w (Ci s.hp β Y) .ub (a.tmps.getD d undef):=hu
 obtain ⟨b,hv⟩:∃b,a.tmps.getD d undef=.bool b:=by
  generalize a.tmps.getD d undef=x at hu';cases hu' with
  |ub b=>exact ⟨b,rfl⟩
 refine ⟨b,⟨h.dfr,h.tsz,fun i hi=>?_,fun i hi=>?_,h.box,h.inj,h.blt,fun i hi=>?_,h.wfB,h.ownd,h.rngB,h.pin,h.stp,h.Yx,h.Ylt,h.fr⟩⟩
 ·show Ch s.tm d _ i=_;rw [Ak _ _ (by omega)]
  exact h.tmo i hi
 ·by_cases e:i=d
  ·subst e;show C9 _ _ _ (Ch s.tm i _ i) _;rw [Ap,hv];exact Av.sc _
  ·show C9 _ _ _ (Ch s.tm d _ i) _;rw [Ak _ _ e];exact h.tms i hi
 ·by_cases e:i=d
  ·subst e;show ∀id∈Bo (Ch s.tm i _ i),_;rw [Ap];simp [Bo,B3,Aq]
  ·show ∀id∈Bo (Ch s.tm d _ i),_;rw [Ak _ _ e];exact h.wfT i hi
theorem LF {x y:Option R}(h:U9 x y=some r):x=some r∧y=some r:=by
 unfold U9 at h;split at h
 ·rename_i e;exact ⟨h,e ▸ h⟩
 ·cases h
theorem Rs (h:Bp N w0 X0 Y β s a w){F:St->Option R}(hk:UZ ops o s F=some r):∃s',F s'=some r∧Bp N w0 X0 Y β s' a w:=by
 unfold UZ at hk;split at hk
 ·exact ⟨s,hk,h⟩
 ·split at hk
  ·exact ⟨s,hk,h⟩
  ·split at hk
   ·rename_i d _ ht;obtain ⟨b,hb⟩:=h.known ht;obtain ⟨h1,h2⟩:=LF hk;cases b
    ·exact ⟨_,h2,hb⟩
    ·exact ⟨_,h1,hb⟩
   ·exact ⟨s,hk,h⟩
theorem Ya {G:Se}(hNG:EC P G w0 X0)(hcall:∀f args res,call f args=some res->Cr G P f args res){Q:Exit->Act->World->Prop}(hQ:∀s' a' w' β',K s'=some r->Bp N w0 X0 Y β' s' a' w'->Q .normal a' w'):
  ∀(l:List Nat) (os:List Oper),l.length=os.length->(∀(k i:Nat),l[k]?=some i->ops[i]?=os[k]?)->∀{s:St} {a:Act} {w:World} {β:Bt},Bp N w0 X0 Y β s a w->Li C P N call ops os s K=some r->wpOps P ops Q l a w
 |[],[],_,_,s,a,w,β,h,hk=>by
  show Q .normal a w;exact hQ s a w β hk h
 |[],_::_,hl,_,_,_,_,_,_,_=>by cases hl
 |_::_,[],hl,_,_,_,_,_,_,_=>by cases hl
 |i::l,o::os,hl,hi,s,a,w,β,h,hk=>by
  rw [wpOps_cons];obtain ⟨s1,hk,h⟩:=Rs h hk;obtain ⟨s',hs',hn⟩:=Vu h hNG hcall (by simpa using hi 0 i rfl) hk
  exact hn _ _ fun a' w' β' h'=>Ya hNG hcall hQ l os (by simpa using hl) (fun k j hj=>by simpa using hi (k+1) j (by simpa using hj)) h' hs'
theorem Bp.drew (h:Bp N w0 X0 Y β s a w):Bp N w0 X0 Y β s a { w with drawn:=w.drawn+1 }:=by
 have:=h.stepR (d:=none) (v:=.top) (nw:=[]) (val:=undef) (w':={ w with drawn:=w.drawn+1 }) (β':=β) rfl rfl
  ⟨rfl,rfl,rfl,⟨Nat.le_refl _,fun _ _ _=>rfl,fun _ _=>Nat.le_refl _⟩,fun _ _=>rfl,by simp,by simp,by simp,by simp,by simp,.top _,by simp [Bo,B3,Aq]⟩
 exact this
theorem PT (h:Bp N w0 X0 Y β s a w){G:Se}(hNG:EC P G w0 X0)(hcall:∀f args res,call f args=some res->Cr G P f args res){id:Nat}{Q:Exit->Act->World->Prop}
  (hk:Li C P N call ops ops.toList s K=some r)(hQ:∀s' a' w' β',K s'=some r->Bp N w0 X0 Y β' s' a' w'->Q .normal a' w'):(Code.region id ops false).wp P Q a w:=by
 refine wp_region (Ya hNG hcall hQ (List.range ops.size) ops.toList (by simp) (fun k i hi=>?_) h hk)
 rw [List.getElem?_range] at hi
 ·simp at hi;subst hi;simp
 ·rcases Nat.lt_or_ge k ops.size with h'|h'
  ·exact h'
  ·rw [List.getElem?_eq_none (by simpa using h')] at hi;cases hi
def Mk (n:Nat)(listed:Array Bool):List Nat:=(List.range n).filter fun i=> !listed.getD i true
def Akh (ops:Array Oper)(listed:Array Bool)(o:Oper):Prop:=∀e∈o.after,Region.binds .any e=true->listed.getD e.on false=true
theorem testBit_or {a b j:Nat}:(a ||| b).testBit j=(a.testBit j||b.testBit j):=Nat.testBit_or a b j
theorem LN {acc:List Nat}{j:Nat}:∀(es:List Edge)(v:Nat),(es.foldl (fun s e=>bif Region.binds .any e then s ||| 2 ^ e.on ||| acc.getD e.on 0 else s) v).testBit j=true ->
  v.testBit j=true∨∃e∈es,Region.binds .any e=true∧(j=e.on∨(acc.getD e.on 0).testBit j=true)
 |[],v,h=>.inl h
 |e::es,v,h=>by
  rcases LN es _ h with h|⟨e',he',h⟩
  ·cases hb:Region.binds .any e<;>simp only [hb] at h
   ·exact .inl h
   ·simp only [cond_true,Nat.testBit_or,Bool.or_eq_true] at h;rcases h with (h|h)|h
    ·exact .inl h
    ·refine .inr ⟨e,by simp,hb,.inl ?_⟩
     rw [Nat.testBit_two_pow] at h;exact (of_decide_eq_true h).symm
    ·exact .inr ⟨e,by simp,hb,.inr h⟩
  ·exact .inr ⟨e',by simp [he'],h⟩
theorem Ro {listed:Array Bool}(hc:∀(j:Nat) oj,ops[j]?=some oj->listed.getD j false=true->Akh ops listed oj):
  ∀(rest done:List Oper) (acc:List Nat),ops.toList=done++rest->acc.length=done.length ->
   (∀(k:Nat) o,done[k]?=some o->Akh ops listed o->∀j,(acc.getD k 0).testBit j=true->listed.getD j false=true) ->
   ∀(k:Nat) o,ops[k]?=some o->Akh ops listed o->∀j,((Hs rest acc).getD k 0).testBit j=true->listed.getD j false=true
 |[],done,acc,he,_,h,k,o,ho,hf,j,hj=>by
  refine h k o ?_ hf j hj;rw [List.append_nil] at he;rw [←he]
  simpa using ho
 |o'::rest,done,acc,he,hl,h,k,o,ho,hf,j,hj=>by
  refine Ro hc rest (done++[o']) _ (by rw [he];simp) (by simp [hl]) ?_ k o ho hf j hj
  intro k o ho hf j hj;rcases Nat.lt_trichotomy k done.length with hlt|heq|hgt
  ·rw [List.getElem?_append_left hlt] at ho;rw [List.getD_eq_getElem?_getD,List.getElem?_append_left (by omega),←List.getD_eq_getElem?_getD] at hj
   exact h k o ho hf j hj
  ·subst heq;simp at ho;subst ho;rw [←hl] at hj;simp only [List.getD_eq_getElem?_getD,List.getElem?_append_right (Nat.le_refl _),Nat.sub_self,List.getElem?_cons_zero,Option.getD_some] at hj
   have hj:(o'.after.toList.foldl (fun s e=>bif Region.binds .any e then s ||| 2 ^ e.on ||| acc.getD e.on 0 else s) 0).testBit j=true:=by
    simpa only [List.getD_eq_getElem?_getD] using hj
   rcases LN _ _ hj with h0|⟨e,hm,hb,h1⟩
   ·simp at h0
   ·have hl1:=hf e (by simpa using hm) hb
    rcases h1 with h1|h1
    ·rw [h1];exact hl1
    ·cases hd:done[e.on]? with
     |none=>
      have:acc.getD e.on 0=0:=by
       rw [List.getD_eq_getElem?_getD,List.getElem?_eq_none (by rw [hl];exact List.getElem?_eq_none_iff.1 hd)]
       rfl
      rw [this] at h1;simp at h1
     |some oe=>
      have hoe:ops[e.on]?=some oe:=by
       rw [←Array.getElem?_toList,he,List.getElem?_append_left (by
        rcases Nat.lt_or_ge e.on done.length with h'|h'
        ·exact h'
        ·rw [List.getElem?_eq_none h'] at hd;cases hd)]
       exact hd
      exact h e.on oe hd (hc e.on oe hoe hl1) j h1
  ·rw [List.getElem?_eq_none (by simp;omega)] at ho
   cases ho
theorem Y8 {bs:List Nat}:∀(l:List Oper)(n:Nat),EF C P ops bs l n=true->∀(k:Nat) o,l[k]?=some o->∀(j:Nat) x,ops[j]?=some x->j<n+k->HZ C P ops x o=true->(bs.getD (n+k) 0).testBit j=true
 |[],_,_,k,o,ho,_,_,_,_,_=>by simp at ho
 |o'::l,n,h,k,o,ho,j,x,hx,hj,hcl=>by
  simp only [EF,Bool.and_eq_true] at h;cases k with
  |zero=>
   simp at ho;subst ho
   have:=List.all_eq_true.1 h.1 (x,j) (by
    rw [List.mem_zipIdx_iff_getElem?]
    simpa using hx)
   simp only [hcl,Bool.not_true,Bool.or_false,Bool.or_eq_true,Bool.not_eq_true'] at this;rcases this with h'|h'
   ·have:Nat.blt j n=true:=Nat.ble_eq_true_of_le (by omega)
    rw [this] at h';cases h'
   ·exact h'
  |succ k=>
   have:=Y8 l (n+1) h.2 k o (by simpa using ho) j x hx (by omega) hcl
   rwa [show n+(k+1)=n+1+k by omega]
theorem I2 {n i:Nat}{listed:Array Bool}:i∈Mk n listed↔i<n∧listed.getD i true=false:=by
 unfold Mk;simp [List.mem_filter]
theorem Vr {n i:Nat}{listed:Array Bool}(hi:i∈Mk n listed)(hsz:listed.size=n):∃l1 l2,Mk n listed=l1++i::l2∧Mk n (listed.setIfInBounds i true)=l1++l2∧∀j∈l1,j<i:=by
 obtain ⟨hlt,hun⟩:=I2.1 hi
 have hr:List.range n=List.range i++i::(List.range (n-i-1)).map (i+1 + ·):=by
  conv=>lhs;rw [show n=i+(1+(n-i-1)) by omega]
  rw [List.range_add,List.range_add];simp [Nat.add_assoc]
 refine ⟨(List.range i).filter fun i=> !listed.getD i true,((List.range (n-i-1)).map (i+1 + ·)).filter fun i=> !listed.getD i true,?_,?_,fun j hj=>?_⟩
 ·unfold Mk;rw [hr,List.filter_append,List.filter_cons_of_pos (by rw [hun];rfl)]
 ·unfold Mk;rw [hr,List.filter_append,List.filter_cons_of_neg (by simp [hsz,hlt])]
  congr 1
  ·refine List.filter_congr fun j hj=>?_
   rw [getD_set_ne true (by have:=List.mem_range.1 hj;omega)]
  ·refine List.filter_congr fun j hj=>?_
   obtain ⟨k,_,rfl⟩:=List.mem_map.1 hj;rw [getD_set_ne true (by omega)]
 ·exact List.mem_range.1 (List.mem_filter.1 hj).1
theorem Afk (h:Bp N w0 X0 Y β s a w)(o:Oper):UF C P o s:=by
 refine ⟨fun y _ i hi=>Eo h y i hi,fun _ _ y _ i hi c hc p hp k hk=>h.wfB i c hc p hp k hk⟩
theorem KI (hok1:(ops.toList.zipIdx.all fun q=>q.1.after.toList.all fun e=> !Region.binds .any e||Nat.blt e.on q.2)=true) {listed:Array Bool}(inv:HeadInv .any ops ops.size listed)(hr:Region.ready .any ops listed=[]):Mk ops.size listed=[]:=by
 cases hp:Mk ops.size listed with
 |nil=>rfl
 |cons i l=>
  exfalso;have hi:i∈Mk ops.size listed:=by rw [hp];simp
  obtain ⟨hlt,hun⟩:=I2.1 hi;obtain ⟨l1,l2,h1,_,h3⟩:=Vr hi inv.size
  have hl1:l1=[]:=by
   cases l1 with
   |nil=>rfl
   |cons j l1=>
    rw [hp] at h1;simp at h1;have:=h3 j (by simp)
    omega
  subst hl1
  have hmin:∀j,j<i->listed.getD j false=true:=by
   intro j hj;cases hh:listed.getD j false with
   |true=>rfl
   |false=>
    have:j∈Mk ops.size listed:=I2.2 ⟨by omega,getD_in (by rw [inv.size];omega) hh⟩
    have hs:(Mk ops.size listed).Pairwise (· < ·):=List.Pairwise.filter _ List.pairwise_lt_range
    rw [h1] at this hs;simp at this;rcases this with e|e
    ·omega
    ·have:=(List.pairwise_cons.1 hs).1 j e;omega
  have:i∈Region.ready .any ops listed:=by
   refine mem_ready.2 ⟨hun,ops[i],Array.getElem?_eq_getElem hlt,fun e he hb=>hmin _ ?_⟩
   have:=List.all_eq_true.1 hok1 (ops[i],i) (by
    rw [List.mem_zipIdx_iff_getElem?];simp [hlt])
   have:=List.all_eq_true.1 this e (Array.mem_toList_iff.2 he);simp only [hb,Bool.not_true,Bool.false_or] at this;exact Nat.lt_of_succ_le (Nat.le_of_ble_eq_true this)
  rw [hr] at this;simp at this
theorem OX {G:Se}(hNG:EC P G w0 X0)(hcall:∀f args res,call f args=some res->Cr G P f args res)(hok:FH C P ops=true){Q:Exit->Act->World->Prop}(hQ:∀s' a' w' β',K s'=some r->Bp N w0 X0 Y β' s' a' w'->Q .normal a' w'):
  ∀(fuel:Nat) {listed:Array Bool} {s:St} {a:Act} {w:World} {β:Bt},HeadInv .any ops ops.size listed->(Mk ops.size listed).length=fuel->Bp N w0 X0 Y β s a w->Mq C P N call ops ((Mk ops.size listed).filterMap (ops[·]?)) s K=some r->wpAny P .any ops Q fuel listed a w:=by
 unfold FH at hok;simp only [Bool.and_eq_true] at hok;obtain ⟨hok1,hok2⟩:=hok;intro fuel
 induction fuel with
 |zero=>
  intro listed s a w β inv hf h hk;have hp:=List.eq_nil_of_length_eq_zero hf;rw [hp] at hk;refine ⟨?_,hQ s a w β hk h⟩;cases hr:Region.ready .any ops listed with
  |nil=>rfl
  |cons i l=>
   exfalso;have hi:i∈Region.ready .any ops listed:=by rw [hr];simp
   obtain ⟨hun,o,ho,_⟩:=mem_ready.1 hi;have:i∈Mk ops.size listed:=I2.2 ⟨(Array.getElem?_eq_some_iff.1 ho).1,hun⟩;rw [hp] at this;simp at this
 |succ fuel ih=>
  intro listed s a w β inv hf h hk;refine ⟨fun hr=>?_,fun i hi=>?_⟩
  ·rw [KI hok1 inv hr] at hf;cases hf
  ·obtain ⟨hun,o,ho,hall⟩:=mem_ready.1 hi;have hlt:i<ops.size:=(Array.getElem?_eq_some_iff.1 ho).1;obtain ⟨l1,l2,h1,h2,h3⟩:=Vr (I2.2 ⟨hlt,hun⟩) inv.size;rw [h1,List.filterMap_append,List.filterMap_cons_some ho] at hk
   have hap:∀x∈l1.filterMap (ops[·]?),Yd C P ops x o:=by
    intro x hx;obtain ⟨j,hj,hxj⟩:=List.mem_filterMap.1 hx;refine Aei ?_;cases hcl:HZ C P ops x o with
    |false=>rfl
    |true=>
     exfalso;have hbit:=Y8 ops.toList 0 hok2 i o (by simpa using ho) j x hxj (by have:=h3 j hj;omega) hcl
     rw [Nat.zero_add] at hbit;have hjl:=Ro (listed:=listed) (fun j oj hj hl=>inv.closed j oj hj hl) ops.toList [] [] (by simp) rfl (by simp) i o ho hall j hbit
     have:j∈Mk ops.size listed:=by rw [h1];simp [hj]
     have:=getD_both (I2.1 this).2;rw [hjl] at this;cases this
   obtain ⟨s',hs',hn⟩:=Vu h hNG hcall ho (Aai (Afk h o) hap hk);refine hn _ _ fun a' w' β' h'=>ih (inv.set hi hlt) ?_ h' ?_
   ·rw [h2];rw [h1] at hf;simp at hf ⊢;omega
   ·rw [h2,List.filterMap_append];exact hs'
theorem Qg (h:Bp N w0 X0 Y β s a w){G:Se}(hNG:EC P G w0 X0)(hcall:∀f args res,call f args=some res->Cr G P f args res)(hm:P.follows .mixedOrders=true)(hok:FH C P ops=true){Q:Exit->Act->World->Prop}
  (hk:Mq C P N call ops ops.toList s K=some r)(hQ:∀s' a' w' β',K s'=some r->Bp N w0 X0 Y β' s' a' w'->Q .normal a' w'):wpAny P .any ops Q ops.size (Array.replicate ops.size false) a { w with drawn:=w.drawn+1 }:=by
 have hp:Mk ops.size (Array.replicate ops.size false)=List.range ops.size:=by
  unfold Mk;refine List.filter_eq_self.2 fun i hi=>?_
  have:=List.mem_range.1 hi;simp [this]
 refine OX (C:=C) hNG hcall hok hQ ops.size ⟨by simp,fun j oj _ hl=>(by rw [getD_replicate_false] at hl;cases hl),fun t ht ht'=>by omega⟩ (by rw [hp];simp) h.drew ?_
 rw [hp]
 have:(List.range ops.size).filterMap (ops[·]?)=ops.toList:=by
  refine List.ext_getElem? fun k=>?_
  have:∀(n:Nat),n<=ops.size->(List.range n).filterMap (ops[·]?)=ops.toList.take n:=by
   intro n
   induction n with
   |zero=>intro _;rfl
   |succ n ih=>
    intro hn;rw [List.range_succ,List.filterMap_append,ih (by omega),List.take_add_one]
    congr 1
    have:ops[n]?=some ops[n]:=Array.getElem?_eq_getElem (by omega)
    simp [this]
  rw [this ops.size (Nat.le_refl _)]
  congr 1
  exact List.take_of_length_le (by simp)
 rw [this];exact hk
theorem NN (h:Bp N w0 X0 Y β s a w){G:Se}(hNG:EC P G w0 X0)(hcall:∀f args res,call f args=some res->Cr G P f args res)(hm:P.follows .mixedOrders=true)(hok:FH C P ops=true){id:Nat}{Q:Exit->Act->World->Prop}
  (hk:Mq C P N call ops ops.toList s K=some r)(hQ:∀s' a' w' β',K s'=some r->Bp N w0 X0 Y β' s' a' w'->Q .normal a' w'):(Code.region id ops true).wp P Q a w:=
 wp_region_any hm (Qg h hNG hcall hm hok hk hQ)
end
end
section
open Go.RowKit
section
variable {R R':Type} {Rel:Option R->Option R'->Prop} {P:Program} {N:Nat} {tm tm':Nat->PV} {hp hp1:Nat->Option Bj} {o:Oper}
theorem Ace (hn:Rel none none){C:Gi}{call:Ah}{K:St->Option R}{K':St->Option R'}(hap:Nb o.op=true)(htm:∀x∈o.op.operands.toList,B7 tm x=B7 tm' x)
  (hS:∀i,Vv o tm' hp1 i->hp i=hp1 i∨(hp i=none∧∀b,Rel none b)) (hdd:∀d,o.dst=some d->hp d=hp1 d)
  (hK:∀v hp' hp1',(∀M,JS M (Vv o tm' hp1) o.dst hp hp1 hp' hp1')->Rel (K ⟨Bk tm o.dst v,hp'⟩) (K' ⟨Bk tm' o.dst v,hp1'⟩)):Rel (Ur C P N call ⟨tm,hp⟩ o K) (Ur C P N call ⟨tm',hp1⟩ o K'):=by
 unfold Ur;have hl:∀x∈o.op.operands.toList,∀i∈Bo (B7 tm' x),Vv o tm' hp1 i:=fun x hx i hi=>.inl ⟨x,hx,hi⟩
 generalize hLd:Vv o tm' hp1=S at *
 generalize hop:o.op=op at *
 unfold Nb at hap;split at hap
 ·rename_i c
  have hmem:∀x∈c.args.toList,x∈(Op.call c).operands.toList:=by
   intro x hx;simp only [Op.operands,Call.operands,Array.toList_append,List.mem_append];exact .inr hx
  split at hap
  ·rename_i hc;simp only [hc];refine Db hn fun d hd=>Bg hn fun x _ hx=>Bg hn fun y _ hy=>Em hn (Bg hn fun _ _ _=>Bg hn fun _ _ _=>?_)
   subst hy;have hxm:=hmem x (by rw [hx];simp)
   have hym:=hmem y (by rw [hx];simp)
   simp only [htm x hxm,htm y hym];refine Xl hn hS (hdd d hd) (fun i hi=>hl x hxm i (Ff hi)) (fun i hi=>hl y hym i (Ff hi)) fun v hp' hp1' hh=>?_
   have:=hK v hp' hp1' (by rw [hd];exact hh)
   rw [hd] at this;exact this
  ·cases hap
 ·cases hap
theorem P4 {C:Gi}{call:Ah}(hap:Nb o.op=true)(htm:∀x∈o.op.operands.toList,B7 tm x=B7 tm' x)(hS:∀i,Vv o tm' hp1 i->hp i=hp1 i)(hdd:∀d,o.dst=some d->hp d=hp1 d){s1:St}
  (h:Ur C P N call ⟨tm,hp⟩ o some=some s1):∃v hp' hp1',s1=⟨Bk tm o.dst v,hp'⟩∧Ur C P N call ⟨tm',hp1⟩ o some=some ⟨Bk tm' o.dst v,hp1'⟩∧∀M,JS M (Vv o tm' hp1) o.dst hp hp1 hp' hp1':=by
 have:=Ace (P:=P) (N:=N) (C:=C) (call:=call) (o:=o) (tm:=tm) (tm':=tm') (hp:=hp) (hp1:=hp1) (K:=some) (K':=some)
  (Rel:=fun (a b:Option St)=>∀s1,a=some s1->∃v hp' hp1',s1=⟨Bk tm o.dst v,hp'⟩∧b=some ⟨Bk tm' o.dst v,hp1'⟩∧∀M,JS M (Vv o tm' hp1) o.dst hp hp1 hp' hp1') (fun _ h=>by cases h) hap htm (fun i hi=>.inl (hS i hi)) hdd
  (fun v hp' hp1' hT s1 h=>by cases h;exact ⟨v,hp',hp1',rfl,rfl,hT⟩)
 exact this s1 h
end
section
variable {R R':Type} {r:R} {r':R'} {C:Gi} {P:Program} {N:Nat} {call:Ah} {ops:Array Oper} {o x:Oper} {s s1 s2:St} {K:St->Option R}
theorem Tj {tm:Nat->PV}(h:Gh C P ops o tm=true):Rf C P o.op=true:=by
 unfold Gh at h;simp only [Bool.and_eq_true] at h;exact h.1
theorem NK (h:Nb o.op=true):Rf C P o.op=true:=by
 unfold Nb at h;split at h
 ·rename_i c hc;rw [hc];split at h
  ·rename_i hcc;simp only [Rf,hcc];exact h
  ·cases h
 ·cases h
theorem Nl (h:C6 C P N call ops x s K=some r):∃s1,C6 C P N call ops x s some=some s1∧NG P x s s1∧(Tc P x.op=true->s1.hp=s.hp)∧K s1=some r:=by
 cases hx:Gh C P ops x s.tm
 ·rw [Jy hx] at h ⊢;cases ex:gE C P N call ops x s with
  |none=>rw [ex] at h;cases h
  |some q=>
   rw [ex] at h;obtain ⟨hb,h1⟩:=Am h;simp only [Bool.and_eq_true] at hb;refine ⟨_,?_,⟨fun t ht=>O9 ht,fun i hi=>M9 hb.2 hi,fun hm i hi=>?_⟩,fun hl=>?_,h1⟩
   ·show Ao _ _=_;rw [hb.1,hb.2];rfl
   ·show At (Af s.hp q.2.1) q.2.2 i=s.hp i;rw [Fw hb.2 hi,((Sn ex).1 hm).1];simp
   ·show At (Af s.hp q.2.1) q.2.2=s.hp;obtain ⟨h1,h2⟩:=YU (.inl hl) ex;rw [h1,h2]
    funext i
    show Af s.hp [] i=_;rw [Bu];simp
 ·rw [H1 hx] at h ⊢
  exact FJ (P:=P) (N:=N) (o:=x) (tm:=s.tm) (tm':=s.tm) (hp:=s.hp) (K':=some) (Rel:=fun (a:Option R) (b:Option St)=>a=some r->∃s1,b=some s1∧NG P x s s1∧(Tc P x.op=true->s1.hp=s.hp)∧K s1=some r) (fun h=>by cases h) (fun _ _=>rfl) (fun v hp' hh h=>⟨_,rfl,⟨fun t ht=>O9 ht,hh,fun hm=>(by
   rw [W7 (Tj hx)] at hm;cases hm)⟩,fun hl=>(by
   have:=Tj hx;rw [J3 hl] at this;cases this),h⟩) h
theorem Uc {K':St->Option R'}(h:C6 C P N call ops x s some=some s1)(hk:K' s1=some r'):C6 C P N call ops x s K'=some r':=by
 cases hx:Gh C P ops x s.tm
 ·rw [Jy hx] at h ⊢;cases ex:gE C P N call ops x s with
  |none=>rw [ex] at h;cases h
  |some q=>
   rw [ex] at h;obtain ⟨hb,h1⟩:=Am h;show Ao _ _=_;rw [hb];cases h1;exact hk
 ·rw [H1 hx] at h ⊢;exact FJ (P:=P) (N:=N) (o:=x) (tm:=s.tm) (tm':=s.tm) (hp:=s.hp) (K:=some) (Rel:=fun (a:Option St) (b:Option R')=>a=some s1->b=some r') (fun h=>by cases h) (fun _ _=>rfl) (fun v hp' hh h=>by cases h;exact hk) h
theorem OS {d:Nat}{t tx:TypeId}{b y:PV}(h:Oo P N s d t tx b y K=some r):s.hp d=none:=by
 unfold Oo at h;split at h
 ·obtain ⟨_,h⟩:=Am h;cases hI:Zd P tx
  ·rw [hI,cond_false] at h;refine Zz (P:=P) (tm:=s.tm) (tm':=s.tm) (hp:=s.hp) (hp1:=s.hp) (S:=fun _=>True) (K':=fun _ _=>(none:Option R)) (Rel:=fun (a:Option R) (_:Option R)=>a=some r->s.hp d=none) (fun h=>by cases h) (fun _ _=>.inl rfl) (fun _ _=>trivial) (fun m new h=>?_) h
   split at h
   ·split at h
    ·obtain ⟨hb,_⟩:=Am h;simp only [Bool.and_eq_true,Option.isNone_iff_eq_none] at hb;simp only [hb]
    ·cases h
   ·obtain ⟨_,_,_,h,_⟩:=Fi h;obtain ⟨hb,_⟩:=Am h;simp only [Bool.and_eq_true,Option.isNone_iff_eq_none] at hb;simp only [hb]
  ·rw [hI,cond_true] at h;unfold Tb at h;obtain ⟨_,_,_,h⟩:=C1 h;obtain ⟨_,_,_,h,_⟩:=Fi h;obtain ⟨hb,_⟩:=Am h;simp only [Bool.and_eq_true,Option.isNone_iff_eq_none] at hb;simp only [hb]
 ·cases h
theorem Ahe (hw:UF C P o s)(hwx:∀y∈x.op.operands.toList,∀i∈Bo (B7 s.tm y),s.hp i≠none) (xo:∀d,x.dst=some d->d ∉ looks ops o)(ne:∀d,x.dst=some d->o.dst≠some d)(ox:∀d,o.dst=some d->d ∉ looks ops x)
  (hax:Nb x.op=true)(hao:Nb o.op=true)(hfar:∀i,Vv x s.tm s.hp i->¬Vv o s.tm s.hp i)(hx:Gh C P ops x s.tm=true)(ho:Gh C P ops o s.tm=true)
  (h:C6 C P N call ops x s (fun s1=>C6 C P N call ops o s1 K)=some r):C6 C P N call ops o s (fun s1=>C6 C P N call ops x s1 K)=some r:=by
 obtain ⟨tm,hp⟩:=s;obtain ⟨s1,e1,_,_,h⟩:=Nl h;obtain ⟨s2,e2,_,_,h⟩:=Nl h;rw [H1 hx] at e1
 have hSx:∀i,Vv x tm hp i->hp i≠none:=by
  rintro i (⟨y,hy,hi⟩|⟨hap,_⟩)
  ·exact hwx y hy i hi
  ·rw [hax] at hap;cases hap
 have hSo:∀i,Vv o tm hp i->hp i≠none:=by
  rintro i (⟨y,hy,hi⟩|⟨hap,_⟩)
  ·exact hw.1 y hy i hi
  ·rw [hao] at hap;cases hap
 obtain ⟨vx,hpx,hpx',rfl,e1',T1⟩:=P4 hax (fun _ _=>rfl) (fun _ _=>rfl) (fun _ _=>rfl) e1
 have:hpx'=hpx:=by
  rw [e1] at e1';injection e1' with q;injection q with _ q;exact q.symm
 subst this;have t1:∀t∈looks ops o,Bk tm x.dst vx t=tm t:=Eb xo;have t1o:=E5 (ops:=ops) (o:=o) t1;rw [H1 (by rw [Gx t1];exact ho)] at e2
 have hRo:∀i,Vv o (Bk tm x.dst vx) hpx' i↔Vv o tm hp i:=by
  intro i;constructor
  ·rintro (⟨y,hy,hi⟩|⟨hap,_⟩)
   ·exact .inl ⟨y,hy,by rw [←t1o y hy];exact hi⟩
   ·rw [hao] at hap;cases hap
  ·rintro (⟨y,hy,hi⟩|⟨hap,_⟩)
   ·exact .inl ⟨y,hy,by rw [t1o y hy];exact hi⟩
   ·rw [hao] at hap;cases hap
 have hfree:∀{s:St} {o:Oper} {s2:St},Nb o.op=true->Ur C P N call s o some=some s2->∀d,o.dst=some d->s.hp d=none:=by
  intro s o s2 hao e d hd;unfold Ur at e;unfold Nb at hao;split at hao
  ·rename_i c hc;rw [hc] at e;simp only at e;split at hao
   ·rename_i hcc;rw [hcc] at e;simp only [hd,D3] at e;obtain ⟨_,_,_,e⟩:=A8 e;obtain ⟨_,_,_,e⟩:=A8 e;obtain ⟨_,e⟩:=C7 e;obtain ⟨_,_,_,e⟩:=A8 e;obtain ⟨_,_,_,e⟩:=A8 e;exact OS e
   ·cases hao
  ·cases hao
 have hpo0:∀d,o.dst=some d->hp d=none:=by
  intro d hd;have h0:=hfree hao e2 d hd;cases hh:hp d with
  |none=>rfl
  |some b=>exact absurd h0 ((T1 0).keep d (by rw [hh];simp))
 have hpx0:=hfree hax e1;simp only at hpx0;have hoS:∀d,o.dst=some d->¬Vv x tm hp d:=fun d hd hR=>hSx d hR (hpo0 d hd)
 have hxS:∀d,x.dst=some d->¬Vv o tm hp d:=fun d hd hR=>hSo d hR (hpx0 d hd)
 obtain ⟨vo,hpxo,hpo,rfl,e3,T2⟩:=P4 (tm':=tm) (hp1:=hp) hao t1o (fun i hi=>(T1 0).far i (fun hR=>hfar i hR hi) (hSo i hi)) (fun d hd=>((T1 (d+1)).off d (by omega) (fun e=>ne d e hd) (.inl (hoS d hd))).1) e2
 obtain ⟨vo',hpo',hpo'',e3a,e3b,T3⟩:=P4 (tm':=tm) (hp1:=hp) hao (fun _ _=>rfl) (fun _ _=>rfl) (fun _ _=>rfl) e3
 rw [e3] at e3b
 have hpoe:hpo'=hpo∧hpo''=hpo:=by
  injection e3a with _ q1;injection e3b with q2;injection q2 with _ q3;exact ⟨q1.symm,q3.symm⟩
 obtain ⟨rfl,rfl⟩:=hpoe;have t2:∀t∈looks ops x,tm t=Bk tm o.dst vo t:=fun t ht=>(Eb ox t ht).symm
 have t2x:=E5 (ops:=ops) (o:=x) t2
 have hRx:∀i,Vv x (Bk tm o.dst vo) hpo'' i↔Vv x tm hp i:=by
  intro i;constructor
  ·rintro (⟨y,hy,hi⟩|⟨hap,_⟩)
   ·exact .inl ⟨y,hy,by rw [t2x y hy];exact hi⟩
   ·rw [hax] at hap;cases hap
  ·rintro (⟨y,hy,hi⟩|⟨hap,_⟩)
   ·exact .inl ⟨y,hy,by rw [←t2x y hy];exact hi⟩
   ·rw [hax] at hap;cases hap
 obtain ⟨vx2,hpx2,hpox,e4a,e4,T4⟩:=P4 (tm':=Bk tm o.dst vo) (hp1:=hpo'') hax t2x (fun i hi=>((T3 0).far i (hfar i ((hRx i).1 hi)) (hSx i ((hRx i).1 hi))).symm) (fun d hd=>((T3 (d+1)).off d (by omega) (fun e=>ne d hd e) (.inl (hxS d hd))).1.symm) e1
 have hvx:Bk tm x.dst vx=Bk tm x.dst vx2∧hpx'=hpx2:=by
  injection e4a with q1 q2;exact ⟨q1,q2⟩
 obtain ⟨hvx,rfl⟩:=hvx;obtain ⟨_,hq1,hq2,e5a,e5b,T5⟩:=P4 (tm':=Bk tm x.dst vx) (hp1:=hpx') hao (fun _ _=>rfl) (fun _ _=>rfl) (fun _ _=>rfl) e2
 have hq:hq1=hpxo:=by injection e5a with _ q1;exact q1.symm
 subst hq;obtain ⟨_,hu1,hu2,e6a,e6b,T6⟩:=P4 (tm':=Bk tm o.dst vo) (hp1:=hpo'') hax (fun _ _=>rfl) (fun _ _=>rfl) (fun _ _=>rfl) e4
 have hu:hu1=hpox:=by injection e6a with _ q1;exact q1.symm
 subst hu
 have hmem:hq1=hu1:=by
  funext i
  by_cases hi:Vv o tm hp i∨o.dst=some i
  ·have hxi:¬Vv x tm hp i:=by
    rcases hi with hi|hi
    ·exact fun hR=>hfar i hR hi
    ·exact hoS i hi
   have hdi:x.dst≠some i:=by
    rcases hi with hi|hi
    ·exact fun e=>hxS i e hi
    ·exact fun e=>ne i e hi
   rw [(T2 0).same i ((T1 (i+1)).off i (by omega) hdi (.inl hxi)).1]
   exact ((T6 (i+1)).off i (by omega) hdi (.inl fun hR=>hxi ((hRx i).1 hR))).1.symm
  ·have hoi:¬Vv o tm hp i:=fun e=>hi (.inl e)
   have hdi:o.dst≠some i:=fun e=>hi (.inr e)
   rw [((T5 (i+1)).off i (by omega) hdi (.inl fun hR=>hoi ((hRo i).1 hR))).1]
   exact (T4 0).same i ((T3 (i+1)).off i (by omega) hdi (.inl hoi)).1.symm
 refine Uc (s1:=⟨Bk tm o.dst vo,hpo''⟩) (by rw [H1 ho];exact e3) ?_
 refine Uc (s1:=⟨Bk (Bk tm o.dst vo) x.dst vx2,hu1⟩) (by rw [H1 (by rw [←Gx t2];exact hx)];exact e4) ?_
 rw [←Jn ne,←hvx,←hmem];exact h
theorem Xw (hM:Rf C P o.op=true){i:Nat}(h:Vv o s.tm s.hp i):i∈Lo C P s o:=by
 unfold Lo;rw [hM];cases hA:Nb o.op
 ·simp only [Bool.not_false,Bool.and_self,cond_true,List.mem_append];rcases h with ⟨y,hy,hi⟩|⟨_,id,c,⟨y,hy,hi⟩,hc,p,hp,hk⟩
  ·exact .inl (List.mem_flatMap.2 ⟨y,hy,hi⟩)
  ·refine .inr (List.mem_flatMap.2 ⟨id,List.mem_flatMap.2 ⟨y,hy,hi⟩,?_⟩);rw [hc];exact List.mem_flatMap.2 ⟨p,hp,hk⟩
 ·simp only [Bool.not_true,Bool.and_false,cond_false,Bool.or_true,cond_true];rcases h with ⟨y,hy,hi⟩|⟨hn,_⟩
  ·exact List.mem_flatMap.2 ⟨y,hy,hi⟩
  ·rw [hA] at hn;cases hn
theorem ED (hl:Rf C P o.op=true∨Tc P o.op=true){y:Operand}(hy:y∈o.op.operands.toList){i:Nat}(h:i∈Bo (B7 s.tm y)):i∈Lo C P s o:=by
 rcases hl with hM|hl
 ·exact Xw hM (.inl ⟨y,hy,h⟩)
 ·unfold Lo;rw [J3 hl,hl];exact List.mem_flatMap.2 ⟨y,hy,h⟩
theorem RG (ht:∀t∈looks ops o,s1.tm t=s.tm t)(hh:Rf C P o.op=true->Nb o.op=false->∀y∈o.op.operands.toList,∀i∈Bo (B7 s.tm y),s1.hp i=s.hp i):Lo C P s1 o=Lo C P s o:=by
 have he:=E5 (ops:=ops) (o:=o) ht
 have hl:(o.op.operands.toList.flatMap fun y=>Bo (B7 s1.tm y))=o.op.operands.toList.flatMap fun y=>Bo (B7 s.tm y):=by
  have hgen:∀l:List Operand,(∀y∈l,B7 s1.tm y=B7 s.tm y)->(l.flatMap fun y=>Bo (B7 s1.tm y))=l.flatMap fun y=>Bo (B7 s.tm y):=by
   intro l
   induction l with
   |nil=>intro _;rfl
   |cons a l ih=>intro h;simp only [List.flatMap_cons];rw [h a (by simp),ih fun y hy=>h y (by simp [hy])]
  exact hgen _ he
 unfold Lo;simp only [hl];cases hM:(Rf C P o.op && !Nb o.op)
 ·rfl
 ·simp only [cond_true];simp only [Bool.and_eq_true,Bool.not_eq_true'] at hM
  congr 1
  have hgen:∀l:List Nat,(∀i∈l,s1.hp i=s.hp i)->(l.flatMap fun i=>match s1.hp i with|some (.st c)=>c.flatMap Aq|_=>[])=l.flatMap fun i=>match s.hp i with|some (.st c)=>c.flatMap Aq|_=>[]:=by
   intro l
   induction l with
   |nil=>intro _;rfl
   |cons a l ih=>intro h;simp only [List.flatMap_cons];rw [h a (by simp),ih fun y hy=>h y (by simp [hy])]
  exact hgen _ fun i hi=>by
   obtain ⟨y,hy,hi⟩:=List.mem_flatMap.1 hi;exact hh hM.1 hM.2 y hy i hi
theorem Xa {a b:List Nat}(h:Aa0 a b=true){i:Nat}(ha:i∈a)(hb:i∈b):False:=by
 have:=List.all_eq_true.1 h i ha;have h2:b.any (Nat.beq i)=true:=List.any_eq_true.2 ⟨i,hb,Nat.beq_refl i⟩;rw [h2] at this;cases this
theorem Aar {a b:List Nat}(h:Aa0 a b=true):Aa0 b a=true:=by
 refine List.all_eq_true.2 fun i hi=>?_
 cases hc:a.any (Nat.beq i)
 ·rfl
 ·obtain ⟨j,hj,e⟩:=List.any_eq_true.1 hc;rw [Nat.eq_of_beq_eq_true e] at hi;exact (Xa h hj hi).elim
theorem Vq:Ja C P x o=Ja C P o x:=by
 unfold Ja;cases Rf C P x.op<;>cases Rf C P o.op<;>cases Tc P x.op<;>cases Tc P o.op<;>cases Nb x.op<;>cases Nb o.op<;>rfl
structure Lh (C:Gi) (P:Program) (ops:Array Oper) (x o:Oper):Prop where
 xo:∀d,x.dst=some d->d ∉ looks ops o
 ne:∀d,x.dst=some d->o.dst≠some d
 ox:∀d,o.dst=some d->d ∉ looks ops x
 me:Rc C P x o=false∨Ja C P x o=true
theorem Acj (h:Afw C P ops x o=false):Lh C P ops x o:=by
 unfold Afw at h;simp only [Bool.or_eq_false_iff] at h;obtain ⟨h1,h2⟩:=h;have hT:=h1;unfold Afs at h1;simp only [Bool.or_eq_false_iff] at h1
 have a1:HZ C P ops x o=false∨Rc C P x o=true:=by
  cases hc:Rc C P x o
  ·left;unfold HZ;unfold Rc at hc;simp only [Bool.or_eq_false_iff] at hc ⊢;exact ⟨⟨⟨h1.1,h1.2⟩,hc.1⟩,hc.2⟩
  ·exact .inr rfl
 refine ⟨fun d hd=>?_,fun d hd he=>?_,fun d hd=>?_,?_⟩
 ·have:=h1.1;simp only [hd,Bool.or_eq_false_iff] at this;exact Q0 this.1
 ·have:=h1.1;simp only [hd,he,Bool.or_eq_false_iff] at this;rw [Nat.beq_refl] at this;cases this.2
 ·have:=h1.2;simp only [hd] at this;exact Q0 this
 ·cases hc:Rc C P x o
  ·exact .inl rfl
  ·rw [hc] at h2;right
   simpa using h2
theorem Lh.apart (ap:Lh C P ops x o)(h:Rc C P x o=false):Yd C P ops x o:=by
 unfold Rc at h;simp only [Bool.or_eq_false_iff,Bool.and_eq_false_iff] at h;refine ⟨ap.xo,ap.ne,ap.ox,fun hm=>?_,fun hm=>?_⟩
 ·rcases h.1 with h|h
  ·rw [hm] at h;cases h
  ·exact h
 ·rcases h.2 with h|h
  ·rw [hm] at h;cases h
  ·exact h
theorem Lh.same (ap:Lh C P ops x o)(hk:NG P x s s1)(hl:Tc P x.op=true->s1.hp=s.hp)(hM:Rf C P o.op=true)(hA:Nb o.op=false){i:Nat}(hi:s.hp i≠none):s1.hp i=s.hp i:=by
 rcases ap.me with h|h
 ·exact hk.2.2 ((ap.apart h).mo hM) i hi
 ·unfold Ja at h;rw [hA] at h;simp only [Bool.and_false,Bool.or_false,Bool.or_eq_true,Bool.and_eq_true] at h;rcases h with h|h
  ·have:=h.2;rw [J3 (C:=C) (P:=P) this] at hM;cases hM
  ·rw [hl h.2]
theorem UF.keepsS (h:UF C P o s)(ap:Lh C P ops x o)(hk:NG P x s s1)(hl:Tc P x.op=true->s1.hp=s.hp):UF C P o s1:=by
 have hop:∀y∈o.op.operands.toList,B7 s1.tm y=B7 s.tm y:=fun y hy=>E5 (ops:=ops) (o:=o) (fun t ht=>hk.1 t fun hd=>ap.xo t hd ht) y hy
 refine ⟨fun y hy i hi=>?_,fun hM hA y hy i hi c hc p hp k hkk=>?_⟩
 ·rw [hop y hy] at hi;exact hk.2.1 i (h.1 y hy i hi)
 ·rw [hop y hy] at hi;rw [ap.same hk hl hM hA (h.1 y hy i hi)] at hc;exact hk.2.1 k (h.2 hM hA y hy i hi c hc p hp k hkk)
theorem Lh.symm (ap:Lh C P ops x o):Lh C P ops o x:=by
 refine ⟨ap.ox,fun d hd he=>ap.ne d he hd,ap.xo,?_⟩
 rcases ap.me with h|h
 ·left;unfold Rc at h ⊢;rw [Bool.or_comm];exact h
 ·right;rw [Vq];exact h
theorem Alb (hw:UF C P o s)(hwx:Ja C P x o=true->∀i∈Lo C P s x,s.hp i≠none)(ap:Lh C P ops x o)(hd:Ja C P x o=true->Aa0 (Lo C P s x) (Lo C P s o)=true)
  (h:C6 C P N call ops x s (fun s1=>C6 C P N call ops o s1 K)=some r):C6 C P N call ops o s (fun s1=>C6 C P N call ops x s1 K)=some r:=by
 rcases ap.me with hm|hm
 ·exact Al8 hw (ap.apart hm) h
 ·have hd:=hd hm;have hwx:=hwx hm;cases hx:Gh C P ops x s.tm
  ·cases ho:Gh C P ops o s.tm
   ·exact YP hw ap.xo ap.ne ap.ox hx ho h
   ·have hMo:=Tj ho
    have hlx:JV P ops x s.tm:=by
     cases hl:Tc P x.op
     ·right
      have hMx:Rf C P x.op=true:=by
       unfold Ja at hm;simp only [hl,Bool.and_false,Bool.or_false,Bool.or_eq_true,Bool.and_eq_true] at hm;rcases hm with hm|hm
       ·exact hm.1
       ·exact NK hm.1
      cases hv:Fk ops x s.tm with
      |none=>
       exfalso;rw [Jy hx] at h;unfold gE at h;rw [hv] at h;cases h
      |some b=>
       cases b
       ·rfl
       ·unfold Gh at hx;rw [hMx,hv] at hx;cases hx
     ·exact .inl hl
    refine Agl ap.xo ap.ne ap.ox hlx (fun y hy i hi hR=>?_) ho h
    refine Xa hd (ED ?_ hy hi) (Xw hMo hR);unfold Ja at hm;simp only [Bool.or_eq_true,Bool.and_eq_true] at hm;rcases hm with (hm|hm)|hm
    ·exact .inl hm.1
    ·exact .inr hm.2
    ·exact .inl (NK hm.1)
  ·have hMx:=Tj hx;cases ho:Gh C P ops o s.tm
   ·have hlo:JV P ops o s.tm:=by
     cases hl:Tc P o.op
     ·right
      have hMo:Rf C P o.op=true:=by
       unfold Ja at hm;simp only [hl,Bool.and_false,Bool.false_or,Bool.or_eq_true,Bool.and_eq_true] at hm;rcases hm with hm|hm
       ·exact hm.1
       ·exact NK hm.2
      cases hv:Fk ops o s.tm with
      |none=>
       exfalso;obtain ⟨s1,_,hk,_,h⟩:=Nl h;have hv1:Fk ops o s1.tm=none:=by rw [J7 (fun t ht=>hk.1 t fun hd=>ap.xo t hd ht)];exact hv
       rw [Jy (by unfold Gh;rw [hv1];cases Rf C P o.op<;>rfl)] at h
       unfold gE at h;rw [hv1] at h;cases h
      |some b=>
       cases b
       ·rfl
       ·unfold Gh at ho;rw [hMo,hv] at ho;cases ho
     ·exact .inl hl
    refine Ah7 hw ap.xo ap.ne ap.ox hlo (fun y hy i hi hR=>?_) hx h
    refine Xa hd (Xw hMx hR) (ED ?_ hy hi);unfold Ja at hm;simp only [Bool.or_eq_true,Bool.and_eq_true] at hm;rcases hm with (hm|hm)|hm
    ·exact .inr hm.2
    ·exact .inl hm.1
    ·exact .inl (NK hm.2)
   ·have hMo:=Tj ho;unfold Ja at hm;simp only [Bool.or_eq_true,Bool.and_eq_true] at hm;rcases hm with (hm|hm)|hm
    ·rw [J3 (C:=C) (P:=P) hm.2] at hMo;cases hMo
    ·rw [J3 (C:=C) (P:=P) hm.2] at hMx;cases hMx
    ·exact Ahe hw (fun y hy i hi=>hwx i (ED (.inl hMx) hy hi)) ap.xo ap.ne ap.ox hm.1 hm.2 (fun i h1 h2=>Xa hd (Xw hMx h1) (Xw hMo h2)) hx ho h
theorem Adn {α:Type}(a b:α)(l:List α)(f:α->Bool):(a::b::l).all f=(b::a::l).all f:=by
 simp only [List.all_cons];cases f a<;>cases f b<;>rfl
theorem DD {bs:List (List Nat)}:∀(l:List Nat){dn dn':List (Nat × Oper × List Nat)} {s:St}{K:St->Option R},(∀f,dn.all f=dn'.all f)->Hk C P N call ops bs dn l s K=Hk C P N call ops bs dn' l s K
 |[],_,_,_,_,_=>rfl
 |i::l,dn,dn',s,K,h=>by
  unfold Hk;cases ops[i]? with
  |none=>rfl
  |some o=>
   simp only [D3,h]
   congr 2
   funext s'
   exact DD l fun f=>by simp only [List.all_cons,h]
theorem GH {bs:List Nat}{i:Nat}(hi:ops[i]?=some o):(CH C P ops bs).getD i []=Zf C P ops bs i o:=by
 unfold CH;rw [List.getD_eq_getElem?_getD,List.getElem?_map,List.getElem?_zipIdx,Array.getElem?_toList,hi];simp
theorem Rb {bs:List Nat}{i j:Nat}:j∈Zf C P ops bs i o↔∃x,ops[j]?=some x∧Ja C P x o=true∧(Nat.blt j i&&(bs.getD i 0).testBit j)=false∧(Nat.blt i j&&(bs.getD j 0).testBit i)=false:=by
 unfold Zf;simp only [List.mem_map,List.mem_filter,Bool.and_eq_true,Bool.not_eq_true',Prod.exists];constructor
 ·rintro ⟨x,k,⟨hm,⟨h1,h2⟩,h3⟩,rfl⟩
  rw [List.mem_zipIdx_iff_getElem?] at hm;exact ⟨x,by simpa using hm,h1,h2,h3⟩
 ·rintro ⟨x,hx,h1,h2,h3⟩
  refine ⟨x,j,⟨?_,⟨h1,h2⟩,h3⟩,rfl⟩;rw [List.mem_zipIdx_iff_getElem?]
  simpa using hx
theorem EJ {sm:List (List Nat)} {i j:Nat}(h:j∈sm.getD i []):DP C P sm s i o=Lo C P s o:=by
 unfold DP;split
 ·rename_i e;rw [e] at h;simp at h
 ·rfl
theorem Adh {sm:List (List Nat)} {i:Nat}(h:sm.getD i []≠[]->Lo C P s1 o=Lo C P s o):DP C P sm s1 i o=DP C P sm s i o:=by
 unfold DP;split
 ·rfl
 ·rename_i e;exact h (by rw [e];simp)
theorem YJ {l:List Nat}{j:Nat}:l.any (Nat.beq j)=true↔j∈l:=by
 constructor
 ·intro h;obtain ⟨k,hk,e⟩:=List.any_eq_true.1 h;rw [Nat.eq_of_beq_eq_true e];exact hk
 ·intro h;exact List.any_eq_true.2 ⟨j,h,Nat.beq_refl j⟩
theorem Yz {bs:List Nat}{sm:List (List Nat)} (hsm:sm=CH C P ops bs){i:Nat}(hi:ops[i]?=some o) {l':List Nat}:∀(l:List Nat){dn:List (Nat × Oper × List Nat)} {s:St}{K:St->Option R},UF C P o s ->
  (∀j∈l,j<i∧(bs.getD i 0).testBit j=false∧∀x,ops[j]?=some x->Lh C P ops x o)->Hk C P N call ops sm dn (l++i::l') s K=some r ->
  dn.all (JH C P sm s i o)=true∧C6 C P N call ops o s (fun s1=>Hk C P N call ops sm ((i,o,DP C P sm s i o)::dn) (l++l') s1 K)=some r
 |[],dn,s,K,hw,_,h=>by
  simp only [List.nil_append] at h ⊢;unfold Hk at h;rw [hi] at h;simp only [D3] at h;obtain ⟨hb,h⟩:=Am h;simp only [Bool.and_eq_true] at hb;exact ⟨hb.1,h⟩
 |j::l,dn,s,K,hw,hl,h=>by
  simp only [List.cons_append] at h ⊢;unfold Hk at h;obtain ⟨hji,hbit,hap⟩:=hl j (by simp)
  cases hj:ops[j]? with
  |none=>rw [hj] at h;cases h
  |some x=>
   rw [hj] at h;simp only [D3] at h;obtain ⟨hb,h⟩:=Am h;simp only [Bool.and_eq_true] at hb;have ap:=hap x hj
   have hex:∀k∈DP C P sm s j x,s.hp k≠none:=fun k hk=>by
    have:=List.all_eq_true.1 hb.2 k hk;intro e;rw [e] at this;cases this
   obtain ⟨s1,e1,hk1,hl1,h1⟩:=Nl h;obtain ⟨ha,h2⟩:=Yz hsm hi l (hw.keepsS ap hk1 hl1) (fun k hk=>hl k (by simp [hk])) h1
   have hr1':Lo C P s1 o=Lo C P s o:=RG (ops:=ops) (fun t ht=>hk1.1 t fun hd=>ap.xo t hd ht) fun hM hA y hy k hk=>ap.same hk1 hl1 hM hA (hw.1 y hy k hk)
   have hr1:DP C P sm s1 i o=DP C P sm s i o:=Adh fun _=>hr1'
   rw [List.all_cons,Bool.and_eq_true] at ha
   have hji':Nat.blt i j=false:=by
    cases hh:Nat.blt i j
    ·rfl
    ·have:=Nat.le_of_ble_eq_true hh;omega
   have hmi:Ja C P x o=true->j∈sm.getD i []:=fun hs=>by
    rw [hsm,GH hi];exact Rb.2 ⟨x,hj,hs,by rw [hbit,Bool.and_false],by rw [hji',Bool.false_and]⟩
   have hmj:Ja C P x o=true->i∈sm.getD j []:=fun hs=>by
    rw [hsm,GH hj];exact Rb.2 ⟨o,hi,by rw [Vq];exact hs,by rw [hji',Bool.false_and],by rw [hbit,Bool.and_false]⟩
   have hsoft:Ja C P x o=true->Aa0 (DP C P sm s j x) (DP C P sm s i o)=true:=by
    intro hs;have:=ha.1;unfold JH at this;rw [YJ.2 (hmi hs),hr1] at this
    simpa using this
   have hok:∀q,JH C P sm s1 i o q=JH C P sm s i o q:=fun q=>by unfold JH;rw [hr1]
   have hall:dn.all (JH C P sm s i o)=true:=by
    refine List.all_eq_true.2 fun q hq=>?_
    rw [←hok];exact List.all_eq_true.1 ha.2 q hq
   refine ⟨hall,?_⟩;rw [hr1] at h2
   have h3:=Alb hw (fun hs k hk=>hex k (by rw [EJ (hmj hs)];exact hk)) ap (fun hs=>by have:=hsoft hs;rw [EJ (hmj hs),EJ (hmi hs)] at this;exact this)
    (Uc (K':=fun s1=>C6 C P N call ops o s1 (fun s2=>Hk C P N call ops sm ((i,o,DP C P sm s i o)::(j,x,DP C P sm s j x)::dn) (l++l') s2 K)) e1 h2)
   obtain ⟨s2,e2,hk2,hl2,h4⟩:=Nl h3;refine Uc e2 ?_
   have hr2:DP C P sm s2 j x=DP C P sm s j x:=Adh fun hne=>by
    obtain ⟨q,hq⟩:=List.exists_mem_of_ne_nil _ hne;refine RG (ops:=ops) (fun t ht=>hk2.1 t fun hd=>ap.ox t hd ht) fun hM hA y hy k hk=>ap.symm.same hk2 hl2 hM hA (hex k ?_)
    rw [EJ hq];exact ED (.inl hM) hy hk
   unfold Hk;rw [hj];simp only [D3]
   have hc:(((i,o,DP C P sm s i o)::dn).all (JH C P sm s2 j x)&&(DP C P sm s2 j x).all fun k=>(s2.hp k).isSome)=true:=by
    simp only [List.all_cons,Bool.and_eq_true];refine ⟨⟨?_,?_⟩,?_⟩
    ·unfold JH;simp only [hr2];cases hs:(sm.getD j []).any (Nat.beq i)
     ·rfl
     ·have hm:=YJ.1 hs;rw [hsm,GH hj] at hm;obtain ⟨o',ho',hso,_⟩:=Rb.1 hm;rw [hi] at ho';cases ho';rw [Vq] at hso;rw [Aar (hsoft hso)];rfl
    ·refine List.all_eq_true.2 fun q hq=>?_
     have:=List.all_eq_true.1 hb.1 q hq;unfold JH at this ⊢;rw [hr2];exact this
    ·rw [hr2];refine List.all_eq_true.2 fun k hk=>?_
     have:=hk2.2.1 k (hex k hk);cases hh:s2.hp k with
     |none=>exact absurd hh this
     |some _=>rfl
   rw [hc,hr2];show C6 C P N call ops x s2 _=some r
   have:(fun s'=>Hk C P N call ops sm ((j,x,DP C P sm s j x)::(i,o,DP C P sm s i o)::dn) (l++l') s' K)=fun s2=>Hk C P N call ops sm ((i,o,DP C P sm s i o)::(j,x,DP C P sm s j x)::dn) (l++l') s2 K:=by
    funext s'
    exact DD _ fun f=>Adn _ _ _ f
   rw [this];exact h4
end
section
variable {R:Type} {r:R} {P:Program} {N:Nat} {w0:World} {X0:Ef} {Y:Nat->Prop} {β β':Bt} {s:St} {a:Act} {w w':World} {o:Oper} {ops:Array Oper} {C:Gi} {call:Ah} {K:St->Option R}
theorem Vc {bs:List Nat}:∀(l:List Oper)(n:Nat),Yk C P ops bs l n=true->∀(k:Nat) o,l[k]?=some o->∀(j:Nat) x,ops[j]?=some x->j<n+k->Afw C P ops x o=true->(bs.getD (n+k) 0).testBit j=true
 |[],_,_,k,o,ho,_,_,_,_,_=>by simp at ho
 |o'::l,n,h,k,o,ho,j,x,hx,hj,hcl=>by
  simp only [Yk,Bool.and_eq_true] at h;cases k with
  |zero=>
   simp at ho;subst ho
   have:=List.all_eq_true.1 h.1 (x,j) (by
    rw [List.mem_zipIdx_iff_getElem?]
    simpa using hx)
   simp only [hcl,Bool.not_true,Bool.or_false,Bool.or_eq_true,Bool.not_eq_true'] at this;rcases this with h'|h'
   ·have:Nat.blt j n=true:=Nat.ble_eq_true_of_le (by omega)
    rw [this] at h';cases h'
   ·exact h'
  |succ k=>
   have:=Vc l (n+1) h.2 k o (by simpa using ho) j x hx (by omega) hcl
   rwa [show n+(k+1)=n+1+k by omega]
theorem NI {G:Se}(hNG:EC P G w0 X0)(hcall:∀f args res,call f args=some res->Cr G P f args res)(hok:ER C P ops=true){Q:Exit->Act->World->Prop}(hQ:∀s' a' w' β',K s'=some r->Bp N w0 X0 Y β' s' a' w'->Q .normal a' w'):
  ∀(fuel:Nat) {dn:List (Nat × Oper × List Nat)} {listed:Array Bool} {s:St} {a:Act} {w:World} {β:Bt},HeadInv .any ops ops.size listed->(Mk ops.size listed).length=fuel->Bp N w0 X0 Y β s a w->Hk C P N call ops (CH C P ops (Hs ops.toList [])) dn (Mk ops.size listed) s K=some r->wpAny P .any ops Q fuel listed a w:=by
 unfold ER at hok;simp only [Bool.and_eq_true] at hok;obtain ⟨hok1,hok2⟩:=hok;intro fuel
 induction fuel with
 |zero=>
  intro dn listed s a w β inv hf h hk;have hp:=List.eq_nil_of_length_eq_zero hf;rw [hp] at hk;refine ⟨?_,hQ s a w β hk h⟩;cases hr:Region.ready .any ops listed with
  |nil=>rfl
  |cons i l=>
   exfalso;have hi:i∈Region.ready .any ops listed:=by rw [hr];simp
   obtain ⟨hun,o,ho,_⟩:=mem_ready.1 hi;have:i∈Mk ops.size listed:=I2.2 ⟨(Array.getElem?_eq_some_iff.1 ho).1,hun⟩;rw [hp] at this;simp at this
 |succ fuel ih=>
  intro dn listed s a w β inv hf h hk;refine ⟨fun hr=>?_,fun i hi=>?_⟩
  ·rw [KI hok1 inv hr] at hf;cases hf
  ·obtain ⟨hun,o,ho,hall⟩:=mem_ready.1 hi;have hlt:i<ops.size:=(Array.getElem?_eq_some_iff.1 ho).1;obtain ⟨l1,l2,h1,h2,h3⟩:=Vr (I2.2 ⟨hlt,hun⟩) inv.size;rw [h1] at hk
   have hnb:∀j∈l1,((Hs ops.toList []).getD i 0).testBit j=false:=by
    intro j hj;cases hbit:((Hs ops.toList []).getD i 0).testBit j with
    |false=>rfl
    |true=>
     exfalso;have hjl:=Ro (listed:=listed) (fun j oj hj hl=>inv.closed j oj hj hl) ops.toList [] [] (by simp) rfl (by simp) i o ho hall j hbit
     have:j∈Mk ops.size listed:=by rw [h1];simp [hj]
     have:=getD_both (I2.1 this).2;rw [hjl] at this;cases this
   have hap:∀j∈l1,j<i∧((Hs ops.toList []).getD i 0).testBit j=false∧∀x,ops[j]?=some x->Lh C P ops x o:=by
    intro j hj;refine ⟨h3 j hj,hnb j hj,fun x hxj=>Acj ?_⟩
    cases hcl:Afw C P ops x o with
    |false=>rfl
    |true=>
     exfalso;have hbit:=Vc ops.toList 0 hok2 i o (by simpa using ho) j x hxj (by have:=h3 j hj;omega) hcl
     rw [Nat.zero_add,hnb j hj] at hbit;cases hbit
   obtain ⟨s',hs',hn⟩:=Vu h hNG hcall ho (Yz rfl ho l1 (Afk h o) hap hk).2;refine hn _ _ fun a' w' β' h'=>ih (dn:=(i,o,DP C P (CH C P ops (Hs ops.toList [])) s i o)::dn) (inv.set hi hlt) ?_ h' ?_
   ·rw [h2];rw [h1] at hf;simp at hf ⊢;omega
   ·rw [h2];exact hs'
theorem Rx (h:Bp N w0 X0 Y β s a w){G:Se}(hNG:EC P G w0 X0)(hcall:∀f args res,call f args=some res->Cr G P f args res)(hm:P.follows .mixedOrders=true)(hok:ER C P ops=true){Q:Exit->Act->World->Prop}
  (hk:Hk C P N call ops (CH C P ops (Hs ops.toList [])) [] (List.range ops.size) s K=some r) (hQ:∀s' a' w' β',K s'=some r->Bp N w0 X0 Y β' s' a' w'->Q .normal a' w'):wpAny P .any ops Q ops.size (Array.replicate ops.size false) a { w with drawn:=w.drawn+1 }:=by
 have hp:Mk ops.size (Array.replicate ops.size false)=List.range ops.size:=by
  unfold Mk;refine List.filter_eq_self.2 fun i hi=>?_
  have:=List.mem_range.1 hi;simp [this]
 refine NI (C:=C) (dn:=[]) hNG hcall hok hQ ops.size ⟨by simp,fun j oj _ hl=>(by rw [getD_replicate_false] at hl;cases hl),fun t ht ht'=>by omega⟩ (by rw [hp];simp) h.drew ?_
 rw [hp];exact hk
theorem RJ (h:Bp N w0 X0 Y β s a w){G:Se}(hNG:EC P G w0 X0)(hcall:∀f args res,call f args=some res->Cr G P f args res)(hm:P.follows .mixedOrders=true)(hok:ER C P ops=true){id:Nat}{Q:Exit->Act->World->Prop}
  (hk:Hk C P N call ops (CH C P ops (Hs ops.toList [])) [] (List.range ops.size) s K=some r) (hQ:∀s' a' w' β',K s'=some r->Bp N w0 X0 Y β' s' a' w'->Q .normal a' w'):(Code.region id ops true).wp P Q a w:=
 wp_region_any hm (Rx h hNG hcall hm hok hk hQ)
end
open Go.RowKit
section
variable {R:Type} {r:R} {N:Nat} {w0:World} {X0:Ef} {Y:Nat->Prop} {β β':Bt} {s:St} {a:Act} {w w':World}
theorem Acz {i:Nat}(hi:i<a.tmps.size):a.put (some i) (a.tmps.getD i undef)=a:=by
 obtain ⟨tmps,dfr⟩:=a;change i<tmps.size at hi
 have:tmps.setIfInBounds i (tmps.getD i undef)=tmps:=by
  apply Array.ext_getElem?;intro k;by_cases e:i=k
  ·subst e;simp [hi]
  ·rw [Array.getElem?_setIfInBounds_ne e]
 simp only [Act.put,this]
theorem ZG {A:Nat->Prop}{es:Nat}{v:Value}(h:Av w A (.lst true es 0 []) v):v=.slice none 0 0:=by
 cases h;rfl
theorem YR {id:Nat}(hid:s.hp id=none){v:PV}{val:Value}(hv:C9 w (Ci (At s.hp [(id,.ar false [])]) (Ch β id none) Y) (Ch β id none) v val) (hr:∀i∈Bo v,s.hp i≠none∨i=id):
  MQ Y β s w v [(id,.ar false [])] val w (Ch β id none):=by
 refine ⟨rfl,rfl,rfl,Bv.refl _ _,fun j hj=>Ak _ _ (by rintro rfl;exact hj hid),?_,?_,?_,?_,?_,hv,?_⟩
 ·intro j bx hm;simp at hm;rw [hm.2];trivial
 ·intro j bx hm;simp at hm;obtain ⟨rfl,rfl⟩:=hm;exact .inl ⟨Ap _ _ _,rfl⟩
 ·intro j bx k q hm hq;simp at hm;obtain ⟨rfl,rfl⟩:=hm;rw [Ap] at hq;cases hq
 ·intro j bx j' bx' k q q' hm hm' _ _;simp at hm hm';rw [hm.1,hm'.1]
 ·intro j cells hm;simp at hm
 ·intro j hj;rcases hr j hj with h|rfl
  ·exact .inl h
  ·exact .inr ⟨.ar false [],by simp⟩
theorem JU (h:Bp N w0 X0 Y β s a w)(i:Nat):∃β',Bp N w0 X0 Y β' (EP s i) a w:=by
 unfold EP;split
 ·rename_i es ht;cases hn:(s.hp i).isNone
  ·exact ⟨β,h⟩
  ·have hn:s.hp i=none:=by simpa using hn
   have hlt:i<N:=by
    rcases Nat.lt_or_ge i N with h'|h'
    ·exact h'
    ·rw [h.tmo i h'] at ht;cases ht
   have hv:=h.tms i hlt;rw [ht] at hv;have hv:=ZG hv;have hd:F4 N (some i)=true:=by simp [F4,Nat.blt];omega
   have:=h.stepR (d:=some i) hd (by simp [Bq,hn]) (YR (v:=.view i es 0 0) (val:=.slice none 0 0) hn (.inl ⟨Ap _ _ _,rfl,rfl,rfl⟩) (by simp [Bo,B3,Aq]))
   rw [←hv,Acz (by rw [h.tsz];exact hlt)] at this
   exact ⟨_,this⟩
 ·exact ⟨β,h⟩
theorem Bp.recell (h:Bp N w0 X0 Y β s a w){id:Nat}{c c':List PV}(h0:s.hp id=some (.st c)) (hl:c'.length=c.length)
  (hc:∀(j:Nat) p,c'[j]?=some p->∃q,c[j]?=some q∧(∀v,Bx w (Ci s.hp β Y) β q v->Bx w (Ci s.hp β Y) β p v)∧∀i∈Aq p,s.hp i≠none):
  Bp N w0 X0 Y β ⟨s.tm,Ch s.hp id (some (.st c'))⟩ a w:=by
 have hlive:∀i,B4 (Ch s.hp id (some (.st c')) i)↔B4 (s.hp i):=by
  intro i;by_cases e:i=id
  ·subst e;rw [Ap,h0];exact Iff.rfl
  ·rw [Ak _ _ e]
 have hX:Yj (Ch s.hp id (some (.st c'))) β=Yj s.hp β:=by
  funext b
  apply propext;constructor
  ·rintro ⟨i,o,hl,hb⟩;exact ⟨i,o,(hlive i).1 hl,hb⟩
  ·rintro ⟨i,o,hl,hb⟩;exact ⟨i,o,(hlive i).2 hl,hb⟩
 have hA:Ci (Ch s.hp id (some (.st c'))) β Y=Ci s.hp β Y:=by
  funext b;unfold Ci;rw [hX]
 have hne:∀i,s.hp i≠none->Ch s.hp id (some (.st c')) i≠none:=by
  intro i hi;by_cases e:i=id
  ·subst e;rw [Ap];simp
  ·rw [Ak _ _ e];exact hi
 have hne':∀i,Ch s.hp id (some (.st c')) i≠none->s.hp i≠none:=by
  intro i hi;by_cases e:i=id
  ·subst e;rw [h0];simp
  ·rw [Ak _ _ e] at hi;exact hi
 refine ⟨h.dfr,h.tsz,h.tmo,?_,?_,?_,?_,?_,?_,?_,?_,fun i hi=>⟨hne _ (h.pin i hi).1,(h.pin i hi).2⟩,?_,?_,h.Ylt,h.fr⟩
 ·intro i hi;show C9 w (Ci (Ch s.hp id _) β Y) β _ _;rw [hA];exact h.tms i hi
 ·intro i b hb;show Pz w (Ci (Ch s.hp id _) β Y) β i b;rw [hA];by_cases e:i=id
  ·subst e;change Ch s.hp i (some (.st c')) i=some b at hb;rw [Ap] at hb;cases hb;obtain ⟨b,o,h1,h2,h3⟩:=h.box i _ h0;refine ⟨b,o,h1,fun j p hj=>?_,fun j hj=>h3 j (by rw [←hl];exact hj)⟩
   obtain ⟨q,hq,hqp,_⟩:=hc j p hj;obtain ⟨v,hv,hr⟩:=h2 j q hq;exact ⟨v,hv,hqp v hr⟩
  ·change Ch s.hp id (some (.st c')) i=some b at hb;rw [Ak _ _ e] at hb;exact h.box i b hb
 ·intro i i' b o o' hl hl' hb hb';exact h.inj i i' b o o' ((hlive i).1 hl) ((hlive i').1 hl') hb hb'
 ·intro i b o hn hb;exact h.blt i b o (hne' i hn) hb
 ·intro i hi j hj;exact hne j (h.wfT i hi j hj)
 ·intro i cells hb p hp j hj;change Ch s.hp id (some (.st c')) i=_ at hb;by_cases e:i=id
  ·subst e;rw [Ap] at hb;cases hb;obtain ⟨k,hk⟩:=List.mem_iff_getElem?.1 hp;obtain ⟨_,_,_,hr⟩:=hc k p hk;exact hne j (hr j hj)
  ·rw [Ak _ _ e] at hb;exact hne j (h.wfB i cells hb p hp j hj)
 ·intro b hb;exact h.ownd b (by rw [←hX];exact hb)
 ·intro i bx b o hb hlb hβ hlt j hj;change Ch s.hp id (some (.st c')) i=some bx at hb;by_cases e:i=id
  ·subst e;rw [Ap] at hb;cases hb;exact h.rngB i _ b o h0 trivial hβ hlt j (by unfold BR at hj ⊢;simp only [hl] at hj;exact hj)
  ·rw [Ak _ _ e] at hb;exact h.rngB i bx b o hb hlb hβ hlt j hj
 ·intro i c1 b o hb hβ hlt;change Ch s.hp id (some (.st c')) i=_ at hb;by_cases e:i=id
  ·subst e;exact h.stp i c b o h0 hβ hlt
  ·rw [Ak _ _ e] at hb;exact h.stp i c1 b o hb hβ hlt
 ·intro b hY hb;exact h.Yx b hY (by rw [←hX];exact hb)
theorem JZ (h:Bp N w0 X0 Y β s a w)(id j:Nat):∃β',Bp N w0 X0 Y β' (OQ N id s j) a w:=by
 unfold OQ;split
 ·rename_i c h0;split
  ·rename_i es hj;cases hn:(s.hp (id+N*(j+1))).isNone
   ·exact ⟨β,h⟩
   ·have hn:s.hp (id+N*(j+1))=none:=by simpa using hn
    have hne:id≠id+N*(j+1):=by
     intro e;rw [←e,h0] at hn;cases hn
    have h1:=h.stepR (d:=none) (v:=.top) (val:=undef) rfl (by simp [Bq,hn]) (YR hn (.top _) (by simp [Bo,B3,Aq]))
    change Bp N w0 X0 Y (Ch β (id+N*(j+1)) none) ⟨s.tm,Ch s.hp (id+N*(j+1)) (some (.ar false []))⟩ a w at h1
    have h2:=h1.recell (id:=id) (c:=c) (c':=c.set j (.view (id+N*(j+1)) es 0 0)) (by show Ch _ _ _ _=_;rw [Ak _ _ hne];exact h0) (by simp) (by
     intro k p hp;by_cases e:k=j
     ·subst e
      have hlt:k<c.length:=by
       rcases Nat.lt_or_ge k c.length with h'|h'
       ·exact h'
       ·rw [List.getElem?_eq_none h'] at hj;cases hj
      rw [List.getElem?_set_self hlt] at hp;cases hp;refine ⟨_,hj,fun v hv=>.inl ⟨Ap _ _ _,rfl,rfl,ZG hv⟩,fun i hi=>?_⟩
      simp [Aq] at hi;subst hi;show Ch _ _ _ _≠none;rw [Ap];simp
     ·rw [List.getElem?_set_ne (fun h=>e h.symm)] at hp
      refine ⟨p,hp,fun _ hv=>hv,fun i hi=>?_⟩
      have:=h.wfB id c h0 p (List.mem_of_getElem? hp) i hi;show Ch _ _ _ _≠none;by_cases e':i=id+N*(j+1)
      ·subst e';rw [Ap];simp
      ·rw [Ak _ _ e'];exact this)
    refine ⟨Ch β (id+N*(j+1)) none,?_⟩;have e3:Ch (Ch s.hp (id+N*(j+1)) (some (.ar false []))) id (some (.st (c.set j (.view (id+N*(j+1)) es 0 0))))=Ch (Ch s.hp id (some (.st (c.set j (.view (id+N*(j+1)) es 0 0))))) (id+N*(j+1)) (some (.ar false [])):=RZ _ _ _ (fun h=>hne h.symm)
    change Bp N w0 X0 Y (Ch β (id+N*(j+1)) none) ⟨s.tm,Ch (Ch s.hp (id+N*(j+1)) (some (.ar false []))) id (some (.st (c.set j (.view (id+N*(j+1)) es 0 0))))⟩ a w at h2;rw [e3] at h2;exact h2
  ·exact ⟨β,h⟩
 ·exact ⟨β,h⟩
theorem Pc {f:St->Nat->St}(hf:∀s β,Bp N w0 X0 Y β s a w->∀i,∃β',Bp N w0 X0 Y β' (f s i) a w):∀(l:List Nat){s:St}{β:Bt},Bp N w0 X0 Y β s a w->∃β',Bp N w0 X0 Y β' (l.foldl f s) a w
 |[],_,β,h=>⟨β,h⟩
 |i::l,s,β,h=>by
  obtain ⟨β1,h1⟩:=hf s β h i;exact Pc hf l h1
theorem OO (h:Bp N w0 X0 Y β s a w)(i:Nat):∃β',Bp N w0 X0 Y β' (PX N s i) a w:=by
 unfold PX;split
 ·split
  ·exact Pc (fun s β h i=>JZ h _ i) _ h
  ·exact ⟨β,h⟩
 ·exact ⟨β,h⟩
theorem MP:∀{m:List (Nat × Nat)},Dq (m.map (·.2))=true->∀{i i' j:Nat},(i,j)∈m->(i',j)∈m->i=i'
 |[],_,_,_,_,h,_=>by simp at h
 |(x,y)::m,hn,i,i',j,h,h'=>by
  simp only [List.map_cons,Dq,Bool.and_eq_true,Bool.not_eq_true'] at hn
  have hy:∀k,(k,y) ∉ m:=by
   intro k hk;exact Q0 hn.1 (List.mem_map.2 ⟨(k,y),hk,rfl⟩)
  rcases List.mem_cons.1 h with e|h
  ·cases e;rcases List.mem_cons.1 h' with e|h'
   ·cases e;rfl
   ·exact absurd h' (hy _)
  ·rcases List.mem_cons.1 h' with e|h'
   ·cases e;exact absurd h (hy _)
   ·exact MP hn.2 h h'
theorem AW:∀{m:List (Nat × Nat)},Dq (m.map (·.1))=true->∀{i j j':Nat},(i,j)∈m->(i,j')∈m->j=j'
 |[],_,_,_,_,h,_=>by simp at h
 |(x,y)::m,hn,i,j,j',h,h'=>by
  simp only [List.map_cons,Dq,Bool.and_eq_true,Bool.not_eq_true'] at hn
  have hx:∀k,(x,k) ∉ m:=by
   intro k hk;exact Q0 hn.1 (List.mem_map.2 ⟨(x,k),hk,rfl⟩)
  rcases List.mem_cons.1 h with e|h
  ·cases e;rcases List.mem_cons.1 h' with e|h'
   ·cases e;rfl
   ·exact absurd h' (hx _)
  ·rcases List.mem_cons.1 h' with e|h'
   ·cases e;exact absurd h (hx _)
   ·exact AW hn.2 h h'
theorem Mg {i j:Nat}(h:Nat.beq i j=false):i≠j:=by rintro rfl;rw [Nat.beq_refl] at h;cases h
theorem X4:∀{m:List (Nat × Nat)} {i j:Nat},Uw m i=some j->(i,j)∈m
 |[],_,_,h=>by cases h
 |(x,y)::m,i,j,h=>by
  unfold Uw at h;cases hb:Nat.beq i x<;>rw [hb] at h
  ·exact List.mem_cons_of_mem _ (X4 h)
  ·have:=Nat.eq_of_beq_eq_true hb;cases h;rw [this];simp
theorem AO {m:List (Nat × Nat)} {hp:Nat->Option Bj}:∀{l:List (Nat × Nat)} {j:Nat}{b:Bj},Bz (Ls m hp l) j=some b->∃i b0,(i,j)∈l∧hp i=some b0∧b=Ahk m b0
 |[],_,_,h=>by cases h
 |(x,y)::l,j,b,h=>by
  unfold Ls at h;cases hx:hp x with
  |none=>
   rw [hx] at h;obtain ⟨i,b0,h1,h2⟩:=AO h;exact ⟨i,b0,List.mem_cons_of_mem _ h1,h2⟩
  |some bx=>
   rw [hx] at h;simp only [Bz] at h;cases hb:Nat.beq j y<;>rw [hb] at h
   ·obtain ⟨i,b0,h1,h2⟩:=AO h;exact ⟨i,b0,List.mem_cons_of_mem _ h1,h2⟩
   ·have:=Nat.eq_of_beq_eq_true hb;subst this;cases h;exact ⟨x,bx,by simp,hx,rfl⟩
theorem Nx {m:List (Nat × Nat)} {hp:Nat->Option Bj}:∀{l:List (Nat × Nat)} {i j:Nat},(i,j)∈l->hp i≠none->Bz (Ls m hp l) j≠none
 |[],_,_,h,_=>by simp at h
 |(x,y)::l,i,j,h,hi=>by
  unfold Ls;cases hx:hp x with
  |none=>
   rcases List.mem_cons.1 h with e|h
   ·cases e;exact absurd hx hi
   ·exact Nx h hi
  |some bx=>
   simp only [Bz];cases hb:Nat.beq j y
   ·rcases List.mem_cons.1 h with e|h
    ·cases e;exact absurd rfl (Mg hb)
    ·exact Nx h hi
   ·simp
def JK (m:List (Nat × Nat)) (j:Nat):Option Nat:=
 match m with
 |[]=>none
 |(x,y)::r=>bif Nat.beq j y then some x else JK r j
theorem ZA:∀{m:List (Nat × Nat)} {i j:Nat},JK m j=some i->(i,j)∈m
 |[],_,_,h=>by cases h
 |(x,y)::m,i,j,h=>by
  unfold JK at h;cases hb:Nat.beq j y<;>rw [hb] at h
  ·exact List.mem_cons_of_mem _ (ZA h)
  ·have:=Nat.eq_of_beq_eq_true hb;cases h;rw [this];simp
theorem SZ:∀{m:List (Nat × Nat)} {i j:Nat},(i,j)∈m->∃k,JK m j=some k
 |[],_,_,h=>by simp at h
 |(x,y)::m,i,j,h=>by
  unfold JK;cases hb:Nat.beq j y
  ·rcases List.mem_cons.1 h with e|h
   ·cases e;exact absurd rfl (Mg hb)
   ·exact SZ h
  ·exact ⟨x,rfl⟩
theorem PB {f:Nat->PV}:∀{l:List Nat}{i:Nat},lk (l.map fun i=>(i,f i)) i=if i∈l then f i else .top
 |[],_=>rfl
 |x::l,i=>by
  simp only [List.map_cons,lk];cases hb:Nat.beq i x
  ·have:=Mg hb;simp only [cond_false,PB,List.mem_cons,this,false_or]
  ·have:=Nat.eq_of_beq_eq_true hb;subst this;simp
theorem NA {m:Nat}:∀{n i:Nat},i∈Kx m n->i<n
 |0,_,h=>by simp [Kx] at h
 |n+1,i,h=>by
  simp only [Kx,List.mem_append] at h;rcases h with h|h
  ·have:=NA h;omega
  ·cases hb:m.testBit n<;>rw [hb] at h
   ·simp at h
   ·simp at h;omega
theorem OG (h:Bp N w0 X0 Y β s a w){m:List (Nat × Nat)} (h1:Dq (m.map (·.1))=true) (h2:Dq (m.map (·.2))=true) {ls:List Nat}(hls:∀i∈ls,i<N)(hpn:∀i,X0.pn i->(Cm N i,Cm N i)∈m):
  ∃β',Bp N w0 X0 Y β' ⟨lk (ls.map fun i=>(i,Aci m (s.tm i))),Bz (Ls m s.hp m)⟩ a w:=by
 refine ⟨fun j=>(JK m j).bind β,?_⟩
 have hβ:∀{i j:Nat},(i,j)∈m->(JK m j).bind β=β i:=by
  intro i j hm;obtain ⟨k,hk⟩:=SZ hm;rw [hk];have:=MP h2 (ZA hk) hm;subst this;rfl
 have hold:∀{j:Nat} {b:Bj},Bz (Ls m s.hp m) j=some b->∃i b0,(i,j)∈m∧s.hp i=some b0∧b=Ahk m b0∧(JK m j).bind β=β i:=by
  intro j b hb;obtain ⟨i,b0,hm,h3,h4⟩:=AO hb;exact ⟨i,b0,hm,h3,h4,hβ hm⟩
 have hlive:∀{j:Nat},B4 (Bz (Ls m s.hp m) j)->∃i,(i,j)∈m∧B4 (s.hp i)∧(JK m j).bind β=β i:=by
  intro j hl;cases hb:Bz (Ls m s.hp m) j with
  |none=>rw [hb] at hl;exact hl.elim
  |some b=>
   obtain ⟨i,b0,hm,h3,rfl,h5⟩:=hold hb;refine ⟨i,hm,?_,h5⟩;rw [hb] at hl;rw [h3];cases b0<;>exact hl
 have hX:∀b,Yj (Bz (Ls m s.hp m)) (fun j=>(JK m j).bind β) b->Yj s.hp β b:=by
  rintro b ⟨j,o,hl,hb⟩
  obtain ⟨i,_,hl',e⟩:=hlive hl;exact ⟨i,o,hl',by rw [←e];exact hb⟩
 have hA:∀b,Ci (Bz (Ls m s.hp m)) (fun j=>(JK m j).bind β) Y b->Ci s.hp β Y b:=fun b hb=>hb.imp (hX b) id
 have hC:∀p v,Bx w (Ci s.hp β Y) β p v->Bx w (Ci (Bz (Ls m s.hp m)) (fun j=>(JK m j).bind β) Y) (fun j=>(JK m j).bind β) (VS m p) v:=by
  intro p v hp;cases p with
  |view id es off n=>
   show Bx _ _ _ (match Uw m id with|some j=>.view j es off n|none=>.top) v
   cases hj:Uw m id with
   |some j=>
    have e:=hβ (X4 hj);rcases hp with ⟨e1,e2⟩|⟨b,o,x,cap,e1,e2⟩
    ·exact .inl ⟨by show (JK m j).bind β=none;rw [e];exact e1,e2⟩
    ·exact .inr ⟨b,o,x,cap,by show (JK m j).bind β=_;rw [e];exact e1,e2⟩
   |none=>exact Av.top _
  |ptr id off=>
   show Bx _ _ _ (match Uw m id with|some j=>.ptr j off|none=>.top) v
   cases hj:Uw m id with
   |some j=>
    have e:=hβ (X4 hj);obtain ⟨b,o,e1,e2⟩:=hp;exact ⟨b,o,by show (JK m j).bind β=_;rw [e];exact e1,e2⟩
   |none=>exact Av.top _
  |sc v=>exact Av.step (Bv.refl _ _) (fun b _=>hA b) hp
  |lst z es n c=>exact Av.step (Bv.refl _ _) (fun b _=>hA b) hp
  |iptr c off=>exact Bx.step (p:=.iptr c off) (Bv.refl _ _) (fun b _=>hA b) (by simp [Aq]) hp
  |_=>exact Av.top _
 have hV:∀p v,C9 w (Ci s.hp β Y) β p v->C9 w (Ci (Bz (Ls m s.hp m)) (fun j=>(JK m j).bind β) Y) (fun j=>(JK m j).bind β) (Aci m p) v:=by
  intro p v hp;cases p with
  |agg c=>
   obtain ⟨vs,e1,e2⟩:=hp;refine ⟨vs,e1,Bi.of_at (by simp;exact e2.len) fun i q u hq hu=>?_⟩
   rw [List.getElem?_map] at hq;cases hc:c[i]? with
   |none=>rw [hc] at hq;cases hq
   |some q0=>
    rw [hc] at hq;cases hq;exact hC _ _ (e2.at_ hc hu)
  |view id es off n=>
   have:=hC (.view id es off n) v hp;change Bx _ _ _ (match Uw m id with|some j=>.view j es off n|none=>.top) v at this
   show C9 _ _ _ (match Uw m id with|some j=>.view j es off n|none=>.top) v
   cases hj:Uw m id<;>rw [hj] at this<;>exact this
  |ptr id off=>
   have:=hC (.ptr id off) v hp;change Bx _ _ _ (match Uw m id with|some j=>.ptr j off|none=>.top) v at this
   show C9 _ _ _ (match Uw m id with|some j=>.ptr j off|none=>.top) v
   cases hj:Uw m id<;>rw [hj] at this<;>exact this
  |sc v'=>exact hC (.sc v') v hp
  |lst z es n c=>exact hC (.lst z es n c) v hp
  |iptr c off=>exact hC (.iptr c off) v hp
  |_=>exact Av.top _
 have hrC:∀p i,i∈Aq (VS m p)->∃k∈Aq p,(k,i)∈m:=by
  intro p i hi;cases p with
  |view id es off n=>
   change i∈Aq (match Uw m id with|some j=>.view j es off n|none=>.top) at hi
   cases hj:Uw m id<;>rw [hj] at hi
   ·simp [Aq] at hi
   ·simp [Aq] at hi;subst hi;exact ⟨id,by simp [Aq],X4 hj⟩
  |ptr id off=>
   change i∈Aq (match Uw m id with|some j=>.ptr j off|none=>.top) at hi
   cases hj:Uw m id<;>rw [hj] at hi
   ·simp [Aq] at hi
   ·simp [Aq] at hi;subst hi;exact ⟨id,by simp [Aq],X4 hj⟩
  |_=>simp [VS,Aq] at hi
 have hrV:∀p i,i∈Bo (Aci m p)->∃k∈Bo p,(k,i)∈m:=by
  intro p i hi;cases p with
  |agg c=>
   simp only [Aci,Bo,B3,List.mem_flatMap,List.mem_map] at hi;obtain ⟨_,⟨q,hq,rfl⟩,hi⟩:=hi;obtain ⟨k,hk,hm⟩:=hrC q i hi;exact ⟨k,by simp only [Bo,B3,List.mem_flatMap];exact ⟨q,hq,hk⟩,hm⟩
  |view id es off n=>
   refine (hrC (.view id es off n) i ?_).imp fun k hk=>hk
   change i∈Bo (match Uw m id with|some j=>.view j es off n|none=>.top) at hi
   show i∈Aq (match Uw m id with|some j=>.view j es off n|none=>.top)
   cases hj:Uw m id<;>rw [hj] at hi<;>exact hi
  |ptr id off=>
   refine (hrC (.ptr id off) i ?_).imp fun k hk=>hk
   change i∈Bo (match Uw m id with|some j=>.ptr j off|none=>.top) at hi
   show i∈Aq (match Uw m id with|some j=>.ptr j off|none=>.top)
   cases hj:Uw m id<;>rw [hj] at hi<;>exact hi
  |_=>simp [Aci,VS,Bo,B3,Aq] at hi
 refine ⟨h.dfr,h.tsz,?_,?_,?_,?_,?_,?_,?_,?_,?_,?_,?_,?_,h.Ylt,h.fr⟩
 ·intro i hi;show lk _ i=_;rw [PB,if_neg (fun hm=>by have:=hls i hm;omega)]
 ·intro i hi;show C9 w _ _ (lk _ i) _;rw [PB];split
  ·exact hV _ _ (h.tms i hi)
  ·exact Av.top _
 ·intro j b hb;obtain ⟨i,b0,hm,h3,rfl,e⟩:=hold hb;have hbx:=h.box i b0 h3;cases b0 with
  |st c=>
   obtain ⟨b,o,e1,e2,e3⟩:=hbx;refine ⟨b,o,by show (JK m j).bind β=_;rw [e];exact e1,fun k p hp=>?_,fun k hk=>e3 k (by simpa using hk)⟩
   rw [List.getElem?_map] at hp;cases hc:c[k]? with
   |none=>rw [hc] at hp;cases hp
   |some q=>
    rw [hc] at hp;cases hp;obtain ⟨v,hv,hr⟩:=e2 k q hc;exact ⟨v,hv,hC _ _ hr⟩
  |ar fz c=>
   have:=Pz.step' hA hbx;show Pz _ _ _ _ (.ar fz c);rcases this with ⟨e1,e2⟩|⟨b,o,e1,e2⟩
   ·exact .inl ⟨by show (JK m j).bind β=_;rw [e];exact e1,e2⟩
   ·exact .inr ⟨b,o,by show (JK m j).bind β=_;rw [e];exact e1,e2⟩
  |mv=>exact trivial
 ·intro j j' b o o' hl hl' hb hb';obtain ⟨i,hm,hl1,e⟩:=hlive hl;obtain ⟨i',hm',hl1',e'⟩:=hlive hl';have:=h.inj i i' b o o' hl1 hl1' (by rw [←e];exact hb) (by rw [←e'];exact hb')
  subst this;exact AW h1 hm hm'
 ·intro j b o hn hb;cases hj:Bz (Ls m s.hp m) j with
  |none=>exact absurd hj hn
  |some bx=>
   obtain ⟨i,b0,_,h3,_,e⟩:=hold hj;exact h.blt i b o (by rw [h3];simp) (by rw [←e];exact hb)
 ·intro i hi j hj;change j∈Bo (lk _ i) at hj;rw [PB] at hj;split at hj
  ·obtain ⟨k,hk,hm⟩:=hrV _ j hj;exact Nx hm (h.wfT i hi k hk)
  ·simp [Bo,B3,Aq] at hj
 ·intro j cells hb p hp k hk;obtain ⟨i,b0,_,h3,h4,_⟩:=hold hb;cases b0 with
  |st c=>
   cases h4;obtain ⟨q,hq,rfl⟩:=List.mem_map.1 hp;obtain ⟨k',hk',hm⟩:=hrC q k hk;exact Nx hm (h.wfB i c h3 q hq k' hk')
  |ar fz c=>cases h4
  |mv=>cases h4
 ·intro b hb;exact h.ownd b (hX b hb)
 ·intro j bx b o hb hlb hβ1 hlt k hk;obtain ⟨i,b0,_,h3,h4,e⟩:=hold hb;subst h4;refine h.rngB i b0 b o h3 ?_ (by rw [←e];exact hβ1) hlt k ?_
  ·cases b0<;>exact hlb
  ·cases b0 with
   |st c=>simpa [BR,Ahk] using hk
   |ar fz c=>exact hk
   |mv=>exact hk
 ·intro i hi;exact ⟨Nx (hpn i hi) (h.pin i hi).1,(hβ (hpn i hi)).trans (h.pin i hi).2⟩
 ·intro j c b o hb hβ1 hlt;obtain ⟨i,b0,hm,h3,h4,e⟩:=hold hb;cases b0 with
  |st c0=>
   obtain ⟨k,rfl,hk⟩:=h.stp i c0 b o h3 (by rw [←e];exact hβ1) hlt
   exact ⟨k,AW h1 hm (hpn k hk),hk⟩
  |ar fz c0=>cases h4
  |mv=>cases h4
 ·intro b hY hb;exact h.Yx b hY (hX b hb)
theorem T0 {m:List (Nat × Nat)} {q:Nat × Nat}{o n:Nat}(h:q∈m):q∈KV m o n:=by
 unfold KV;split
 ·exact h
 ·exact List.mem_append.2 (.inl h)
theorem Ko {q:Nat × Nat}{new:Nat}:∀{c:List PV}{j:Nat}{m:List (Nat × Nat)},q∈m->q∈Rn N new c j m
 |[],_,_,h=>h
 |p::c,j,m,h=>by
  unfold Rn;split
  ·rename_i e;cases e
  ·rename_i e;cases e;exact Ko (T0 h)
  ·rename_i e;cases e;exact Ko h
theorem RU {q:Nat × Nat}{m:List (Nat × Nat)} {i:Nat}(h:q∈m):q∈EK N s m i:=by
 unfold EK;split
 ·exact T0 h
 ·split
  ·exact h
  ·split
   ·exact Ko (T0 h)
   ·exact T0 h
 ·exact Ko h
 ·exact h
theorem Yi {q:Nat × Nat}:∀{l:List Nat}{m:List (Nat × Nat)},q∈m->q∈l.foldl (EK N s) m
 |[],_,h=>h
 |_::l,_,h=>Yi (l:=l) (RU h)
theorem Q2 {q:Nat × Nat}{m:List (Nat × Nat)} (h:q∈m):∀k,q∈Th N s.hp k m
 |0=>h
 |k+1=>by
  unfold Th;split
  ·exact Ko (Q2 h k)
  ·exact Q2 h k
theorem MH:∀{k i:Nat},i<k->s.hp (Cm N i)≠none->(Cm N i,Cm N i)∈SR N s.hp k
 |0,_,h,_=>by omega
 |k+1,i,h,hn=>by
  unfold SR;by_cases e:i=k
  ·subst e
   have:(s.hp (Cm N i)).isSome=true:=by
    cases hq:s.hp (Cm N i) with
    |none=>exact absurd hq hn
    |some b=>rfl
   rw [this];simp
  ·have:=MH (k:=k) (i:=i) (by omega) hn
   cases (s.hp (Cm N k)).isSome
   ·exact this
   ·exact List.mem_append.2 (.inl this)
theorem CZ (h:Bp N w0 X0 Y β s a w){L:Nat}{q:Bool}{K:St->Option R}(hk:ZK N (Kx L N) q s K=some r):∃β' s',K s'=some r∧Bp N w0 X0 Y β' s' a w:=by
 unfold ZK at hk;obtain ⟨hb,hk1⟩:=Am hk;simp only [Bool.and_eq_true] at hb
 obtain ⟨β2,h2⟩:∃β2,Bp N w0 X0 Y β2 (bif q then s else (Kx L N).foldl (PX N) ((Kx L N).foldl EP s)) a w:=by
  cases q
  ·obtain ⟨β1,h1⟩:=Pc (fun s β h i=>JU h i) (Kx L N) h
   obtain ⟨β2,h2⟩:=Pc (fun s β h i=>OO h i) (Kx L N) h1
   exact ⟨β2,h2⟩
  ·exact ⟨β,h⟩
 obtain ⟨β3,h3⟩:=OG h2 hb.1 hb.2 (ls:=Kx L N) (fun i hi=>NA hi) (fun i hi=>Yi (Q2 (MH (X0.p8 i hi) (h2.pin i hi).1) 8))
 exact ⟨β3,_,hk1,h3⟩
theorem Cz (h:Bp N w0 X0 Y β s a w){L:Nat}{K:St->Option R}(hk:Jh N L s K=some r):∃β' s',K s'=some r∧Bp N w0 X0 Y β' s' a w:=CZ h hk
theorem CD (h:Bp N w0 X0 Y β s a w){L:Nat}{K:St->Option R}(hk:SY N L s K=some r):∃β' s',K s'=some r∧Bp N w0 X0 Y β' s' a w:=CZ h hk
end
open Go.RowKit
section
variable {R:Type} {r:R} {P:Program} {N:Nat} {w0:World} {X0:Ef} {Y:Nat->Prop} {C:Gi} {call:Ah}
theorem Uf {n:Nat}{F:St->Option R}{s:St}(h:HE n F s=some r):F s=some r:=by
 unfold HE at h;split at h
 ·cases h
 ·exact h
theorem BU {β:Bt}{s:St}{a:Act}{w:World}(h:Bp N w0 X0 Y β s a w){c:Operand}{kt kf:St->Option R}(hk:Ae3 s c kt kf=some r):(a.eval c=.bool true∧kt s=some r)∨(a.eval c=.bool false∧kf s=some r):=by
 unfold Ae3 at hk;split at hk
 ·rename_i d;split at hk
  ·rename_i b ht;have hv:a.eval (.tmp d)=.bool b:=Cf h (x:=.tmp d) ht;cases b
   ·change kf ⟨Ch s.tm d (.sc (.bool false)),s.hp⟩=some r at hk;rw [Yu s.tm ht] at hk;exact .inr ⟨hv,hk⟩
   ·change kt ⟨Ch s.tm d (.sc (.bool true)),s.hp⟩=some r at hk;rw [Yu s.tm ht] at hk;exact .inl ⟨hv,hk⟩
  ·rename_i ht;have hu:=Ct h (.tmp d);change C9 _ _ _ (s.tm d) _ at hu;rw [ht] at hu;have hu':Av w _ .ub (a.eval (.tmp d)):=hu
   obtain ⟨b,hv⟩:∃b,a.eval (.tmp d)=.bool b:=by
    generalize a.eval (.tmp d)=x at hu';cases hu' with
    |ub b=>exact ⟨b,rfl⟩
   obtain ⟨h1,h2⟩:=LF hk;cases b
   ·exact .inr ⟨hv,h2⟩
   ·exact .inl ⟨hv,h1⟩
  ·cases hk
 ·exact .inl ⟨rfl,hk⟩
 ·exact .inr ⟨rfl,hk⟩
 ·cases hk
theorem IV {c:Code}{Q:Exit->Act->World->Prop}{F:(St->Option R)->St->Option R} {nm:St->(St->Option R)->Option R}
  (hnm:∀{β s a w} {K:St->Option R},Bp N w0 X0 Y β s a w->nm s K=some r->∃β' s',K s'=some r∧Bp N w0 X0 Y β' s' a w)
  (hF:∀{β s a w} {K:St->Option R}{Q':Act->World->Prop},Bp N w0 X0 Y β s a w->F K s=some r->(∀s' a' w' β',K s'=some r->Bp N w0 X0 Y β' s' a' w'->Q' a' w')->c.wp P (Exit.then Q' Q) a w):
  ∀(n:Nat) {β s a w},Bp N w0 X0 Y β s a w->QL F nm n s=some r->Code.rounds P c Q n a w
 |0,_,_,_,_,_,hk=>by cases hk
 |n+1,β,s,a,w,h,hk=>by
  rw [rounds_succ];refine hF h hk fun s' a' w' β' hk' h'=>?_
  obtain ⟨β1,s1,hk1,h1⟩:=hnm h' hk';exact IV hnm hF n h1 hk1
theorem GF {G:Se}(hNG:EC P G w0 X0)(hcall:∀f args res,call f args=some res->Cr G P f args res)(hm:P.follows .mixedOrders=true){fu:Nat}:
  ∀(c:Code) {ln:Nat} {lx:Nat->Nat} {lr:Nat} {kn:St->Option R} {kx:Nat->St->Option R} {kr:St->Option R} {β:Bt} {s:St} {a:Act} {w:World} {Q:Exit->Act->World->Prop},Bp N w0 X0 Y β s a w ->
   I7 C P fu N call c ln lx lr kn kx kr s=some r->(∀s' a' w' β',kn s'=some r->Bp N w0 X0 Y β' s' a' w'->Q .normal a' w') ->
   (∀id s' a' w' β',kx id s'=some r->Bp N w0 X0 Y β' s' a' w'->Q (.exit id) a' w')->(∀s' a' w' β',kr s'=some r->Bp N w0 X0 Y β' s' a' w'->Q .ret a' w')->c.wp P Q a w:=by
 intro c
 induction c with
 |skip=>intro ln lx lr kn kx kr β s a w Q h hk hn hx hr;exact wp_skip (hn s a w β hk h)
 |region id ops draw=>
  intro ln lx lr kn kx kr β s a w Q h hk hn hx hr;unfold I7 at hk;cases draw
  ·simp only [JO,Bool.false_and,cond_false] at hk;exact PT h hNG hcall hk hn
  ·simp only [JO,Ad5,Bool.true_and,cond_true] at hk;cases hb:FH C P ops<;>rw [hb] at hk
   ·obtain ⟨hb',hk1⟩:=Am (show Ao _ _=some r from hk)
    exact RJ h hNG hcall hm hb' hk1 hn
   ·exact NN h hNG hcall hm hb hk hn
 |seq c1 c2 ih1 ih2=>
  intro ln lx lr kn kx kr β s a w Q h hk hn hx hr;unfold I7 at hk
  refine wp_seq (ih1 h hk (fun s' a' w' β' hk' h'=>by
    cases hc:YE P c1 c2
    ·rw [hc] at hk';exact ih2 h' hk' hn hx hr
    ·rw [hc] at hk';cases hq:Xm c1 c2
     ·rw [hq] at hk';obtain ⟨β1,s1,hk1,h1⟩:=Cz h' (show Jh _ _ _ _=some r from hk')
      exact ih2 h1 (Uf hk1) hn hx hr
     ·rw [hq] at hk';obtain ⟨β1,s1,hk1,h1⟩:=CD h' (show SY _ _ _ _=some r from hk')
      exact ih2 h1 (Uf hk1) hn hx hr) (fun id s' a' w' β' hk' h'=>hx id s' a' w' β' hk' h') (fun s' a' w' β' hk' h'=>hr s' a' w' β' hk' h'))
 |cond c c1 c2 ih1 ih2=>
  intro ln lx lr kn kx kr β s a w Q h hk hn hx hr;unfold I7 at hk;rcases BU h hk with ⟨hc,hk1⟩|⟨hc,hk1⟩
  ·exact wp_cond_true hc (ih1 h hk1 hn hx hr)
  ·exact wp_cond_false hc (ih2 h hk1 hn hx hr)
 |block id c ih=>
  intro ln lx lr kn kx kr β s a w Q h hk hn hx hr;unfold I7 at hk;refine wp_block (ih h hk (fun s' a' w' β' hk' h'=>hn s' a' w' β' hk' h') (fun j s' a' w' β' hk' h'=>?_) (fun s' a' w' β' hk' h'=>hr s' a' w' β' hk' h'))
  show (if j=id then _ else _)
  by_cases e:j=id
  ·subst e;rw [if_pos rfl];rw [Nat.beq_refl] at hk';exact hn s' a' w' β' hk' h'
  ·rw [if_neg e]
   have:Nat.beq j id=false:=by
    cases hb:Nat.beq j id
    ·rfl
    ·exact absurd (Nat.eq_of_beq_eq_true hb) e
   rw [this] at hk';exact hx j s' a' w' β' hk' h'
 |loop c ih=>
  intro ln lx lr kn kx kr β s a w Q h hk hn hx hr;unfold I7 at hk;obtain ⟨β1,s1,hk1,h1⟩:=Cz h hk;refine wp_loop_rounds fu (IV (fun h hk=>Cz h hk) (fun h hk hQ=>?_) fu h1 hk1)
  exact ih h hk hQ (fun id s' a' w' β' hk' h'=>hx id s' a' w' β' hk' h') (fun s' a' w' β' hk' h'=>hr s' a' w' β' hk' h')
 |«exit» id=>intro ln lx lr kn kx kr β s a w Q h hk hn hx hr;exact wp_exit (hx id s a w β hk h)
 |ret=>intro ln lx lr kn kx kr β s a w Q h hk hn hx hr;exact wp_ret (hr s a w β hk h)
 |_=>intro ln lx lr kn kx kr β s a w Q h hk hn hx hr;cases hk
end
open Go.RowKit
theorem Me:∀{l:List (Nat × Bj)} {i:Nat}{b:Bj},Bz l i=some b->(i,b)∈l
 |[],_,_,h=>by cases h
 |(j,c)::l,i,b,h=>by
  unfold Bz at h;cases hb:Nat.beq i j<;>rw [hb] at h
  ·exact List.mem_cons_of_mem _ (Me h)
  ·have:=Nat.eq_of_beq_eq_true hb;cases h;rw [this];simp
theorem NM:∀{l:List (Nat × Bj)},(l.map (·.1)).Nodup->∀{i b},(i,b)∈l->Bz l i=some b
 |[],_,_,_,h=>by cases h
 |(j,c)::l,hn,i,b,h=>by
  simp only [List.map_cons,List.nodup_cons] at hn;unfold Bz;rcases List.mem_cons.1 h with e|h
  ·cases e;simp only [Nat.beq_refl,cond_true]
  ·have:Nat.beq i j=false:=by
    cases hb:Nat.beq i j
    ·rfl
    ·exact absurd (Nat.eq_of_beq_eq_true hb ▸ List.mem_map.2 ⟨_,h,rfl⟩) hn.1
   simp only [this,cond_false];exact NM hn.2 h
section
variable {R:Type} {r:R} {P:Program} {N:Nat} {w0:World} {X0:Ef} {Y:Nat->Prop} {β β':Bt} {s:St} {a:Act} {w w':World} {A:Nat->Prop}
theorem Ae9 {id:Nat}{t:CT}{p:PV}{K:PV->List (Nat × Bj)->Option R} (hk:Adq id t p K=some r):
  (∃c,K c []=some r∧Va c∧∀w A q u,Gp w A q p u->Av w A c u)∨∃es n cc,p=.own es n cc∧K (.view id es 0 n) [(id,.ar false cc)]=some r:=by
 have tree:∀t',(AY t' p fun c=>K c [])=some r->∃c,K c []=some r∧Va c∧∀w A q u,Gp w A q p u->Av w A c u:=by
  intro t' hk;obtain ⟨c,hk,hT,hpT,hv⟩:=Mc hk;refine ⟨c,hk,hT,fun w A q u h=>(hv w A (fun _=>none) u ?_).1⟩
  cases p<;>first|exact h|exact hpT.elim
 unfold Adq at hk;cases t with
 |sl es=>
  dsimp only at hk;split at hk
  ·rename_i es' n c;cases hb:Nat.beq es' es<;>rw [hb] at hk
   ·cases hk
   ·have:=Nat.eq_of_beq_eq_true hb;subst this;exact .inr ⟨_,_,_,rfl,hk⟩
  ·exact .inl (tree (.sl es) hk)
 |int k=>exact .inl (tree _ hk)
 |bool=>exact .inl (tree _ hk)
 |str=>exact .inl (tree _ hk)
 |any=>exact .inl (tree _ hk)
theorem Qw:∀{ts:List CT}{id:Nat}{ps:List PV}{K:List PV->List (Nat × Bj)->Option R},BK N id ts ps K=some r ->
  ∃cs bs,∃qs:List (Nat × Nat),K cs bs=some r∧cs.length=ps.length∧ps.length=ts.length∧bs.map (·.1)=qs.map (·.1)∧(∀q∈qs,∀q'∈qs,q.2=q'.2->q.1=q'.1) ∧
   (∀i bx,(i,bx)∈bs->∃c,bx=.ar false c)∧(∀c∈cs,JW c)∧(∀c∈cs,∀i∈Aq c,∃bx,(i,bx)∈bs) ∧
   ∀(w:World) (A:Nat->Prop) (own β':Bt) (j0:Nat) (us:List Value),(∀q∈qs,β' q.1=own (j0+q.2))->Ey w A own j0 ps us->Bi (Bx w A β') cs us∧∀i bx,(i,bx)∈bs->Pz w A β' i bx
 |[],id,ps,K,hk=>by
  obtain ⟨rfl,hk⟩:=C7 hk;refine ⟨[],[],[],hk,rfl,rfl,rfl,by simp,by simp,by simp,by simp,fun w A own β' j0 us _ h=>⟨?_,by simp⟩⟩
  cases us with
  |nil=>trivial
  |cons u us=>exact h.elim
 |t::ts,id,ps,K,hk=>by
  unfold BK at hk;obtain ⟨p,ps',hps,hk1⟩:=A8 hk;subst hps;rcases Ae9 hk1 with ⟨c,hk2,hT,hv⟩|⟨es,n,cc,rfl,hk2⟩
  ·obtain ⟨cs,bs,qs,hk3,hl,hl2,hb,hq2,hb1,hF,hb2,hvs⟩:=Qw hk2;refine ⟨c::cs,bs,qs.map (fun q=>(q.1,q.2+1)),hk3,by simp [hl],by simp [hl2],by rw [hb];simp,?_,hb1,?_,?_,fun w A own β' j0 us hβ ho=>?_⟩
   ·intro q hq q' hq' e;obtain ⟨q0,hq0,rfl⟩:=List.mem_map.1 hq;obtain ⟨q1,hq1',rfl⟩:=List.mem_map.1 hq';exact hq2 q0 hq0 q1 hq1' (by simp only at e;omega)
   ·intro y hy;rcases List.mem_cons.1 hy with rfl|hy
    ·exact Q4 hT
    ·exact hF y hy
   ·intro y hy i hi;rcases List.mem_cons.1 hy with rfl|hy
    ·rw [He hT] at hi;cases hi
    ·exact hb2 y hy i hi
   ·cases us with
    |nil=>exact ho.elim
    |cons u us=>
     obtain ⟨h1,h2⟩:=hvs w A own β' (j0+1) us (fun q hq=>by rw [hβ _ (List.mem_map_of_mem hq)];congr 1;simp only;omega) ho.2
     exact ⟨⟨Aef (hv w A _ u ho.1),h1⟩,h2⟩
  ·obtain ⟨cs,bs,qs,hk3,hl,hl2,hb,hq2,hb1,hF,hb2,hvs⟩:=Qw hk2;refine ⟨_::cs,(id,.ar false cc)::bs,(id,0)::qs.map (fun q=>(q.1,q.2+1)),hk3,by simp [hl],by simp [hl2],by simp only [List.map_cons,hb];simp,?_,?_,?_,?_,fun w A own β' j0 us hβ ho=>?_⟩
   ·intro q hq q' hq' e;rcases List.mem_cons.1 hq with rfl|hq
    ·rcases List.mem_cons.1 hq' with rfl|hq'
     ·rfl
     ·obtain ⟨q0,hq0,rfl⟩:=List.mem_map.1 hq';simp only at e;omega
    ·obtain ⟨q0,hq0,rfl⟩:=List.mem_map.1 hq;rcases List.mem_cons.1 hq' with rfl|hq'
     ·simp only at e;omega
     ·obtain ⟨q1,hq1',rfl⟩:=List.mem_map.1 hq';exact hq2 q0 hq0 q1 hq1' (by simp only at e;omega)
   ·intro i bx hm;rcases List.mem_cons.1 hm with e|hm
    ·cases e;exact ⟨cc,rfl⟩
    ·exact hb1 i bx hm
   ·intro y hy;rcases List.mem_cons.1 hy with rfl|hy
    ·trivial
    ·exact hF y hy
   ·intro y hy i hi;rcases List.mem_cons.1 hy with rfl|hy
    ·simp only [Aq,List.mem_singleton] at hi;subst hi;exact ⟨_,List.mem_cons_self⟩
    ·obtain ⟨bx,hbx⟩:=hb2 y hy i hi;exact ⟨bx,List.mem_cons_of_mem _ hbx⟩
   ·cases us with
    |nil=>exact ho.elim
    |cons u us=>
     obtain ⟨h1,h2⟩:=hvs w A own β' (j0+1) us (fun q hq=>by rw [hβ _ (List.mem_cons_of_mem _ (List.mem_map_of_mem hq))];congr 1;simp only;omega) ho.2
     have h0:=hβ (id,0) List.mem_cons_self;simp only [Nat.add_zero] at h0;refine ⟨⟨?_,h1⟩,fun i bx hm=>?_⟩
     ·rcases ho.1 with ⟨h3,rfl,_,h5⟩|⟨b,ob,cap,h3,h4,h5,h6,h7,_⟩
      ·exact .inl ⟨h0.trans h3,rfl,rfl,h5⟩
      ·exact .inr ⟨b,ob,ob,cap,h0.trans h3,h4,.inl rfl,h5,h6,h7⟩
     ·rcases List.mem_cons.1 hm with e|hm
      ·cases e;exact Xg ho.1 h0
      ·exact h2 i bx hm
theorem Agn {i:Nat}{t:TypeId}{p:PV}{K:PV->List (Nat × Bj)->Option R} (hk:inK P N i t p K=some r):
  ∃v bs,∃qs:List (Nat × Nat),K v bs=some r∧bs.map (·.1)=qs.map (·.1)∧(∀q∈qs,∀q'∈qs,q.2=q'.2->q.1=q'.1)∧(Zh p=true->(Cm N i,0)∈qs∧i<8) ∧
   (∀id bx,(id,bx)∈bs->B4 (some bx)∧∀c,bx=.st c->id=Cm N i∧Zh p=true)∧(∀id∈Bo v,∃bx,(id,bx)∈bs)∧AM bs ∧
   ∀(w:World) (A:Nat->Prop) (bt β':Bt) (u:Value),(∀q∈qs,β' q.1=bt q.2)->SF w A bt p u->C9 w A β' v u∧(∀id bx,(id,bx)∈bs->Pz w A β' id bx) ∧
    ∀id bx b o,(id,bx)∈bs->β' id=some (b,o)->∀j,BR bx o j->Aji bt p b j:=by
 have owns:∀{bs:List (Nat × Bj)} {qs:List (Nat × Nat)},bs.map (·.1)=qs.map (·.1)->(∀i bx,(i,bx)∈bs->∃c,bx=.ar false c)->∀{bt β':Bt},(∀q∈qs,β' q.1=bt (1+q.2))->∀id bx b o,(id,bx)∈bs->β' id=some (b,o)->∀j,BR bx o j->∃k o',bt (k+1)=some (b,o')∧o'<=j:=by
  intro bs qs hb hb1 bt β' hβ id bx b o hm hbo j hj;have:id∈qs.map (·.1):=by rw [←hb];exact List.mem_map.2 ⟨_,hm,rfl⟩
  obtain ⟨q,hq,rfl⟩:=List.mem_map.1 this;obtain ⟨c,rfl⟩:=hb1 _ _ hm;rw [hβ q hq,Nat.add_comm] at hbo;exact ⟨q.2,o,hbo,hj⟩
 have nost:∀{bs:List (Nat × Bj)},(∀i bx,(i,bx)∈bs->∃c,bx=.ar false c)->AM bs:=by
  intro bs hb1 id cells hm;obtain ⟨c,e⟩:=hb1 id _ hm;cases e
 unfold inK at hk;split at hk
 ·rename_i e he;obtain ⟨ps,rfl,hk1⟩:=MD hk;obtain ⟨hi8,hk2⟩:=Am hk1;have hi8:i<8:=Nat.lt_of_succ_le (Nat.le_of_ble_eq_true hi8);obtain ⟨cs,bs,qs,hk3,hl,hl2,hb,hq2,hb1,hF,hb2,hv⟩:=Qw hk2;refine ⟨_,_,(Cm N i,0)::qs.map (fun q=>(q.1,q.2+1)),hk3,by simp only [List.map_cons,hb];simp,?_,fun _=>⟨List.mem_cons_self,hi8⟩,?_,?_,?_,fun w A bt β' u hβ hp=>?_⟩
  ·intro q hq q' hq' e;rcases List.mem_cons.1 hq with rfl|hq
   ·rcases List.mem_cons.1 hq' with rfl|hq'
    ·rfl
    ·obtain ⟨q0,hq0,rfl⟩:=List.mem_map.1 hq';simp only at e;omega
   ·obtain ⟨q0,hq0,rfl⟩:=List.mem_map.1 hq;rcases List.mem_cons.1 hq' with rfl|hq'
    ·simp only at e;omega
    ·obtain ⟨q1,hq1',rfl⟩:=List.mem_map.1 hq';exact hq2 q0 hq0 q1 hq1' (by simp only at e;omega)
  ·intro id bx hm;rcases List.mem_cons.1 hm with e|hm
   ·cases e;exact ⟨trivial,fun _ _=>⟨rfl,rfl⟩⟩
   ·obtain ⟨c,rfl⟩:=hb1 id bx hm;exact ⟨trivial,fun _ e=>by cases e⟩
  ·intro id hid;simp only [Bo,B3,Aq,List.mem_singleton] at hid;subst hid;exact ⟨_,List.mem_cons_self⟩
  ·intro id cells hm c hc k hk;rcases List.mem_cons.1 hm with e|hm
   ·cases e;obtain ⟨bx,hbx⟩:=hb2 c hc k hk;exact ⟨bx,List.mem_cons_of_mem _ hbx⟩
   ·obtain ⟨c,e⟩:=hb1 id _ hm;cases e
  ·obtain ⟨b,o,h1,rfl,_,vs,h3,h4,h5⟩:=hp;have h0:=hβ (Cm N i,0) List.mem_cons_self;simp only at h0;have hβ1:∀q∈qs,β' q.1=bt (1+q.2):=fun q hq=>by rw [hβ _ (List.mem_cons_of_mem _ (List.mem_map_of_mem hq)),Nat.add_comm]
   obtain ⟨h6,h7⟩:=hv w A bt β' 1 vs hβ1 h3;refine ⟨⟨b,o,h0.trans h1,by simp⟩,fun id bx hm=>?_,fun id bx b' o' hm hb' j hj=>?_⟩
   ·rcases List.mem_cons.1 hm with e|hm
    ·cases e;refine ⟨b,o,h0.trans h1,fun k c hk=>?_,fun k hk=>h5 k (by omega)⟩
     obtain ⟨v,hv,hcr⟩:=h6.get hk;exact ⟨v,h4 k v hv,hcr⟩
    ·exact h7 id bx hm
   ·rcases List.mem_cons.1 hm with e|hm
    ·cases e;rw [h0] at hb';have hj:o'<=j∧j<o'+cs.length:=hj;exact .inr ⟨o',ps,hb',hj.1,.inl ⟨rfl,by omega⟩⟩
    ·exact .inl (owns hb hb1 hβ1 id bx b' o' hm hb' j hj)
 ·split at hk
  ·rename_i ps;obtain ⟨e,he,hk1⟩:=Cs hk;obtain ⟨hi8,hk2⟩:=Am hk1;have hi8:i<8:=Nat.lt_of_succ_le (Nat.le_of_ble_eq_true hi8);obtain ⟨q,qr,hq,hk3⟩:=A8 hk2;subst hq;obtain ⟨hnil,hk4⟩:=C7 hk3;subst hnil;unfold Eg at hk4;split at hk4
   ·rename_i es' n c;cases hb:Nat.beq es' (Bf P e)<;>rw [hb] at hk4
    ·cases hk4
    ·have hes:=Nat.eq_of_beq_eq_true hb;subst hes;refine ⟨_,_,[(Cm N i,0)],hk4,rfl,by simp,fun _=>⟨by simp,hi8⟩,?_,?_,?_,fun w A bt β' u hβ hp=>?_⟩
     ·intro id bx hm;simp only [List.mem_singleton] at hm;cases hm;exact ⟨trivial,fun _ e=>by cases e⟩
     ·intro id hid;simp only [Bo,B3,Aq,List.mem_singleton] at hid;subst hid;exact ⟨_,List.mem_cons_self⟩
     ·intro id cells hm;simp only [List.mem_singleton] at hm;cases hm
     ·obtain ⟨es,n',c',h1,h2⟩:=hp;cases h1;have h0:=hβ (Cm N i,0) List.mem_cons_self;simp only at h0;refine ⟨?_,fun id bx hm=>?_,fun id bx b' o' hm hb' j hj=>?_⟩
      ·rcases h2 with ⟨h3,rfl,_,h5⟩|⟨b,ob,cap,h3,h4,h5,h6,h7,_⟩
       ·exact .inl ⟨h0.trans h3,rfl,rfl,h5⟩
       ·exact .inr ⟨b,ob,ob,cap,h0.trans h3,h4,.inl rfl,h5,h6,h7⟩
      ·simp only [List.mem_singleton] at hm;cases hm;exact Xg h2 h0
      ·simp only [List.mem_singleton] at hm;cases hm;rw [h0] at hb';exact .inr ⟨o',_,hb',hj,.inr rfl⟩
   ·cases hk4
  ·rename_i hnt;cases hagg:Ck P t<;>rw [hagg] at hk
   ·simp only [cond_false] at hk;obtain ⟨cs,bs,qs,hk3,hl,hl2,hb,hq2,hb1,hF,hb2,hv⟩:=Qw hk;obtain ⟨c,cs',hcs,hk4⟩:=A8 hk3;subst hcs;obtain ⟨hnil,hk5⟩:=C7 hk4;subst hnil;have hFc:=hF c (by simp)
    have hnL:Zh p=false∨∃ps,p=.pbox ps:=by
     cases p<;>first|exact .inl rfl|exact .inr ⟨_,rfl⟩|exact absurd rfl (hnt _)
    have hpb:∀ps,p ≠ .pbox ps:=by
     rintro ps rfl
     cases hts:Hl P t with
     |nil=>rw [hts] at hl2;simp at hl2
     |cons t' ts=>
      rw [hts] at hk;unfold BK Adq at hk;obtain ⟨q,qs1,hq,hk1⟩:=A8 hk;cases hq;cases t'<;>simp [AY,Gk,Ad,Bn,Dp,fnK] at hk1
    have hpa:∀ps,p ≠ .agg ps:=by
     rintro ps rfl
     cases hts:Hl P t with
     |nil=>rw [hts] at hl2;simp at hl2
     |cons t' ts=>
      rw [hts] at hk;unfold BK Adq at hk;obtain ⟨q,qs1,hq,hk1⟩:=A8 hk;cases hq;cases t'<;>simp [AY,Gk,Ad,Bn,Dp,fnK] at hk1
    have hnL:Zh p=false:=hnL.elim id (fun ⟨ps,e⟩=>absurd e (hpb ps))
    have hrefs:Bo c=Aq c:=by cases c<;>first|rfl|exact hFc.elim
    refine ⟨c,bs,qs.map (fun q=>(q.1,q.2+1)),hk5,by rw [hb];simp,?_,(fun h=>by rw [hnL] at h;cases h),?_,fun id hid=>hb2 c (by simp) id (by rw [←hrefs];exact hid),nost hb1,fun w A bt β' u hβ hp=>?_⟩
    ·intro q hq q' hq' e;obtain ⟨q0,hq0,rfl⟩:=List.mem_map.1 hq;obtain ⟨q1,hq1',rfl⟩:=List.mem_map.1 hq';exact hq2 q0 hq0 q1 hq1' (by simp only at e;omega)
    ·intro id bx hm;obtain ⟨c,rfl⟩:=hb1 id bx hm;exact ⟨trivial,fun _ e=>by cases e⟩
    ·have hp':Gp w A (bt 1) p u:=by cases p<;>first|exact hp.2|exact absurd rfl (hpa _)|exact absurd rfl (hpb _)|exact absurd rfl (hnt _)
     have hβ1:∀q∈qs,β' q.1=bt (1+q.2):=fun q hq=>by rw [hβ _ (List.mem_map_of_mem hq),Nat.add_comm]
     obtain ⟨h6,h7⟩:=hv w A bt β' 1 [u] hβ1 ⟨hp',trivial⟩;refine ⟨?_,h7,fun id bx b' o' hm hb' j hj=>.inl (owns hb hb1 hβ1 id bx b' o' hm hb' j hj)⟩
     have h8:=h6.1;cases c<;>first|exact h8|exact hFc.elim
   ·simp only [cond_true] at hk;obtain ⟨ps,hp0,hk1⟩:=Gz hk;subst hp0;obtain ⟨cs,bs,qs,hk3,hl,hl2,hb,hq2,hb1,hF,hb2,hv⟩:=Qw hk1;refine ⟨_,bs,qs.map (fun q=>(q.1,q.2+1)),hk3,by rw [hb];simp,?_,(fun h=>by cases h),?_,fun id hid=>?_,nost hb1,fun w A bt β' u hβ hp=>?_⟩
    ·intro q hq q' hq' e;obtain ⟨q0,hq0,rfl⟩:=List.mem_map.1 hq;obtain ⟨q1,hq1',rfl⟩:=List.mem_map.1 hq';exact hq2 q0 hq0 q1 hq1' (by simp only at e;omega)
    ·intro id bx hm;obtain ⟨c,rfl⟩:=hb1 id bx hm;exact ⟨trivial,fun _ e=>by cases e⟩
    ·obtain ⟨c,hc,hi⟩:=List.mem_flatMap.1 (show id∈cs.flatMap Aq from hid)
     exact hb2 c hc id hi
    ·obtain ⟨vs,h1,_,h3⟩:=hp;have hβ1:∀q∈qs,β' q.1=bt (1+q.2):=fun q hq=>by rw [hβ _ (List.mem_map_of_mem hq),Nat.add_comm]
     obtain ⟨h6,h7⟩:=hv w A bt β' 1 vs hβ1 h3;exact ⟨⟨vs,h1,h6⟩,h7,fun id bx b' o' hm hb' j hj=>.inl (owns hb hb1 hβ1 id bx b' o' hm hb' j hj)⟩
theorem TZ:∀{ts:List TypeId}{i:Nat}{ps:List PV}{K:List (Nat × PV)->List (Nat × Bj)->Option R},Acl P N i ts ps K=some r ->
  ∃tms bs,∃qs:List (Nat × Nat × Nat),K tms bs=some r∧bs.map (·.1)=qs.map (·.1)∧(∀q∈qs,i<=q.2.1)∧(∀q∈qs,∀q'∈qs,q.2=q'.2->q.1=q'.1) ∧
   (∀k p,ps[k]?=some p->Zh p=true->(Cm N (i+k),i+k,0)∈qs∧i+k<8)∧(∀id bx,(id,bx)∈bs->B4 (some bx)∧∀c,bx=.st c->∃k p,ps[k]?=some p∧Zh p=true∧id=Cm N (i+k)) ∧
   (∀j,∀id∈Bo (lk tms j),∃bx,(id,bx)∈bs)∧AM bs ∧
   ∀(w:World) (A:Nat->Prop) (bt:EG) (β':Bt) (us:List Value),(∀q∈qs,β' q.1=bt q.2.1 q.2.2)->Ll w A bt i ps us ->
    (∀j,(∃u,i<=j∧us[j-i]?=some u∧C9 w A β' (lk tms j) u)∨(lk tms j=.top∧(i<=j->us[j-i]?=none)))∧(∀id bx,(id,bx)∈bs->Pz w A β' id bx) ∧
    ∀id bx b o,(id,bx)∈bs->β' id=some (b,o)->∀j,BR bx o j->∃k p,ps[k]?=some p∧Aji (bt (i+k)) p b j
 |[],i,ps,K,hk=>by
  obtain ⟨hps,hk⟩:=C7 hk;subst hps;refine ⟨[],[],[],hk,rfl,by simp,by simp,by simp,by simp,(fun j id hid=>by cases hid),(by intro i cells hm;cases hm),fun w A bt β' us _ h=>?_⟩
  cases us with
  |nil=>exact ⟨fun j=>.inr ⟨rfl,fun _=>by simp⟩,by simp,by simp⟩
  |cons u us=>exact h.elim
 |t::ts,i,ps,K,hk=>by
  unfold Acl at hk;obtain ⟨p,ps',hps,hk1⟩:=A8 hk;subst hps;obtain ⟨v,bs,qs,hk2,hb,hqi,hpin,hbx,hr,hri,hv⟩:=Agn hk1;obtain ⟨tms,bs',qs',hk3,hb',hq0',hqi',hpin',hbx',hr',hri',hv'⟩:=TZ hk2;refine ⟨(i,v)::tms,bs++bs',qs.map (fun q=>(q.1,i,q.2))++qs',hk3,by simp only [List.map_append,hb,hb'];simp,?_,?_,?_,?_,?_,?_,fun w A bt β' us hβ hp=>?_⟩
  ·intro q hq;rcases List.mem_append.1 hq with hq|hq
   ·obtain ⟨q0,hq0,rfl⟩:=List.mem_map.1 hq;exact Nat.le_refl _
   ·have:=hq0' q hq;omega
  ·intro q hq q' hq' e;rcases List.mem_append.1 hq with hq|hq
   ·obtain ⟨q0,hq0,rfl⟩:=List.mem_map.1 hq;rcases List.mem_append.1 hq' with hq'|hq'
    ·obtain ⟨q1,hq1',rfl⟩:=List.mem_map.1 hq';simp only [Prod.mk.injEq,true_and] at e;exact hqi q0 hq0 q1 hq1' e
    ·have:=hq0' q' hq';rw [←e] at this;simp only at this;omega
   ·have h5:=hq0' q hq;rcases List.mem_append.1 hq' with hq'|hq'
    ·obtain ⟨q1,hq1',rfl⟩:=List.mem_map.1 hq';rw [e] at h5;simp only at h5;omega
    ·exact hqi' q hq q' hq' e
  ·intro k p' hk' hL;cases k with
   |zero=>
    simp only [List.getElem?_cons_zero,Option.some.injEq] at hk';subst hk';obtain ⟨h1,h2⟩:=hpin hL;exact ⟨List.mem_append.2 (.inl (List.mem_map.2 ⟨_,h1,rfl⟩)),h2⟩
   |succ k=>
    obtain ⟨h1,h2⟩:=hpin' k p' (by simpa using hk') hL
    rw [show i+1+k=i+(k+1) by omega] at h1 h2
    exact ⟨List.mem_append.2 (.inr h1),h2⟩
  ·intro id bx hm;rcases List.mem_append.1 hm with hm|hm
   ·obtain ⟨h1,h2⟩:=hbx id bx hm;exact ⟨h1,fun c hc=>⟨0,p,rfl,(h2 c hc).2,(h2 c hc).1⟩⟩
   ·obtain ⟨h1,h2⟩:=hbx' id bx hm;refine ⟨h1,fun c hc=>?_⟩
    obtain ⟨k,p',h3,h4,h5⟩:=h2 c hc;exact ⟨k+1,p',by simpa using h3,h4,by rw [h5,show i+1+k=i+(k+1) by omega]⟩
  ·intro j id hid;unfold lk at hid;cases hbq:Nat.beq j i<;>rw [hbq] at hid
   ·obtain ⟨bx,h1⟩:=hr' j id hid;exact ⟨bx,List.mem_append.2 (.inr h1)⟩
   ·obtain ⟨bx,h1⟩:=hr id hid;exact ⟨bx,List.mem_append.2 (.inl h1)⟩
  ·intro id cells hm c hc k hk;rcases List.mem_append.1 hm with hm|hm
   ·obtain ⟨bx,h1⟩:=hri id cells hm c hc k hk;exact ⟨bx,List.mem_append.2 (.inl h1)⟩
   ·obtain ⟨bx,h1⟩:=hri' id cells hm c hc k hk;exact ⟨bx,List.mem_append.2 (.inr h1)⟩
  ·cases us with
   |nil=>exact hp.elim
   |cons u us=>
    obtain ⟨h1,h2,h3⟩:=hv w A (bt i) β' u (fun q hq=>hβ _ (List.mem_append.2 (.inl (List.mem_map_of_mem hq)))) hp.1
    obtain ⟨h1',h2',h3'⟩:=hv' w A bt β' us (fun q hq=>hβ q (List.mem_append.2 (.inr hq))) hp.2
    refine ⟨fun j=>?_,fun id bx hm=>?_,fun id bx b o hm hbo j hj=>?_⟩
    ·unfold lk;cases hbq:Nat.beq j i
     ·have hne:=Mg hbq;simp only [cond_false];rcases h1' j with ⟨u',h4,h5,h6⟩|⟨h4,h5⟩
      ·refine .inl ⟨u',by omega,?_,h6⟩
       rw [show j-i=(j-(i+1))+1 by omega]
       simpa using h5
      ·refine .inr ⟨h4,fun hij=>?_⟩
       rw [show j-i=(j-(i+1))+1 by omega]
       simpa using h5 (by omega)
     ·have:=Nat.eq_of_beq_eq_true hbq;subst this;exact .inl ⟨u,Nat.le_refl _,by simp,h1⟩
    ·rcases List.mem_append.1 hm with hm|hm
     ·exact h2 id bx hm
     ·exact h2' id bx hm
    ·rcases List.mem_append.1 hm with hm|hm
     ·exact ⟨0,p,rfl,h3 id bx b o hm hbo j hj⟩
     ·obtain ⟨k,p',h4,h5⟩:=h3' id bx b o hm hbo j hj;exact ⟨k+1,p',by simpa using h4,by rw [show i+(k+1)=i+1+k by omega];exact h5⟩
def FW (bt:EG)(args:List PV)(h8:∀k p,args[k]?=some p->Zh p=true->k<8):Ef:=
 ⟨BtX bt,ME bt args,fun i=>∃p,args[i]?=some p∧Zh p=true,fun i=>bt i 0,fun i ⟨p,h1,h2⟩=>h8 i p h1 h2⟩
theorem MV {ts:List TypeId}{args:List PV}{us:List Value}{bt:EG}{K:List (Nat × PV)->List (Nat × Bj)->Option R} (hin:Ins w Y bt args us)(hk:Acl P N 0 ts args K=some r):
  ∃tms bs,K tms bs=some r∧(Bq (fun _=>none) bs=true->us.length<=N->∃(h8:∀k p,args[k]?=some p->Zh p=true->k<8),∃β0,
   Bp N w (FW bt args h8) Y β0 ⟨lk tms,Bz bs⟩ { tmps:=us.toArray++Array.replicate (N-us.toArray.size) undef,defers:=[] } w):=by
 obtain ⟨tms,bs,qs,hk1,hb,hq0,hqi,hpin,hbx,hr,hri,hv⟩:=TZ hk;refine ⟨tms,bs,hk1,fun hab hN=>?_⟩
 have hnod:=Rm hab
 have h8:∀k p,args[k]?=some p->Zh p=true->k<8:=fun k p h1 h2=>by
  have:=(hpin k p h1 h2).2;omega
 have hqn:(qs.map (·.1)).Nodup:=by rw [←hb];exact hnod
 obtain ⟨β0,hβ0⟩:∃β0:Bt,∀q∈qs,β0 q.1=bt q.2.1 q.2.2:=by
  have:∀(l:List (Nat × Nat × Nat)),(l.map (·.1)).Nodup->∃β0:Bt,∀q∈l,β0 q.1=bt q.2.1 q.2.2:=by
   intro l
   induction l with
   |nil=>intro _;exact ⟨fun _=>none,by simp⟩
   |cons q l ih=>
    intro hn;simp only [List.map_cons,List.nodup_cons] at hn;obtain ⟨b1,h1⟩:=ih hn.2;refine ⟨Ch b1 q.1 (bt q.2.1 q.2.2),fun q' hq'=>?_⟩
    rcases List.mem_cons.1 hq' with rfl|hq'
    ·exact Ap _ _ _
    ·have hne:q'.1≠q.1:=fun e=>hn.1 (by rw [←e];exact List.mem_map.2 ⟨q',hq',rfl⟩)
     rw [Ak _ _ hne];exact h1 q' hq'
  exact this qs hqn
 refine ⟨h8,β0,?_⟩;obtain ⟨hs,hbr,hL⟩:=hv w _ bt β0 us hβ0 hin.args
 have hqm:∀id bx,(id,bx)∈bs->∃ik,(id,ik)∈qs∧β0 id=bt ik.1 ik.2:=by
  intro id bx hm;have:id∈qs.map (·.1):=by rw [←hb];exact List.mem_map.2 ⟨_,hm,rfl⟩
  obtain ⟨q,hq,rfl⟩:=List.mem_map.1 this;exact ⟨q.2,hq,hβ0 q hq⟩
 have hX:∀b,Yj (Bz bs) β0 b->BtX bt b:=by
  rintro b ⟨id,o,hl,hβ⟩
  cases hq:Bz bs id with
  |none=>rw [hq] at hl;exact hl.elim
  |some bx=>
   obtain ⟨ik,_,h2⟩:=hqm id bx (Me hq);rw [h2] at hβ;exact ⟨_,_,_,hβ⟩
 have hA:∀b,Ci (Bz bs) β0 Y b->BtX bt b∨Y b:=fun b hb=>hb.imp (hX b) id
 have hput:∀{p:PV} {u:Value},C9 w (fun b=>BtX bt b∨Y b) β0 p u->C9 w (Ci (Bz bs) β0 Y) β0 p u:=fun h=>h.step (Bv.refl _ _) (fun b _=>hA b) (fun _ _=>rfl)
 refine ⟨rfl,by simp;omega,fun i hi=>?_,fun i hi=>?_,?_,?_,?_,fun i hi id hid=>?_,?_,fun b hb=>.inl (hX b hb),?_,?_,?_,fun b hY hXb=>hin.Yx b hY (hX b hXb),hin.Ylt,⟨rfl,rfl,rfl,Bv.refl _ _,fun _ _ _ _=>⟨rfl,rfl⟩⟩⟩
 ·rcases hs i with ⟨u,_,h,_⟩|⟨h,_⟩
  ·rw [Nat.sub_zero,List.getElem?_eq_none (by omega)] at h;cases h
  ·exact h
 ·rcases hs i with ⟨u,_,h,hv⟩|⟨h,h'⟩
  ·rw [Nat.sub_zero] at h
   have hlt:i<us.length:=by
    rcases Nat.lt_or_ge i us.length with h'|h'
    ·exact h'
    ·rw [List.getElem?_eq_none h'] at h;cases h
   have:(us.toArray++Array.replicate (N-us.toArray.size) undef).getD i undef=u:=by
    rw [Array.getD_eq_getD_getElem?,Array.getElem?_append_left (by simpa using hlt)]
    simp [h]
   show C9 w _ _ _ ((us.toArray++Array.replicate (N-us.toArray.size) undef).getD i undef);rw [this];exact hput hv
  ·show C9 w _ _ (lk tms i) _;rw [h];exact Av.top _
 ·intro id bx hq;exact (hbr id bx (Me hq)).step' hA
 ·intro id id' b o o' hl hl' hβ hβ';cases hq:Bz bs id with
  |none=>change B4 (Bz bs id) at hl;rw [hq] at hl;exact hl.elim
  |some bx=>
   cases hq':Bz bs id' with
   |none=>change B4 (Bz bs id') at hl';rw [hq'] at hl';exact hl'.elim
   |some bx'=>
    obtain ⟨ik,h1,h2⟩:=hqm id bx (Me hq);obtain ⟨ik',h1',h2'⟩:=hqm id' bx' (Me hq');rw [h2] at hβ;rw [h2'] at hβ';obtain ⟨h3,h4⟩:=hin.inj _ _ _ _ b o o' hβ hβ';exact hqi _ h1 _ h1' (Prod.ext h3 h4)
 ·intro id b o hn hβ;cases hq:Bz bs id with
  |none=>exact absurd hq hn
  |some bx=>
   obtain ⟨ik,h1,h2⟩:=hqm id bx (Me hq);rw [h2] at hβ;exact hin.lt b ⟨_,_,_,hβ⟩
 ·obtain ⟨bx,hm⟩:=hr i id hid;show Bz bs id≠none;rw [NM hnod hm];simp
 ·intro id cells hq c hc k hk;obtain ⟨bx,hm⟩:=hri id cells (Me hq) c hc k hk;show Bz bs k≠none;rw [NM hnod hm];simp
 ·intro id bx b o hq hl hβ _ j hj;obtain ⟨k,p,h1,h2⟩:=hL id bx b o (Me hq) hβ j hj;rw [Nat.zero_add] at h2;exact ⟨k,p,h1,h2⟩
 ·rintro i ⟨p,h1,h2⟩
  have h3:=(hpin i p h1 h2).1;rw [Nat.zero_add] at h3;refine ⟨?_,hβ0 _ h3⟩;have:Cm N i∈bs.map (·.1):=by rw [hb];exact List.mem_map.2 ⟨_,h3,rfl⟩
  obtain ⟨⟨id,bx⟩,hm,e⟩:=List.mem_map.1 this;show Bz bs (Cm N i)≠none;rw [←e,NM hnod hm];simp
 ·intro id c b o hq _ _;obtain ⟨k,p,h1,h2,h3⟩:=(hbx id _ (Me hq)).2 c rfl;rw [Nat.zero_add] at h3;exact ⟨k,h3,p,h1,h2⟩
end
open Go.RowKit
def Kg (β:Bt)(l:List (Option Nat)) (j:Nat):Option (Nat × Nat):=((l[j]?).bind id).bind β
section
variable {R:Type} {r:R} {P:Program} {N:Nat} {w0:World} {X0:Ef} {Y:Nat->Prop} {β β':Bt} {s:St} {a:Act} {w w':World} {A:Nat->Prop}
def Adw (s:St)(l:List (Option Nat)):Prop:=∀id,some id∈l->B4 (s.hp id)
def L6 (s:St)(z:List Nat):Prop:=∀id∈z,∃f c,s.hp id=some (.ar f c)
theorem KN (h : Bp N w0 X0 Y β s a w) {shr : Bool} {t : CT} {p : PV} {K : PV -> List Nat -> List Nat -> Option R} (hk : ZQ shr s.hp t p K = some r) :
    ∃ c q z, K c (Option.toList q) z = some r ∧ (∀ x, c ≠ .agg x ∧ c ≠ .pbox x) ∧ JW p ∧ (∀ id, q = some id -> ∃ c, s.hp id = some (.ar false c)) ∧ L6 s z ∧
      ∀ (fz : List Nat) A u, (∀ i ∈ z, i ∈ fz) -> L6 s fz -> (∀ b, A b -> Ci (Af s.hp fz) β Y b) -> Bx w (Ci s.hp β Y) β p u -> Gp w A (q.bind β) c u := by
  have notree : ∀ {c : PV}, Va c -> ∀ x, c ≠ .agg x ∧ c ≠ .pbox x := fun hT x => ⟨Yt hT x, by rintro rfl; exact hT⟩
  unfold ZQ at hk
  cases shr <;> simp only [cond_true, cond_false] at hk
  · have tree : ∀ t', (∀ es, t' ≠ .sl es) -> (AY t' p fun c => K c [] []) = some r -> ∃ c q z, K c (Option.toList q) z = some r ∧ (∀ x, c ≠ .agg x ∧ c ≠ .pbox x) ∧ JW p ∧ (∀ id, q = some id -> ∃ c, s.hp id = some (.ar false c)) ∧ L6 s z ∧
        ∀ (fz : List Nat) A u, (∀ i ∈ z, i ∈ fz) -> L6 s fz -> (∀ b, A b -> Ci (Af s.hp fz) β Y b) -> Bx w (Ci s.hp β Y) β p u -> Gp w A (q.bind β) c u := by
      intro t' hne hk
      obtain ⟨c, hk1, hT, hpT, hv⟩ := Mc hk
      refine ⟨c, none, [], hk1, notree hT, Q4 hpT, by simp, (by intro i hi; cases hi), fun fz A u _ _ hA hc => Jk hT ?_⟩
      exact (hv w _ β u hc).1.step (Bv.refl _ _) (fun b _ hb => Nk (hA b hb))
    unfold Aiw at hk
    cases t with
    | sl es =>
      dsimp only at hk
      split at hk
      · rename_i id es' off n
        cases hb : (Nat.beq es' es && Nat.beq off 0) <;> rw [hb] at hk
        · cases hk
        · simp only [Bool.and_eq_true] at hb
          have he := Nat.eq_of_beq_eq_true hb.1
          have ho := Nat.eq_of_beq_eq_true hb.2
          subst he ho
          simp only [cond_true] at hk
          split at hk
          · rename_i c h0
            obtain ⟨hl, hk1⟩ := Am hk
            refine ⟨_, some id, [], hk1, by simp, trivial, fun i hi => by cases hi; exact ⟨c, h0⟩, (by intro i hi; cases hi), fun fz A u _ _ hA hc => ?_⟩
            rcases hc with ⟨h1, _, rfl, h4⟩ | ⟨b, o, x, cap, h1, h2, hx, h3, h4, h5⟩
            · exact .inl ⟨h1, rfl, by simp, h4⟩
            · have hx : x = o := by rcases hx with e | ⟨_, e⟩ <;> omega
              subst hx
              rcases h.box id _ h0 with ⟨h6, _⟩ | ⟨b', o', h6, h7, h8, _⟩
              · rw [h1] at h6; cases h6
              · rw [h1] at h6
                cases h6
                refine .inr ⟨b, x, cap, h1, h2, h3, h4, h5, fun j q hq => ?_, fun j hj hj' => h8 rfl j hj hj'⟩
                rw [List.getElem?_take] at hq
                split at hq
                · obtain ⟨v, hv, h9, ht⟩ := h7 j q hq
                  exact ⟨v, hv, h9, ht.step (Bv.refl _ _) (fun b _ hb => Nk (hA b hb))⟩
                · cases hq
          · cases hk
      · obtain ⟨z, n, c, hk1, hp⟩ := Fi hk
        obtain ⟨hz, hk2⟩ := Am hk1
        subst hz
        have hpF : JW p := by rcases hp with e | ⟨e, _⟩ <;> (rw [e]; trivial)
        refine ⟨_, none, [], hk2, by simp, hpF, by simp, (by intro i hi; cases hi), fun fz A u _ _ _ hc => ?_⟩
        have hu : u = .slice none 0 0 := by
          rcases hp with rfl | ⟨rfl, _⟩
          · cases hc; rfl
          · exact Av.val hc
        exact .inl ⟨rfl, rfl, rfl, hu⟩
    | int k => exact tree _ (by simp) hk
    | bool => exact tree _ (by simp) hk
    | str => exact tree _ (by simp) hk
    | any => exact tree _ (by simp) hk
  · obtain ⟨c, m, hk1, hT, hF, hm, hv⟩ := FV h hk
    exact ⟨c, none, m, hk1, notree hT, hF, by simp, hm, fun fz A u h1 h2 hA hc => Jk hT ((hv fz h1 h2 u hc).1.step (Bv.refl _ _) (fun b _ hb => hA b hb))⟩
structure DX (s:St) (β:Bt) (Y:Nat->Prop) (w:World) (cs:List PV) (l:List (Option Nat)) (z:List Nat) (ps:List PV):Prop where
 len:l.length=cs.length
 pl:cs.length=ps.length
 na:∀c∈cs,∀x,c ≠ .agg x∧c ≠ .pbox x
 fr:∀p∈ps,JW p
 own:∀id,some id∈l->∃c,s.hp id=some (.ar false c)
 row:L6 s z
 sem:∀(fz:List Nat) A us,(∀i∈z,i∈fz)->L6 s fz->(∀b,A b->Ci (Af s.hp fz) β Y b)->Bi (Bx w (Ci s.hp β Y) β) ps us->∀own j0,(∀j,j<l.length->own (j0+j)=Kg β l j)->Ey w A own j0 cs us
theorem DX.nil:DX s β Y w [] [] [] []:=⟨rfl,rfl,by simp,by simp,by simp,(by intro i hi;cases hi),fun fz A us _ _ _ hu own j0 _=>by
 cases us with
 |nil=>trivial
 |cons u us=>exact hu.elim⟩
theorem DX.cons {c p:PV}{q:Option Nat}{z zs:List Nat}{cs ps:List PV}{l:List (Option Nat)} (hna:∀x,c ≠ .agg x∧c ≠ .pbox x)(hF:JW p)(hq:∀id,q=some id->∃c,s.hp id=some (.ar false c)) (hz:L6 s z)
  (hv:∀(fz:List Nat) A u,(∀i∈z,i∈fz)->L6 s fz->(∀b,A b->Ci (Af s.hp fz) β Y b)->Bx w (Ci s.hp β Y) β p u->Gp w A (q.bind β) c u) (H:DX s β Y w cs l zs ps):DX s β Y w (c::cs) (q::l) (z++zs) (p::ps):=by
 refine ⟨by simp [H.len],by simp [H.pl],?_,?_,?_,?_,fun fz A us hz1 hz2 hA hu own j0 hown=>?_⟩
 ·intro x hx;rcases List.mem_cons.1 hx with rfl|hx
  ·exact hna
  ·exact H.na x hx
 ·intro x hx;rcases List.mem_cons.1 hx with rfl|hx
  ·exact hF
  ·exact H.fr x hx
 ·intro id hid;rcases List.mem_cons.1 hid with e|hid
  ·exact hq id e.symm
  ·exact H.own id hid
 ·intro i hi;rcases List.mem_append.1 hi with hi|hi
  ·exact hz i hi
  ·exact H.row i hi
 ·cases us with
  |nil=>exact hu.elim
  |cons u us=>
   have h0:=hown 0 (by simp)
   rw [Nat.add_zero] at h0;refine ⟨?_,H.sem fz A us (fun i hi=>hz1 i (by simp [hi])) hz2 hA hu.2 own (j0+1) fun j hj=>?_⟩
   ·rw [h0];exact hv fz A u (fun i hi=>hz1 i (by simp [hi])) hz2 hA hu.1
   ·have:=hown (j+1) (by simp;omega)
    rw [show j0+1+j=j0+(j+1) by omega,this]
    simp [Kg]
theorem Rr (h:Bp N w0 X0 Y β s a w){shr:Bool}:∀{ts:List CT}{ps:List PV}{K:List PV->List Nat->List Nat->Option R},AD shr s.hp ts ps K=some r ->
  ∃cs l z,K cs (l.filterMap id) z=some r∧DX s β Y w cs l z ps
 |[],[],K,hk=>⟨[],[],[],hk,DX.nil⟩
 |[],_::_,K,hk=>by cases hk
 |_::_,[],K,hk=>by cases hk
 |t::ts,p::ps,K,hk=>by
  unfold AD at hk;obtain ⟨c,q,z,hk1,hna,hF,hq,hz,hv⟩:=KN h hk;obtain ⟨cs,l,zs,hk2,H⟩:=Rr h hk1;refine ⟨c::cs,q::l,z++zs,?_,DX.cons hna hF hq hz hv H⟩;cases q<;>exact hk2
theorem BX (h:Bp N w0 X0 Y β s a w):∀{ts:List CT}{ws ps:List PV}{K:List PV->List Nat->List Nat->Option R},EH s.hp ts ws ps K=some r ->
  ∃cs l z,K cs (l.filterMap id) z=some r∧cs.length=ws.length∧DX s β Y w cs l z ps
 |[],[],[],K,hk=>⟨[],[],[],hk,rfl,DX.nil⟩
 |[],_::_,_,K,hk=>by cases hk
 |[],[],_::_,K,hk=>by cases hk
 |_::_,[],_,K,hk=>by cases hk
 |_::_,_::_,[],K,hk=>by cases hk
 |t::ts,x::ws,p::ps,K,hk=>by
  unfold EH at hk;obtain ⟨c,q,z,hk1,hna,hF,hq,hz,hv⟩:=KN h hk;obtain ⟨cs,l,zs,hk2,hl,H⟩:=BX h hk1;refine ⟨c::cs,q::l,z++zs,?_,by simp [hl],DX.cons hna hF hq hz hv H⟩
  cases q<;>exact hk2
theorem VG {own:Bt}{zz j:Nat}{p:PV}{u:Value}(hp:∀x,p ≠ .agg x∧p ≠ .pbox x)(h:Ey w A own j [p] [u]):Ahs w A own zz j p u:=by
 cases p<;>first|exact h.1|exact absurd rfl (hp _).1|exact absurd rfl (hp _).2
theorem YF (h:Bp N w0 X0 Y β s a w){id b o:Nat}{c cs:List PV}{l:List (Option Nat)} {z:List Nat}(h0:s.hp id=some (.st c)) (hβ:β id=some (b,o)) (H:DX s β Y w cs l z c){fz:List Nat}{A:Nat->Prop}(h1:∀i∈z,i∈fz)(h2:L6 s fz)(hA:∀b,A b->Ci (Af s.hp fz) β Y b)
  {own:Bt} {j0:Nat} (hown:∀j,j<l.length->own (j0+j)=Kg β l j):Ahc w A own j0 b o cs:=by
 obtain ⟨b',o',hb1,hb2,hb3⟩:=h.box id _ h0;rw [hβ] at hb1;cases hb1;refine ⟨c.mapIdx (fun j _=>(w.cell? ⟨b,o+j,none⟩).getD undef),H.sem fz A _ h1 h2 hA ?_ own j0 hown,?_,fun k hk=>hb3 k (by have:=H.pl;omega)⟩
 ·refine Bi.of_at (by simp) fun j p v hp hv=>?_
  obtain ⟨u,hu,hcr⟩:=hb2 j p hp;rw [List.getElem?_mapIdx,hp,Option.map_some,hu] at hv;simp at hv;subst hv;exact hcr
 ·intro k v hkv;rw [List.getElem?_mapIdx] at hkv;cases hp:c[k]? with
  |none=>rw [hp] at hkv;cases hkv
  |some p=>
   obtain ⟨u,hu,hcr⟩:=hb2 k p hp;rw [hp,Option.map_some,hu] at hkv;simp at hkv;subst hkv;exact hu
theorem Aas (h:Bp N w0 X0 Y β s a w){shr:Bool}{t:TypeId}{p:PV}{u:Value}(hp:C9 w (Ci s.hp β Y) β p u) {K:PV->List Nat->List Nat->Option R}(hk:Agd P shr s.hp t p K=some r):
  ∃v l z,K v (l.filterMap id) z=some r∧l.length=plc v∧Adw s l∧L6 s z ∧
   ∀(fz:List Nat) A zz,(∀i∈z,i∈fz)->L6 s fz->(∀b,A b->Ci (Af s.hp fz) β Y b)->(∀id c b o,some id∈l->s.hp id=some (.st c)->β id=some (b,o)->zz<=b) ->
    ∀own j0,(∀j,j<l.length->own (j0+j)=Kg β l j)->Ahs w A own zz j0 v u:=by
 unfold Agd at hk;split at hk
 ·rename_i e he;split at hk
  ·rename_i id off;split at hk
   ·rename_i c h0;obtain ⟨hof,hk1⟩:=Am hk;have hof:=Nat.eq_of_beq_eq_true hof;subst hof;obtain ⟨cs,l,z,hk2,H⟩:=Rr h hk1;obtain ⟨b,o,hβ,hu⟩:=hp;refine ⟨.pbox cs,some id::l,z,hk2,by simp only [plc,List.length_cons,H.len];omega,?_,H.row,fun fz A zz h1 h2 hA hz own j0 hown=>?_⟩
    ·intro i hi;rcases List.mem_cons.1 hi with e|hi
     ·cases e;rw [h0];trivial
     ·obtain ⟨c',hc'⟩:=H.own i hi;rw [hc'];trivial
    ·have h3:=hown 0 (by simp)
     rw [Nat.add_zero] at h3;refine ⟨b,o,by rw [h3];exact hβ,hz id c b o (by simp) h0 hβ,by rw [hu,Nat.add_zero],YF h h0 hβ H h1 h2 hA fun j hj=>?_⟩
     have:=hown (j+1) (by simp;omega)
     rw [show j0+1+j=j0+(j+1) by omega,this]
     simp [Kg]
   ·cases hk
  ·cases hk
 ·cases hagg:Ck P t<;>rw [hagg] at hk<;>simp only [cond_true,cond_false] at hk
  ·obtain ⟨cs,l,z,hk1,H⟩:=Rr h hk;obtain ⟨c,cs',hcs,hk2⟩:=A8 hk1;subst hcs;obtain ⟨hnil,hk3⟩:=C7 hk2;subst hnil;have hna:=H.na c (by simp)
   have hc1:plc c=1:=by cases c<;>first|rfl|exact absurd rfl (hna _).1|exact absurd rfl (hna _).2
   have hF:=H.fr p (by simp)
   refine ⟨c,l,z,hk3,by rw [hc1];exact H.len,fun i hi=>?_,H.row,fun fz A zz h1 h2 hA _ own j0 hown=>VG hna (H.sem fz A [u] h1 h2 hA ⟨?_,trivial⟩ own j0 hown)⟩
   ·obtain ⟨c',hc'⟩:=H.own i hi;rw [hc'];trivial
   ·cases p<;>first|exact hp|exact hF.elim
  ·obtain ⟨ps,hps,hk1⟩:=Gz hk;subst hps;obtain ⟨cs,l,z,hk2,H⟩:=Rr h hk1;obtain ⟨vs,hu,hvs⟩:=hp;refine ⟨.agg cs,l,z,hk2,H.len,fun i hi=>?_,H.row,fun fz A zz h1 h2 hA _ own j0 hown=>⟨vs,hu,H.sem fz A vs h1 h2 hA hvs own j0 hown⟩⟩
   obtain ⟨c',hc'⟩:=H.own i hi;rw [hc'];trivial
def OC (P:Program)(tmps:Array Value)(w:World)(rv:ResultVar)(u:Value):Prop:=
  (match rv with
   |.tmp t=>(pure (tmps.getD t undef):Sem Value)
   |.cell a t=>do loadVar t (←asAddr (tmps.getD a undef))).run P w=.ok u w
theorem Acy (h:Bp N w0 X0 Y β s a w)(t:Nat):C9 w (Ci s.hp β Y) β (s.tm t) (a.tmps.getD t undef):=by
 rcases Nat.lt_or_ge t N with h'|h'
 ·exact h.tms t h'
 ·rw [h.tmo t h'];exact Av.top _
theorem Aa4 (h:Bp N w0 X0 Y β s a w){rv:ResultVar}{K:PV->Option R}(hk:Agc P s rv K=some r):∃p u,K p=some r∧OC P a.tmps w rv u∧C9 w (Ci s.hp β Y) β p u:=by
 unfold Agc at hk;split at hk
 ·rename_i t;exact ⟨_,_,hk,rfl,Acy h t⟩
 ·rename_i x t;obtain ⟨v,ad,val,hk1,hax,hl,hv,_⟩:=SV h (Acy h x) hk;refine ⟨v,val,hk1,?_,hv⟩;unfold OC;simp [hax,asAddr,hl]
theorem Vx {l l':List (Option Nat)} {j:Nat}(h:j<l.length):Kg β (l++l') j=Kg β l j:=by
 unfold Kg;rw [List.getElem?_append_left h]
theorem V3 {l l':List (Option Nat)} {j:Nat}:Kg β (l++l') (l.length+j)=Kg β l' j:=by
 unfold Kg;rw [List.getElem?_append_right (by omega),Nat.add_sub_cancel_left]
theorem FN (h:Bp N w0 X0 Y β s a w){shr:Bool}:∀{rs:List ResultVar}{ts:List TypeId}{K:List PV->List Nat->List Nat->Option R},NR P shr s rs ts K=some r ->
  ∃vs l z us,K vs (l.filterMap id) z=some r∧Bi (OC P a.tmps w) rs us∧l.length=Pt vs∧Adw s l∧L6 s z ∧
   ∀(fz:List Nat) A zz,(∀i∈z,i∈fz)->L6 s fz->(∀b,A b->Ci (Af s.hp fz) β Y b)->(∀id c b o,some id∈l->s.hp id=some (.st c)->β id=some (b,o)->zz<=b) ->
    ∀own j0,(∀j,j<l.length->own (j0+j)=Kg β l j)->XT w A own zz j0 vs us
 |[],[],K,hk=>⟨[],[],[],[],hk,trivial,rfl,(by intro id hid;cases hid),(by intro id hid;cases hid),fun _ _ _ _ _ _ _ _ _ _=>trivial⟩
 |[],_::_,K,hk=>by cases hk
 |_::_,[],K,hk=>by cases hk
 |rv::rs,t::ts,K,hk=>by
  unfold NR at hk;obtain ⟨p,u,hk1,hu,hp⟩:=Aa4 h hk;obtain ⟨v,l,z,hk2,hl,hL,hz,hv⟩:=Aas h hp hk1;obtain ⟨vs,l',z',us,hk3,hus,hl',hL',hz',hvs⟩:=FN h hk2;refine ⟨v::vs,l++l',z++z',u::us,?_,⟨hu,hus⟩,by simp only [List.length_append,Pt,List.map_cons,List.sum_cons,hl];rw [hl'];rfl,?_,?_,fun fz A zz h1 h2 hA hst own j0 hown=>⟨?_,?_⟩⟩
  ·rw [List.filterMap_append];exact hk3
  ·intro id hid;rcases List.mem_append.1 hid with hid|hid
   ·exact hL id hid
   ·exact hL' id hid
  ·intro id hid;rcases List.mem_append.1 hid with hid|hid
   ·exact hz id hid
   ·exact hz' id hid
  ·exact hv fz A zz (fun i hi=>h1 i (by simp [hi])) h2 hA (fun id c b o hi=>hst id c b o (by simp [hi])) own j0 fun j hj=>by rw [hown j (by simp;omega),Vx hj]
  ·refine hvs fz A zz (fun i hi=>h1 i (by simp [hi])) h2 hA (fun id c b o hi=>hst id c b o (by simp [hi])) own (j0+plc v) fun j hj=>?_
   rw [←hl,Nat.add_assoc,hown (l.length+j) (by simp;omega),V3]
theorem Q9 (h:Bp N w0 X0 Y β s a w){bt:EG}(hpt:∀i,X0.pt i=bt i 0):∀{ts:List TypeId}{i:Nat}{ps:List PV}{K:List (List PV)->List Nat->List Nat->List Nat->Option R},Zv P N s.hp i ts ps K=some r ->
  (∀k p,ps[k]?=some p->Zh p=true->X0.pn (i+k)) ->
  ∃os l z q,K os (l.filterMap id) z q=some r∧(∀id,some id∈l->∃c,s.hp id=some (.ar false c))∧L6 s z∧(∀id∈q,B4 (s.hp id))∧(∀k p,ps[k]?=some p->Zh p=true->Cm N (i+k)∈q) ∧
   ∀(fz:List Nat) A,(∀i∈z,i∈fz)->L6 s fz->(∀i∈q,i ∉ fz)->(∀b,A b->Ci (Af s.hp fz) β Y b) ->
    ∀own j0,(∀j,j<l.length->own (j0+j)=Kg β l j)->Xj w A own bt j0 i ps os
 |[],i,ps,K,hk,_=>by
  obtain ⟨hps,hk⟩:=C7 hk;subst hps;exact ⟨[],[],[],[],hk,by simp,(by intro id hid;cases hid),by simp,by simp,fun _ _ _ _ _ _ _ _ _=>rfl⟩
 |t::ts,i,ps,K,hk,hpn=>by
  unfold Zv at hk;obtain ⟨p,ps',hps,hk1⟩:=A8 hk;subst hps
  have hpn':∀k p,ps'[k]?=some p->Zh p=true->X0.pn (i+1+k):=fun k p' h1 h2=>by
   have:=hpn (k+1) p' (by simpa using h1) h2
   rw [show i+1+k=i+(k+1) by omega]
   exact this
  have hpq:∀{q:List Nat},(Zh p=true->Cm N i∈q)->(∀k p,ps'[k]?=some p->Zh p=true->Cm N (i+1+k)∈q)->∀k p',(p::ps')[k]?=some p'->Zh p'=true->Cm N (i+k)∈q:=by
   intro q h1 h2 k p' h3 h4;cases k with
   |zero=>
    simp only [List.getElem?_cons_zero,Option.some.injEq] at h3;subst h3;exact h1 h4
   |succ k=>
    have:=h2 k p' (by simpa using h3) h4
    rw [show i+1+k=i+(k+1) by omega] at this
    exact this
  split at hk1
  ·rename_i ws;obtain ⟨e,he,hk2⟩:=Cs hk1;split at hk2
   ·rename_i c h0;obtain ⟨cs,l,z,hk3,hcl,H⟩:=BX h hk2;obtain ⟨os,l',z',q,hk4,hL',hz',hq',hpi,hv⟩:=Q9 h hpt hk3 hpn';refine ⟨cs::os,l++l',z++z',Cm N i::q,by rw [List.filterMap_append];exact hk4,?_,?_,?_,hpq (fun _=>List.mem_cons_self) (fun k p h1 h2=>List.mem_cons_of_mem _ (hpi k p h1 h2)),fun fz A h1 h2 h3 hA own j0 hown=>?_⟩
    ·intro id hid;rcases List.mem_append.1 hid with hid|hid
     ·exact H.own id hid
     ·exact hL' id hid
    ·intro id hid;rcases List.mem_append.1 hid with hid|hid
     ·exact H.row id hid
     ·exact hz' id hid
    ·intro id hid;rcases List.mem_cons.1 hid with rfl|hid
     ·rw [h0];trivial
     ·exact hq' id hid
    ·have hpin:=(h.pin i (by have:=hpn 0 _ rfl rfl;rwa [Nat.add_zero] at this)).2
     obtain ⟨b,o,hb1,_,_⟩:=h.box _ _ h0;rw [hb1,hpt] at hpin;refine ⟨⟨b,o,hpin.symm,hcl,YF h h0 hb1 H (fun i hi=>h1 i (by simp [hi])) h2 hA fun j hj=>by rw [hown j (by simp;omega),Vx hj]⟩,?_⟩
     refine hv fz A (fun i hi=>h1 i (by simp [hi])) h2 (fun i hi=>h3 i (by simp [hi])) hA own (j0+cs.length) fun j hj=>?_
     rw [←H.len,Nat.add_assoc,hown (l.length+j) (by simp;omega),V3]
   ·cases hk2
  ·split at hk1
   ·rename_i c h0;obtain ⟨os,l',z',q,hk4,hL',hz',hq',hpi,hv⟩:=Q9 h hpt hk1 hpn';refine ⟨c::os,l',z',Cm N i::q,hk4,hL',hz',?_,hpq (fun _=>List.mem_cons_self) (fun k p h1 h2=>List.mem_cons_of_mem _ (hpi k p h1 h2)),fun fz A h1 h2 h3 hA own j0 hown=>⟨?_,hv fz A h1 h2 (fun i hi=>h3 i (by simp [hi])) hA own j0 hown⟩⟩
    ·intro id hid;rcases List.mem_cons.1 hid with rfl|hid
     ·rw [h0];trivial
     ·exact hq' id hid
    ·have hpin:=(h.pin i (by have:=hpn 0 _ rfl rfl;rwa [Nat.add_zero] at this)).2
     rw [hpt] at hpin;rcases h.box _ _ h0 with ⟨h4,h5⟩|⟨b,o,h4,h5,h6,_⟩
     ·exact .inl ⟨by rw [←hpin];exact h4,h5⟩
     ·exact .inr ⟨b,o,by rw [←hpin];exact h4,h5.weak (fun b _ hb=>Nk (hA b hb)),h6 rfl⟩
   ·cases hk1
  ·rename_i hn1 hn2;have hnL:Zh p=false:=by cases p<;>first|rfl|exact absurd rfl (hn1 _)|exact absurd rfl (hn2 _)
   obtain ⟨os,l',z',q,hk4,hL',hz',hq',hpi,hv⟩:=Q9 h hpt hk1 hpn';refine ⟨os,l',z',q,hk4,hL',hz',hq',hpq (fun e=>by rw [hnL] at e;cases e) hpi,fun fz A h1 h2 h3 hA own j0 hown=>?_⟩
   have:=hv fz A h1 h2 h3 hA own j0 hown;cases p<;>first|exact this|cases hnL
theorem TU {f:ResultVar->Sem Value}:∀{rs:List ResultVar}{us:List Value},Bi (fun rv u=>(f rv).run P w=.ok u w) rs us->(rs.mapM f).run P w=.ok us w
 |[],[],_=>by simp
 |[],_::_,h=>h.elim
 |_::_,[],h=>h.elim
 |rv::rs,u::us,h=>by
  rw [List.mapM_cons];simp [h.1,TU h.2]
theorem QZ {fn:Func}{us:List Value}(h:Bi (OC P a.tmps w) fn.results.toList us):(results fn a.tmps).run P w=.ok (J1 us) w:=by
 unfold results;rw [Array.mapM_eq_mapM_toList];simp only [map_eq_pure_bind,bind_assoc,pure_bind,Sem.run_bind];refine Eq.trans (congrArg (fun x=>Result.andThen x _) (TU h)) ?_
 simp only [Result.andThen_ok,Sem.run_pure]
 congr 1
 clear h
 match us with
 |[]=>rfl
 |[u]=>rfl
 |u::v::us=>exact dif_neg (by simp)
theorem SW:∀{l:List (Option Nat)},Dq (l.filterMap id)=true->∀{j j' i:Nat},l[j]?=some (some i)->l[j']?=some (some i)->j=j'
 |[],_,j,j',i,h,_=>by simp at h
 |q::l,hn,j,j',i,h,h'=>by
  have hn':Dq (l.filterMap id)=true:=by
   cases q with
   |none=>exact hn
   |some x=>
    simp only [List.filterMap_cons,id_eq,Dq,Bool.and_eq_true] at hn;exact hn.2
  have hq:∀(x k:Nat),q=some x->l[k]?≠some (some x):=by
   intro x k e hk;subst e;simp only [List.filterMap_cons,id_eq,Dq,Bool.and_eq_true,Bool.not_eq_true'] at hn;exact Q0 hn.1 (List.mem_filterMap.2 ⟨some x,List.mem_of_getElem? hk,rfl⟩)
  cases j with
  |zero=>
   cases j' with
   |zero=>rfl
   |succ k'=>
    simp at h h';exact absurd h' (hq i k' h)
  |succ k=>
   cases j' with
   |zero=>
    simp at h h';exact absurd h (hq i k h')
   |succ k'=>
    simp at h h';rw [SW hn' h h']
theorem AQ {C:Gi}{f:FuncId}{fn:Func}{args:List PV}{res:Aw}{w:World}{Y:Nat->Prop}{bt:EG}{us:List Value}(hin:Ins w Y bt args us){h8:∀k p,args[k]?=some p->Zh p=true->k<8}
  {s':St} {a':Act} {w':World} {β':Bt} (hr:US C P f fn args s'=some res) (h:Bp fn.ntmps w (FW bt args h8) Y β' s' a' w'):
  a'.defers=[]∧∃v,(results fn a'.tmps).run P w'=.ok v w'∧∃vs own,Ending.returned v=.returned (J1 vs)∧Out w w' Y bt args own res vs:=by
 unfold US at hr;obtain ⟨vs,l,z,us',hr1,hus,hll,hL,hz,hv⟩:=FN h hr;obtain ⟨os,l',z',q,hr2,hL',hz',hq,hpi,hv'⟩:=Q9 h (bt:=bt) (fun _=>rfl) hr1 (fun k p h1 h2=>by rw [Nat.zero_add];exact ⟨p,h1,h2⟩)
 obtain ⟨hnd,hr3⟩:=Am hr2;cases hr3;simp only [Bool.and_eq_true] at hnd;obtain ⟨hnd,hdis⟩:=hnd;obtain ⟨hn1,hn2,hn3⟩:=H2 hnd
 have hfz:∀i∈z++z',i ∉ (l.filterMap id++l'.filterMap id)++q:=by
  intro i hi hm';have:=List.all_eq_true.1 hdis i hi;have h2:((l.filterMap id++l'.filterMap id)++q).any (Nat.beq i)=true:=List.any_eq_true.2 ⟨i,hm',Nat.beq_refl i⟩;rw [h2] at this;cases this
 have hrow:L6 s' (z++z'):=by
  intro i hi;rcases List.mem_append.1 hi with hi|hi
  ·exact hz i hi
  ·exact hz' i hi
 refine ⟨h.dfr,J1 us',QZ hus,us',Kg β' (l++l'),rfl,?_⟩;have hnd':Dq ((l++l').filterMap id)=true:=by rw [List.filterMap_append];exact hn1
 have hown:∀j b o,Kg β' (l++l') j=some (b,o)->∃id,(l++l')[j]?=some (some id)∧β' id=some (b,o):=by
  intro j b o hj;unfold Kg at hj;cases hlj:(l++l')[j]? with
  |none=>rw [hlj] at hj;cases hj
  |some q=>
   cases q with
   |none=>rw [hlj] at hj;cases hj
   |some id=>
    rw [hlj] at hj;exact ⟨id,rfl,hj⟩
 have hmem:∀(j i:Nat),(l++l')[j]?=some (some i)->i∈l.filterMap id++l'.filterMap id:=by
  intro j i hj;rw [←List.filterMap_append];exact List.mem_filterMap.2 ⟨some i,List.mem_of_getElem? hj,rfl⟩
 have hlive:∀(j i:Nat),(l++l')[j]?=some (some i)->B4 (s'.hp i):=by
  intro j i hj;rcases List.mem_append.1 (List.mem_of_getElem? hj) with hm'|hm'
  ·exact hL i hm'
  ·obtain ⟨c,hc⟩:=hL' i hm';rw [hc];trivial
 have hunfz:∀i,i∈(l.filterMap id++l'.filterMap id)++q->Af s'.hp (z++z') i=s'.hp i:=by
  intro i hi;rw [Bu,if_neg (fun hm'=>hfz i hm' hi)]
 have hpinL:∀i b o,bt i 0=some (b,o)->Cm fn.ntmps i∈q∧B4 (s'.hp (Cm fn.ntmps i))∧β' (Cm fn.ntmps i)=some (b,o):=by
  intro i b o hb0;obtain ⟨p,h1,h2⟩:=hin.l0 i _ hb0;have h3:=hpi i p h1 h2;rw [Nat.zero_add] at h3;exact ⟨h3,hq _ h3,(h.pin i ⟨p,h1,h2⟩).2.trans hb0⟩
 have hAO:∀b,PO bt (Kg β' (l++l')) Y b->Ci (Af s'.hp (z++z')) β' Y b:=by
  rintro b (⟨j,o,hj⟩|⟨i,o,hb0⟩|hY)
  ·obtain ⟨id,h1,h2⟩:=hown j b o hj;refine .inl ⟨id,o,?_,h2⟩;rw [hunfz id (List.mem_append.2 (.inl (hmem j id h1)))];exact hlive j id h1
  ·obtain ⟨h1,h2,h3⟩:=hpinL i b o hb0;refine .inl ⟨_,o,?_,h3⟩;rw [hunfz _ (List.mem_append.2 (.inr h1))];exact h2
  ·exact .inr hY
 have hnew:∀(j id b o:Nat),(l++l')[j]?=some (some id)->β' id=some (b,o)->b<w.heap.size->∃i k o',bt i (k+1)=some (b,o'):=by
  intro j id b o hj hβ hlt;rcases h.ownd b ⟨id,o,hlive j id hj,hβ⟩ with ⟨i,k,o',hb0⟩|hge
  ·cases k with
   |zero=>
    obtain ⟨h1,h2,h3⟩:=hpinL i b o' hb0;have:=h.inj id _ b o o' (hlive j id hj) h2 hβ h3;subst this;exact absurd h1 (hn3 _ (hmem j _ hj))
   |succ k=>exact ⟨i,k,o',hb0⟩
  ·omega
 refine ⟨h.fr.os,h.fr.tape,h.fr.output,h.fr.step,h.fr.rng,?_,?_,?_,?_⟩
 ·refine hv (z++z') _ _ (fun i hi=>List.mem_append.2 (.inl hi)) hrow hAO (fun id c b o hi hc hβ=>?_) _ 0 (fun j hj=>by rw [Nat.zero_add,Vx hj])
  rcases Nat.lt_or_ge b w.heap.size with hlt|hge
  ·obtain ⟨k,hk',p,h1,h2⟩:=h.stp id c b o hc hβ hlt;have h3:=hpi k p h1 h2;rw [Nat.zero_add,←hk'] at h3;obtain ⟨j,hj⟩:=List.mem_iff_getElem?.1 hi;refine absurd h3 (hn3 id ?_);exact List.mem_append.2 (.inl (List.mem_filterMap.2 ⟨some id,hi,rfl⟩))
  ·exact hge
 ·refine hv' (z++z') _ (fun i hi=>List.mem_append.2 (.inr hi)) hrow (fun i hi hm'=>hfz i hm' (List.mem_append.2 (.inr hi))) hAO _ _ (fun j hj=>?_)
  rw [←hll,V3]
 ·intro j b o hj;obtain ⟨id,h1,h2⟩:=hown j b o hj;refine ⟨h.blt id b o (Cj (hlive j id h1)) h2,fun hlt=>⟨hnew j id b o h1 h2 hlt,fun x hx=>?_⟩⟩
  cases hbx:s'.hp id with
  |none=>have:=hlive j id h1;rw [hbx] at this;exact this.elim
  |some bx=>
   have hl1:=hlive j id h1;rw [hbx] at hl1;cases bx with
   |st c=>
    obtain ⟨k,hk',p,h3,h4⟩:=h.stp id c b o hbx h2 hlt;have h5:=hpi k p h3 h4;rw [Nat.zero_add,←hk'] at h5;exact absurd h5 (hn3 _ (hmem j _ h1))
   |ar fz c=>exact h.rngB id _ b o hbx hl1 h2 hlt x hx
   |mv=>exact hl1.elim
 ·intro j j' b o o' hj hj';obtain ⟨id,h1,h2⟩:=hown j b o hj;obtain ⟨id',h1',h2'⟩:=hown j' b o' hj';have:=h.inj id id' b o o' (hlive j id h1) (hlive j' id' h1') h2 h2';subst this;exact SW hnd' h1 h1'
theorem FI {G:Se}(hNG:NoNG P)(hm:P.follows .mixedOrders=true){C:Gi}{fu:Nat}{call:Ah}(hcall:∀f args res,call f args=some res->Cr G P f args res){f:FuncId}{fn:Func}{c:Code}(hf:P.funcs[f]?=some fn) (hb:fn.body=some c)
  {args:List PV} {res:Aw} (hk:Agp C P fu call f fn c args=some res):Cr G P f args res:=by
 refine ⟨⟨fn,hf,by rw [hb];rfl⟩,fun w Y bt us hin hG hGY=>?_⟩
 unfold Agp at hk;obtain ⟨tms,bs,hk1,hst⟩:=MV hin hk;obtain ⟨hb1,hk2⟩:=Am hk1;simp only [Bool.and_eq_true] at hb1
 have hlen:us.length<=fn.ntmps:=by
  rw [←hin.args.len];exact Nat.le_of_ble_eq_true hb1.1
 obtain ⟨h8,β0,hs⟩:=hst hb1.2 hlen;refine calls_of_wp hf hb ?_;have hE:EC P G w (FW bt args h8):=⟨hNG,fun w' hfr=>G.stable w w' (fun b hb hlt=>hfr.step.keep b hlt (hGY b hb).2) hG,hGY⟩
 refine GF hE hcall hm c hs hk2 (fun s' a' w' β' hr h=>AQ hin hr h) (fun id s' a' w' β' hr h=>by cases hr) (fun s' a' w' β' hr h=>AQ hin hr h)
def YG (G:Se)(P:Program)(C:Gi):Prop:=∀f g args res,C.ext f=some g->g args=some res->Cr G P f args res
theorem Ta {G:Se}(hNG:NoNG P)(hm:P.follows .mixedOrders=true){C:Gi}(hx:YG G P C){fu:Nat}:∀(d:Nat)(f:FuncId)(args:List PV)(res:Aw),Ae C P fu d f args=some res->Cr G P f args res
 |0,_,_,_,h=>by cases h
 |d+1,f,args,res,h=>by
  unfold Ae at h;split at h
  ·rename_i g hg;exact hx f g args res hg h
  ·split at h
   ·cases h
   ·rename_i fn hf;split at h
    ·cases h
    ·rename_i c hb;exact FI hNG hm (Ta hNG hm hx d) hf hb h
end
open Go.ChangeShapes Go.WideShapes Go.ChangeAt Go.RowKit Go.Deep
def OW (P:Program):List Field->Nat->Nat->Bool
 |[],i,n=>Nat.beq i n
 |f::r,i,n=>Nat.beq f.offset i&&OW P r (i+P.cellsOf f.type) n
def Mf (P:Program):Nat->TypeId->Bool
 |0,_=>false
 |d+1,t=>
  match P.underlying t with
  |some .bool=>true
  |some (.int _)=>true
  |some .string=>true
  |some (.slice e)=>Mf P d e&&Nat.blt 0 (P.cellsOf e)
  |some (.struct fs)=>OW P fs.toList 0 (P.cellsOf t)&&fs.toList.all fun f=>Mf P d f.type
  |some (.array n e)=>Nat.beq (P.cellsOf t) (n*P.cellsOf e)&&Mf P d e
  |_=>false
def WT (P:Program):Nat->TypeId->List PV->Prop
 |0,_,_=>False
 |d+1,t,ps=>
  match P.underlying t with
  |some .bool=>∃b,ps=[.sc (.bool b)]
  |some (.int k)=>∃n,ps=[.sc (.int k n)]∧(Lit.int k n).wf=true
  |some .string=>∃s:ByteArray,ps=[.sc (.string s)]∧s.size<=maxLen
  |some (.slice e)=>∃rows:List (List PV),ps=[.lst false (P.cellsOf e) rows.length rows.flatten]∧rows.length<=maxLen∧∀r∈rows,r.length=P.cellsOf e∧WT P d e r
  |some (.struct fs)=>∃rows:List (List PV),ps=rows.flatten∧Bi (fun f r=>WT P d f.type r) fs.toList rows
  |some (.array n e)=>∃rows:List (List PV),ps=rows.flatten∧rows.length=n∧∀r∈rows,r.length=P.cellsOf e∧WT P d e r
  |_=>False
def WTv (P:Program)(t:TypeId)(p:PV):Prop:=
 match Ck P t with
 |true=>∃ps,p=.agg ps∧WT P 12 t ps
 |false=>WT P 12 t [p]
section
variable {P:Program} {d:Nat} {t e:TypeId} {ps:List PV}
theorem Aha (hu:P.underlying t=some .bool):WT P (d+1) t ps↔∃b,ps=[.sc (.bool b)]:=by
 show (match P.underlying t with|some .bool=>_|some (.int k)=>_|some .string=>_|some (.slice e)=>_|some (.struct fs)=>_|some (.array n e)=>_|_=>_)↔_
 rw [hu]
theorem Afp {k:IntKind}(hu:P.underlying t=some (.int k)):WT P (d+1) t ps↔∃n,ps=[.sc (.int k n)]∧(Lit.int k n).wf=true:=by
 show (match P.underlying t with|some .bool=>_|some (.int k)=>_|some .string=>_|some (.slice e)=>_|some (.struct fs)=>_|some (.array n e)=>_|_=>_)↔_
 rw [hu]
theorem Aa1 (hu:P.underlying t=some .string):WT P (d+1) t ps↔∃s:ByteArray,ps=[.sc (.string s)]∧s.size<=maxLen:=by
 show (match P.underlying t with|some .bool=>_|some (.int k)=>_|some .string=>_|some (.slice e)=>_|some (.struct fs)=>_|some (.array n e)=>_|_=>_)↔_
 rw [hu]
theorem QF (hu:P.underlying t=some (.slice e)):WT P (d+1) t ps↔∃rows:List (List PV),ps=[.lst false (P.cellsOf e) rows.length rows.flatten]∧rows.length<=maxLen∧∀r∈rows,r.length=P.cellsOf e∧WT P d e r:=by
 show (match P.underlying t with|some .bool=>_|some (.int k)=>_|some .string=>_|some (.slice e)=>_|some (.struct fs)=>_|some (.array n e)=>_|_=>_)↔_
 rw [hu]
theorem Ab4 {fs:Array Field}(hu:P.underlying t=some (.struct fs)):WT P (d+1) t ps↔∃rows:List (List PV),ps=rows.flatten∧Bi (fun f r=>WT P d f.type r) fs.toList rows:=by
 show (match P.underlying t with|some .bool=>_|some (.int k)=>_|some .string=>_|some (.slice e)=>_|some (.struct fs)=>_|some (.array n e)=>_|_=>_)↔_
 rw [hu]
theorem Adl {n:Nat}(hu:P.underlying t=some (.array n e)):WT P (d+1) t ps↔∃rows:List (List PV),ps=rows.flatten∧rows.length=n∧∀r∈rows,r.length=P.cellsOf e∧WT P d e r:=by
 show (match P.underlying t with|some .bool=>_|some (.int k)=>_|some .string=>_|some (.slice e)=>_|some (.struct fs)=>_|some (.array n e)=>_|_=>_)↔_
 rw [hu]
end
inductive Ki where
 |bool
 |int (k:IntKind)
 |str
 |sl (e:TypeId)
 |st (ts:List TypeId)
 |ar (n:Nat) (e:TypeId)
 |no
def S0 (P:Program)(t:TypeId):Ki:=
 match P.underlying t with
 |some .bool=>.bool
 |some (.int k)=>.int k
 |some .string=>.str
 |some (.slice e)=>.sl e
 |some (.struct fs)=>.st (fs.toList.map (·.type))
 |some (.array n e)=>.ar n e
 |_=>.no
section
variable {P:Program} {d:Nat} {t e:TypeId} {ps:List PV} {p:PV}
theorem Bi.cons_inv {α β:Type}{R:α->β->Prop}{a:α}{zs:List α}:∀{rs:List β},Bi R (a::zs) rs->∃r rs',rs=r::rs'∧R a r∧Bi R zs rs'
 |[],h=>h.elim
 |r::rs,h=>⟨r,rs,rfl,h.1,h.2⟩
theorem Bi.nil_inv {α β:Type}{R:α->β->Prop}:∀{rs:List β},Bi R ([]:List α) rs->rs=[]
 |[],_=>rfl
 |_::_,h=>h.elim
theorem Akn {k:IntKind}(hk:S0 P t=.int k)(h:WT P d t ps):∃n,ps=[.sc (.int k n)]∧(Lit.int k n).wf=true:=by
 cases d with
 |zero=>exact h.elim
 |succ d=>
 unfold S0 at hk;split at hk<;>first|cases hk|skip
 rename_i hu;exact (Afp hu).1 h
theorem Al7 (hk:S0 P t=.sl e)(h:WT P d t ps):∃rows:List (List PV),ps=[.lst false (P.cellsOf e) rows.length rows.flatten]∧rows.length<=maxLen∧∀r∈rows,r.length=P.cellsOf e∧WT P (d-1) e r:=by
 cases d with
 |zero=>exact h.elim
 |succ d=>
 rw [Nat.add_sub_cancel];unfold S0 at hk;split at hk<;>first|cases hk|skip
 rename_i hu;exact (QF hu).1 h
theorem Ah4 (hk:Ck P t=false)(h:WTv P t p):WT P 12 t [p]:=by
 unfold WTv at h;rw [hk] at h;exact h
theorem DB {α:Type}(f:α->List PV)(Q:α->Prop):∀{rows:List (List PV)},(∀r∈rows,∃x,r=f x∧Q x)->∃xs:List α,rows.flatten=xs.flatMap f∧rows.length=xs.length∧∀x∈xs,Q x
 |[],_=>⟨[],rfl,rfl,by simp⟩
 |r::rows,h=>by
  obtain ⟨x,h1,h2⟩:=h r (by simp)
  obtain ⟨xs,h3,h4,h5⟩:=DB (rows:=rows) f Q fun r hr=>h r (by simp [hr])
  refine ⟨x::xs,by simp [h1,h3],by simp [h4],fun y hy=>?_⟩
  rcases List.mem_cons.1 hy with rfl|hy
  ·exact h2
  ·exact h5 y hy
end
abbrev No:Nat->Prop:=fun _=>False
section
variable {H:Type} {enc:TypeId × Value->H} {P:Program} {w:World} {base:Nat} {held:Bool}
theorem Bi.flat {α β:Type}{R:α->β->Prop}:∀{l:List Nat}{f:Nat->List α}{g:Nat->List β},(∀i∈l,Bi R (f i) (g i))->Bi R (l.map f).flatten (l.map g).flatten
 |[],_,_,_=>trivial
 |i::l,f,g,h=>by
  simp only [List.map_cons,List.flatten_cons];exact (h i (by simp)).app (Bi.flat fun j hj=>h j (by simp [hj]))
theorem Abw {a:Addr}{v:Value}(h:w.cell? a=some v):a.spot=none∧a.block<w.heap.size:=by
 unfold World.cell? at h;split at h
 ·rename_i c t f e;refine ⟨?_,?_⟩
  ·cases hs:a.spot with
   |none=>rfl
   |some x=>rw [hs] at h;simp at h
  ·rcases Nat.lt_or_ge a.block w.heap.size with h1|h1
   ·exact h1
   ·rw [Array.getElem?_eq_none h1] at e;cases e
 ·cases h
theorem HQ {α:Type}{g:Nat->List α}{es:Nat}:∀{n:Nat},(∀i,i<n->(g i).length=es)->((List.range n).map g).flatten.length=n*es
 |0,_=>by simp
 |n+1,h=>by
  rw [List.range_succ,List.map_append,List.flatten_append,List.length_append,HQ (fun i hi=>h i (by omega))]
  simp [h n (by omega),Nat.succ_mul]
theorem GZ {a:Addr}{g:Nat->List Value}{es:Nat}:∀{n:Nat},(∀i,i<n->(g i).length=es)->(∀i,i<n->∀k,k<es->w.cell? (a.add (i*es+k))=(g i)[k]?) ->
  ∀j,j<n*es->w.cell? (a.add j)=(((List.range n).map g).flatten)[j]?
 |0,_,_,j,hj=>by omega
 |n+1,hl,hc,j,hj=>by
  have hfl:=HQ (fun i (hi:i<n)=>hl i (by omega))
  rw [List.range_succ,List.map_append,List.flatten_append,List.getElem?_append,hfl];rw [Nat.succ_mul] at hj;split
  ·rename_i h1;exact GZ (fun i hi=>hl i (by omega)) (fun i hi=>hc i (by omega)) j h1
  ·rename_i h1;have:=hc n (by omega) (j-n*es) (by omega)
   rw [show n*es+(j-n*es)=j by omega] at this
   simpa using this
abbrev TR (w:World)(c:PV)(v:Value):Prop:=(Va c∧Av w No c v)∧v.oneCell'=true
theorem BP {d:Nat}{cs:List Value}{n:Nat}(hn:cs.length=n):∀(l:List Field)(i:Nat),OW P l i n=true ->
  (∀f∈l,∃ps,WT P d f.type ps∧Bi (TR w) ps ((cs.drop f.offset).take (P.cellsOf f.type)))->∃rows:List (List PV),Bi (fun f r=>WT P d f.type r) l rows∧Bi (TR w) rows.flatten (cs.drop i)
 |[],i,ho,_=>by
  have:=Nat.eq_of_beq_eq_true ho;refine ⟨[],trivial,?_⟩;rw [List.drop_of_length_le (by omega)]
  trivial
 |f::l,i,ho,h=>by
  simp only [OW,Bool.and_eq_true] at ho;have ho1:=Nat.eq_of_beq_eq_true ho.1;obtain ⟨ps,h1,h2⟩:=h f (by simp)
  obtain ⟨rows,h3,h4⟩:=BP hn l _ ho.2 fun g hg=>h g (by simp [hg])
  refine ⟨ps::rows,⟨h1,h3⟩,?_⟩;rw [ho1] at h2;have:cs.drop i=(cs.drop i).take (P.cellsOf f.type)++cs.drop (i+P.cellsOf f.type):=by rw [←List.drop_drop];exact (List.take_append_drop _ _).symm
  rw [this,List.flatten_cons];exact h2.app h4
theorem HW {d:Nat}{e:TypeId}{cs:List Value}{k:Nat}:∀(n:Nat),n*k<=cs.length ->
  (∀i,i<n->∃ps,(ps.length=k∧WT P d e ps)∧Bi (TR w) ps ((cs.drop (i*k)).take k))->∃rows:List (List PV),rows.length=n∧(∀r∈rows,r.length=k∧WT P d e r)∧Bi (TR w) rows.flatten (cs.take (n*k))
 |0,_,_=>⟨[],rfl,by simp,by simp [Bi]⟩
 |n+1,hl,h=>by
  rw [Nat.succ_mul] at hl;obtain ⟨rows,h1,h2,h3⟩:=HW n (by omega) fun i hi=>h i (by omega)
  obtain ⟨ps,h4,h5⟩:=h n (by omega)
  refine ⟨rows++[ps],by simp [h1],?_,?_⟩
  ·intro r hr;rcases List.mem_append.1 hr with hr|hr
   ·exact h2 r hr
   ·rw [List.mem_singleton.1 hr];exact h4
  ·rw [List.flatten_append,Nat.succ_mul,List.take_add];refine h3.app ?_
   simpa using h5
theorem Ui:∀(d:Nat)(t:TypeId),Mf P d t=true->∀(fuel:Nat)(cs:List Value)(x:DataW H × List MemPlace),DataW.trod enc P w base (fun _=>true) held fuel t cs=some x ->
  ∃ps,WT P d t ps∧Bi (TR w) ps cs
 |0,_,h,_,_,_,_=>by cases h
 |d+1,t,hp,fuel,cs,x,h=>by
  unfold Mf at hp;split at hp
  ·rename_i hu;obtain ⟨b,rfl,_⟩:=DataW.trod_bool hu h;simp only [Aha hu];exact ⟨[.sc (.bool b)],⟨b,rfl⟩,⟨⟨trivial,Av.sc _⟩,rfl⟩,trivial⟩
  ·rename_i k hu;obtain ⟨n,rfl,_,hw⟩:=DataW.trod_int hu h;simp only [Afp hu];exact ⟨[.sc (.int k n)],⟨n,rfl,hw⟩,⟨⟨trivial,Av.sc _⟩,rfl⟩,trivial⟩
  ·rename_i hu;obtain ⟨s,rfl,_,hw⟩:=DataW.trod_string hu h;simp only [Aa1 hu];exact ⟨[.sc (.string s)],⟨s,rfl,hw⟩,⟨⟨trivial,Av.sc _⟩,rfl⟩,trivial⟩
  ·rename_i e hu;simp only [Bool.and_eq_true] at hp;have hes:0<P.cellsOf e:=Nat.lt_of_succ_le (Nat.le_of_ble_eq_true hp.2);simp only [QF hu];rcases open_slice hu h with ⟨rfl,_⟩|⟨a,len,cap,m,n,D,Pl,rfl,_,hl,hm,hmm,_,hi⟩
   ·exact ⟨[.lst false (P.cellsOf e) 0 []],⟨[],by simp,by simp,by simp⟩,⟨⟨trivial,Av.lnil _ _⟩,rfl⟩,trivial⟩
   ·simp only [if_true] at hmm;subst hmm
    have hi':∀i,i<len->∃q:List PV × List Value,(q.2.length=P.cellsOf e∧(∀k,k<P.cellsOf e->w.cell? (a.add (i*P.cellsOf e+k))=q.2[k]?))∧WT P d e q.1∧Bi (TR w) q.1 q.2:=by
     intro i hlt;obtain ⟨cs',hc,ht⟩:=hi i (by omega)
     obtain ⟨_,hcl,hat⟩:=World.cells?_some hc;obtain ⟨ps,h1,h2⟩:=Ui d e hp.1 _ _ _ ht;exact ⟨(ps,cs'),⟨hcl,fun k hk=>by rw [←Pv.add_add];exact hat k hk⟩,h1,h2⟩
    obtain ⟨F,hF⟩:=choose_lt hi';refine ⟨[.lst false (P.cellsOf e) len ((List.range len).map fun i=>(F i).1).flatten],⟨(List.range len).map fun i=>(F i).1,by simp,by simp;omega,?_⟩,⟨⟨trivial,?_⟩,rfl⟩,trivial⟩
    ·intro r hr;obtain ⟨i,hi1,rfl⟩:=List.mem_map.1 hr;have hi2:=List.mem_range.1 hi1;exact ⟨by rw [(hF i hi2).2.2.len];exact (hF i hi2).1.1,(hF i hi2).2.1⟩
    ·rcases Nat.eq_zero_or_pos len with h0|h0
     ·subst h0;exact Av.lemp _ _ _
     ·have hall:Bi (TR w) ((List.range len).map fun i=>(F i).1).flatten ((List.range len).map fun i=>(F i).2).flatten:=Bi.flat fun i hi=>(hF i (List.mem_range.1 hi)).2.2
      have hcell:=GZ (w:=w) (a:=a) (g:=fun i=>(F i).2) (fun i hi=>(hF i hi).1.1) (fun i hi=>(hF i hi).1.2)
      have hlen:=HQ (g:=fun i=>(F i).2) (fun i (hi:i<len)=>(hF i hi).1.1)
      have h00:w.cell? a≠none:=by
       have:=hcell 0 (Nat.mul_pos h0 hes);rw [show a.add 0=a by unfold Addr.add;simp] at this
       rw [this,List.getElem?_eq_getElem (by rw [hlen];exact Nat.mul_pos h0 hes)]
       simp
      obtain ⟨v0,hv0⟩:=Option.ne_none_iff_exists'.1 h00;obtain ⟨hs,hb⟩:=Abw hv0
      have key:∀j c,(((List.range len).map fun i=>(F i).1).flatten)[j]?=some c->∃v,w.cell? (a.add j)=some v∧TR w c v:=by
       intro j c hj
       have hlj:j<len*P.cellsOf e:=by
        rw [←hlen,←hall.len];rcases Nat.lt_or_ge j (((List.range len).map fun i=>(F i).1).flatten).length with h1|h1
        ·exact h1
        ·rw [List.getElem?_eq_none h1] at hj;cases hj
       have h1:=hcell j hlj;rw [List.getElem?_eq_getElem (by rw [hlen];exact hlj)] at h1
       exact ⟨_,h1,hall.at_ hj (List.getElem?_eq_getElem (by rw [hlen];exact hlj))⟩
      refine Av.lst _ _ _ a _ (fun j=>(w.cell? (a.add j)).getD undef) hs hb (fun h=>h) hl (fun j c hj=>?_) (fun j c hj=>?_) (fun j c hj=>?_)
      ·obtain ⟨v,hv,_⟩:=key j c hj;rw [hv];rfl
      ·obtain ⟨v,hv,ht⟩:=key j c hj;rw [hv];exact ht.2
      ·obtain ⟨v,hv,ht⟩:=key j c hj;rw [hv];exact ht.1.2
  ·rename_i fs hu;simp only [Bool.and_eq_true] at hp;simp only [Ab4 hu];obtain ⟨xs,n,_,_,hlen,hxl,hf⟩:=DataW.trod_struct hu h
   obtain ⟨rows,h1,h2⟩:=BP (P:=P) (w:=w) (d:=d) hlen fs.toList 0 hp.1 fun f hf'=>by
    obtain ⟨i,hi⟩:=List.mem_iff_getElem?.1 hf';have hi':fs[i]?=some f:=by simpa using hi
    have hlt:i<fs.size:=(Array.getElem?_eq_some_iff.1 hi').1;have h3:=hf i f hi';rw [List.getElem?_eq_getElem (by omega)] at h3
    exact Ui d f.type (List.all_eq_true.1 hp.2 f hf') _ _ _ h3
   exact ⟨_,⟨rows,rfl,h1⟩,by simpa using h2⟩
  ·rename_i n e hu;simp only [Bool.and_eq_true] at hp;simp only [Adl hu];obtain ⟨xs,m,_,_,hlen,hxl,hf⟩:=DataW.trod_array hu h;have hsz:=Nat.eq_of_beq_eq_true hp.1
   obtain ⟨rows,h1,h2,h3⟩:=HW (P:=P) (w:=w) (d:=d) (e:=e) (cs:=cs) (k:=P.cellsOf e) n (by omega) fun i hi=>by
    have h3:=hf i hi;rw [List.getElem?_eq_getElem (by omega)] at h3
    obtain ⟨ps,h4,h5⟩:=Ui d e hp.2 _ _ _ h3;refine ⟨ps,⟨?_,h4⟩,h5⟩;rw [h5.len,List.length_take,List.length_drop,hlen,hsz];have:(i+1)*P.cellsOf e<=n*P.cellsOf e:=Nat.mul_le_mul_right _ hi;rw [Nat.succ_mul] at this;omega
   refine ⟨_,⟨rows,rfl,h1,h2⟩,?_⟩;rw [List.take_of_length_le (by omega)] at h3
   exact h3
  ·cases hp
theorem Aew {r:Reach}{b0:Nat}{t:TypeId}{v:Value}{dd:DataW H}{p:List MemPlace}(hp:Mf P 12 t=true)(hv:Value.okWide P w r b0 t v)(h:DataW.Trod enc P w base (fun _=>true) held t v dd p):
  ∃q,WTv P t q∧Rt w No q v:=by
 obtain ⟨fuel,hf⟩:=h;obtain ⟨ps,h1,h2⟩:=Ui 12 t hp fuel _ _ hf;unfold WTv Ck
 have two:∀{cs:Array Value},v=.agg cs->∃q,(∃ps,q=.agg ps∧WT P 12 t ps)∧Rt w No q v:=by
  intro cs e;subst e;exact ⟨.agg ps,⟨ps,rfl,h1⟩,cs.toList,by simp,h2.mono fun c v h=>h.1⟩
 have one:v.cells.toList=[v]->∃q,WT P 12 t [q]∧Rt w No q v:=by
  intro e;rw [e] at h2
  match ps,h2 with
  |[q],h2=>
   refine ⟨q,h1,?_⟩;have h3:=h2.1.1;cases q<;>first|exact h3|exact h3.1.elim
  |[],h2=>exact h2.elim
  |_::_::_,h2=>exact h2.2.elim
 unfold Mf at hp;split at hp
 ·rename_i hu;simp only [hu];obtain ⟨b,rfl,_⟩:=open_bool hu hv ⟨fuel,hf⟩;exact one rfl
 ·rename_i k hu;simp only [hu];obtain ⟨b,rfl,_⟩:=open_int hu hv ⟨fuel,hf⟩;exact one rfl
 ·rename_i hu;simp only [hu];obtain ⟨b,rfl,_⟩:=ChangeMaps.open_string hu hv ⟨fuel,hf⟩;exact one rfl
 ·rename_i e hu;simp only [hu];obtain ⟨a,len,cap,rfl⟩:=okWide_slice hu hv;exact one rfl
 ·rename_i fs hu;simp only [hu];obtain ⟨cs,rfl,_⟩:=okWide_struct hu hv;exact two rfl
 ·rename_i n e hu;simp only [hu];unfold Value.okWide at hv;simp only [hu] at hv;obtain ⟨cs,rfl,_⟩:=hv;exact two rfl
 ·cases hp
theorem MJ:∀{ts:List TypeId}{vs:List Value}{ds:List (DataW H)} {p:List MemPlace}{r:Reach}{b0:Nat},(ts.all fun t=>Mf P 12 t)=true->(∀(j:Nat) t v,ts[j]?=some t->vs[j]?=some v->Value.okWide P w r b0 t v) ->
  DataW.TrodAll enc P w base (fun _=>true) held ts vs ds p->∃qs,Bi (WTv P) ts qs∧Bi (Rt w No) qs vs
 |[],[],[],_,_,_,_,_,_=>⟨[],trivial,trivial⟩
 |t::ts,v::vs,d::ds,_,r,b0,hp,hv,⟨p,q,h1,h2,_⟩=>by
  simp only [List.all_cons,Bool.and_eq_true] at hp;obtain ⟨x,h3,h4⟩:=Aew hp.1 (hv 0 t v rfl rfl) h1;obtain ⟨xs,h5,h6⟩:=MJ hp.2 (fun j t v ht hv'=>hv (j+1) t v ht hv') h2
  exact ⟨x::xs,⟨h3,h5⟩,h4,h6⟩
 |[],_::_,_,_,_,_,_,_,h=>by cases h
 |[],[],_::_,_,_,_,_,_,h=>by cases h
 |_::_,[],_,_,_,_,_,_,h=>by cases h
 |_::_,_::_,[],_,_,_,_,_,h=>by cases h
theorem Vd (hl:laidOutB P=true){W W':World}{sp:Nat->Bool}:∀{ts:List TypeId}{vs:List Value}{ds:List (DataW H)} {p:List MemPlace},(ts.all fun t=>P.readableRec t&&Nat.blt t P.types.size)=true ->
  DataW.TrodAll enc P W 0 (fun _=>true) true ts vs ds p->(∀x∈p,W.sameAt W' x)->(∀x∈p,sp x.block=true)->DataW.TrodAll enc P W' 0 sp true ts vs ds p
 |[],[],[],_,_,h,_,_=>h
 |t::ts,v::vs,d::ds,_,hr,⟨p,q,h1,h2,e⟩,hs,hsp=>by
  simp only [List.all_cons,Bool.and_eq_true] at hr;refine ⟨p,q,WideElems.Trod_stays hl hr.1.1 (Nat.lt_of_succ_le (Nat.le_of_ble_eq_true hr.1.2)) h1 (fun x hx=>hs x ?_) (fun x hx=>hsp x ?_),Vd hl hr.2 h2 (fun x hx=>hs x ?_) (fun x hx=>hsp x ?_),e⟩
  all_goals rw [e,List.mem_append]
  ·exact .inl hx
  ·exact .inl hx
  ·exact .inr hx
  ·exact .inr hx
 |[],_::_,_,_,_,h,_,_=>by cases h
 |[],[],_::_,_,_,h,_,_=>by cases h
 |_::_,[],_,_,_,h,_,_=>by cases h
 |_::_,_::_,[],_,_,h,_,_=>by cases h
theorem JT {f:Func}{s:ChangeSpec}{apart fresh handsOn again:Bool}{W W':World}{args:Array Value}{v:Value}{ds gs:List (DataW H)} {before pa pv:List MemPlace}
  (hW:DataW.Whole enc P f.params.toList s.vars apart W args.toList ds gs before)
  (hres:∀(b:Nat)(sp:Nat->Bool)(hd:Bool),DataW.TrodAll enc P W' b sp hd f.resultTypes.toList (v.resultList f.resultTypes.size) (s.fn H (ds++gs)).results [])
  (hargs:∀sp:Nat->Bool,(∀p∈before,sp p.block=true)->DataW.TrodAll enc P W' 0 sp true f.params.toList args.toList (s.fn H (ds++gs)).args pa)
  (hvars:∀sp:Nat->Bool,(∀p∈before,sp p.block=true)->DataW.TrodVars enc P W' sp s.vars (s.fn H (ds++gs)).vars pv)
  (hps:before=pa++pv)(hb:Below W.heap.size W W')
  (hok:∀(j:Nat)(t:TypeId)(r:Value),f.resultTypes[j]?=some t->(v.resultList f.resultTypes.size)[j]?=some r->Value.okWide P W' .any 0 t r):
  s.post enc P f apart fresh handsOn again W args v W':=by
 have hlt:∀p∈before,p.block<W.heap.size:=fun p hp=>hW.lt p hp
 have hold:∀p∈before,(fun b=>decide (b<W.heap.size)) p.block=true:=fun p hp=>by simpa using hlt p hp
 refine ⟨ds,gs,before,[],pa,pv,hW,hres _ _ _,hargs _ hold,hvars _ hold,World.keptBut_mono (fun p hp=>⟨hp,?_⟩) (hb.frame (· ∈ before)),fun _=>?_⟩
 ·rw [hps,List.mem_append] at hp;exact Or.inr hp
 ·obtain ⟨_,_,_,_,_,hz,hn⟩:=hW;refine ⟨hok,_,_,([]++pa)++pv,⟨[]++pa,pv,trodAll_append (hargs _ (fun _ _=>rfl)) (hres _ _ _),hvars _ (fun _ _=>rfl),rfl,?_,?_⟩,?_⟩
  ·intro b off hp;have hin:MemPlace.cell b off∈before:=by rw [hps];simpa using hp
   rw [hb.frozen (hlt _ hin)];exact hz b off hin
  ·intro ha;have:=hn ha;rw [hps] at this
   simpa using this
  ·intro p hp _;rw [hps]
   simpa using hp
theorem law_contract {G:Se}{C:Gi}(hx:YG G P C)(hNG:NoNG P)(hm:P.follows .mixedOrders=true)(hl:laidOutB P=true){f:FuncId}{fn:Func}{s:ChangeSpec}{tb:TypeId}(hfn:P.funcs[f]?=some fn)
  (hvars:s.vars=[]) (hspec:∀ds:List (DataW H),ds.length=fn.params.size->s.fn H ds={ results:=[.lit (.bool true)],args:=ds }) (hplain:(fn.params.toList.all fun t=>Mf P 12 t)=true)
  (hread:(fn.params.toList.all fun t=>P.readableRec t&&Nat.blt t P.types.size)=true) (hrt:fn.resultTypes = #[tb]) (hub:P.underlying tb=some .bool)
  {apart fresh handsOn again:Bool} (W:World) (base:Nat) (args:Array Value) (ds gs:List (DataW H)) (before:List MemPlace)
  (hval:∀(j:Nat) t v,fn.params[j]?=some t->args[j]?=some v->Value.okWide P W .any base t v)
  (hW:DataW.Whole enc P fn.params.toList s.vars apart W args.toList ds gs before)
  (hlaw:∀qs:List PV,Bi (WTv P) fn.params.toList qs->∃fu d,Ae C P fu d f qs=some ⟨[.sc (.bool true)],[]⟩) (hG:G.ok W)(hGY:∀b,G.bl b->b<W.heap.size):
  Calls P f args W fun e W'=>∃v,e=.returned v∧s.post enc P fn apart fresh handsOn again W args v W':=by
 have hW':=hW;obtain ⟨p,q,hA,hV,rfl,hfz,hnd⟩:=hW;rw [hvars] at hV;obtain ⟨rfl,rfl⟩:=trodVars_none hV;obtain ⟨qs,h1,h2⟩:=MJ hplain (fun j t v ht hv=>hval j t v (by simpa using ht) (by simpa using hv)) hA
 obtain ⟨fu,d,hc⟩:=hlaw qs h1;have hS:=(Ta hNG hm hx d f qs _ hc).2 W No JY args.toList (SN (fun b h=>h.elim) h2) hG (fun b hb=>⟨hGY b hb,Sz b⟩)
 rw [Array.toArray_toList] at hS;refine hS.mono fun e W' ⟨vs,own,he,ho⟩=>?_
 have hv:=ho.vals
 have hvs:vs=[.bool true]:=by
  match vs,hv with
  |[u],hv=>
   have:Av W' _ (.sc (.bool true)) u:=hv.1;rw [this.val]
  |[],hv=>exact hv.elim
  |_::_::_,hv=>exact hv.2.elim
 subst hvs;subst he;have hb:Below W.heap.size W W':=⟨ho.os,ho.tape,ho.output,ho.ext.size,fun k hk=>ho.ext.keep k hk (Sz k)⟩
 have hlt:∀x∈p,x.block<W.heap.size:=fun x hx=>hW'.lt x (by simpa using hx)
 have hlen:ds.length=fn.params.size:=by
  have:∀{ts:List TypeId} {vs:List Value} {ds:List (DataW H)} {p:List MemPlace},DataW.TrodAll enc P W 0 (fun _=>true) true ts vs ds p->ds.length=ts.length:=by
   intro ts
   induction ts with
   |nil=>intro vs ds p h;cases vs<;>cases ds<;>first|rfl|cases h
   |cons t ts ih=>
    intro vs ds p h;cases vs with
    |nil=>cases h
    |cons v vs=>
     cases ds with
     |nil=>cases h
     |cons d ds=>obtain ⟨_,_,_,h2,_⟩:=h;simp [ih h2]
  simpa using this hA
 have hsp:=hspec (ds++[]) (by simpa using hlen)
 refine ⟨_,rfl,JT (pa:=p) (pv:=[]) hW' ?_ ?_ ?_ rfl hb ?_⟩
 ·intro b sp hd;rw [hsp,hrt];exact trodAll_mk1 (shut_bool hub _)
 ·intro sp hspb;rw [hsp];simp only [List.append_nil];exact Vd hl hread hA (fun x hx=>hb.same (hlt x hx)) (fun x hx=>hspb x (by simpa using hx))
 ·intro sp _;rw [hsp,hvars];rfl
 ·exact ok_one hrt rfl (okWide_bool_mk hub _)
end
end
section
set_option maxRecDepth 100000
theorem Ag8 {d:Nat}{ps:List PV}{k:IntKind}{t e:TypeId}(hk:S0 Tryd.prog t=.sl e)(hc:Tryd.prog.cellsOf e=1)(he:S0 Tryd.prog e=.int k)(h:WT Tryd.prog d t ps):
  ∃l:List Int,ps=[.lst false 1 l.length (Ag k l)]∧l.length<=maxLen∧∀n∈l,(Lit.int k n).wf=true:=by
 obtain ⟨rows,rfl,hl,hr⟩:=Al7 hk h;obtain ⟨l,h1,h2,h3⟩:=DB (Akm k) (fun n=>(Lit.int k n).wf=true) fun r hrr=>Akn he (hr r hrr).2
 refine ⟨l,?_,by omega,h3⟩
 rw [h1,h2,hc]
theorem Ama {n:Int}(h:(Lit.int .u8 n).wf=true):0<=n∧n<=255:=by
 simp [Lit.wf,IntKind.min,IntKind.max,IntKind.signed,IntKind.bits] at h;omega
theorem TG {p:PV}{k:IntKind}{t e:TypeId}(ha:Ck Tryd.prog t=false)(hk:S0 Tryd.prog t=.sl e)(hc:Tryd.prog.cellsOf e=1)(he:S0 Tryd.prog e=.int k)(h:WTv Tryd.prog t p):
  ∃l:List Int,p=.lst false 1 l.length (Ag k l)∧l.length<=maxLen∧∀n∈l,(Lit.int k n).wf=true:=by
 have h':=Ah4 (P:=Tryd.prog) (t:=t) (p:=p) ha h;obtain ⟨l,h1,h2,h3⟩:=Ag8 hk hc he h';exact ⟨l,by injection h1,h2,h3⟩
end
section
open Go.IntKind (wrap)
theorem D9:type_of% @Bool.not_true:=@Bool.not_true
theorem Ge:type_of% @Bool.not_false:=@Bool.not_false
theorem Cd:type_of% @Nat.mul_one:=@Nat.mul_one
theorem C2:type_of% @Nat.zero_add:=@Nat.zero_add
theorem Ew:type_of% @List.drop_zero.{0}:=@List.drop_zero
theorem Wz:type_of% @List.take_of_length_le.{0}:=@List.take_of_length_le
theorem Ns:type_of% @List.length_append.{0}:=@List.length_append
theorem CV:type_of% @List.length_nil.{0}:=@List.length_nil
theorem Le:type_of% @List.length_cons.{0}:=@List.length_cons
theorem Hw:type_of% @Int.toNat_natCast:=@Int.toNat_natCast
theorem A9:type_of% @if_neg.{1}:=@if_neg
theorem Cc:type_of% @if_pos.{1}:=@if_pos
theorem Zzq:type_of% @List.nil_append.{0}:=@List.nil_append
theorem MT:type_of% @Nat.add_zero:=@Nat.add_zero
theorem YW:type_of% @List.append_assoc.{0}:=@List.append_assoc
theorem Zzw:type_of% @List.map_cons.{0,0}:=@List.map_cons
end
section
open Go.IntKind (wrap)
set_option maxRecDepth 100000
abbrev Lr:FuncId:=83
theorem Um {xs:FuncId->Option (List PV->Option Aw)} (fu d:Nat)(a0 a1:Int):Ae (CX xs) Tryd.prog fu (d+1) Lr [.sc (.int .u64 a0),.sc (.int .i64 a1)]=(fun (call:Ah)=>Aa (wrap .u64 a1) fun x1=>Aa (Sd .u64 x1 63) fun x2=>Ao (decide (0<=x2))<|Aa (Gr .u64 a0 x2) fun x3=>Aa (wrap .u64 (64-x2)) fun x4=>Ao (decide (0<=x4))<|Aa (F6 .u64 a0 x4) fun x5=>Aa (MG .u64 x3 x5) fun x6=>some (Aw.mk [.sc (.int .u64 x6)] [])) (Ae (CX xs) Tryd.prog fu d):=by kernel_rfl
abbrev Er:FuncId:=43
noncomputable def Ga (fu:Nat)(call:Ah)(a0n:Nat)(a0:List PV)(nn y0 y1:Nat)(y2:List PV)(y3 y4:Int)(y5:List PV):Option Aw:=Dd CB Tryd.prog fu call 43 Tryd.f43 (B9 Tryd.f43) [.lst false 1 a0n a0] [.r,.r,.l,.r,.l] nn ⟨lk [(3,(.view 3 1 0 y0)),(11,(.lst false 1 y1 y2)),(12,(.sc (.int .i64 y3))),(13,(.sc (.int .i64 y4)))],Bz [(3,(.ar false y5))]⟩
noncomputable def Ht (fu:Nat)(call:Ah)(a0n:Nat)(a0:List PV)(m0 nn y0:Nat)(y1:Int)(y2:Nat)(y3:List PV)(y4 y5 y6:Int)(y7:List PV):Option Aw:=Dd CB Tryd.prog fu call 43 Tryd.f43 (B9 Tryd.f43) [.lst false 1 a0n a0] [.r,.r,.l,.r,.l,.i m0,.r,.r,.l,.l,.r,.r,.l] nn ⟨lk [(3,(.view 3 1 0 y0)),(5,(.sc (.int .u64 y1))),(11,(.lst false 1 y2 y3)),(12,(.sc (.int .i64 y4))),(13,(.sc (.int .i64 y5))),(17,(.sc (.int .i64 y6)))],Bz [(3,(.ar false y7))]⟩
theorem Ok (fu:Nat)(call:Ah)(a0n:Nat)(a0:List PV)(nn y0 y1:Nat)(y2:List PV)(y3 y4:Int)(y5:List PV):Ga fu call a0n a0 (nn+1) y0 y1 y2 y3 y4 y5=(Bc (decide (y4<y3)) (Ao (decide (0<=y4)&&decide (y4<(↑y1:Int)))<|Ad .u64 (List.getD y2 (Int.toNat y4*1) .top) fun x2=>Ht fu call a0n a0 nn (fu) (y0) x2 (y1) (y2) (y3) (y4) 0 (y5)) (Ao (decide (y0*1<=y5.length))<|some (Aw.mk [.own 1 y0 (List.take (y0*1) y5)] []))):=by kernel_rfl
theorem O3 (fu:Nat)(call:Ah)(a0n:Nat)(a0:List PV)(m0 nn y0:Nat)(y1:Int)(y2:Nat)(y3:List PV)(y4 y5 y6:Int)(y7:List PV):Ht fu call a0n a0 m0 (nn+1) y0 y1 y2 y3 y4 y5 y6 y7=(Bc (decide (y6<8)) (Aa (wrap .i64 (8*y6)) fun x3=>Aa (wrap .i64 (56-x3)) fun x4=>Ao (decide (0<=x4))<|Aa (F6 .u64 y1 x4) fun x5=>Aa (wrap .u8 x5) fun x6=>Ao (decide (y0*1<=y7.length)&&true&&decide ((y0+1)*1<=1099511627776)&&decide (y0+1<=1099511627776))<|Aa (y0+1) fun x7=>Aa (List.take (y0*1) y7++[.sc (.int .u8 x6)]) fun x8=>Aa (wrap .i64 (y6+1)) fun x9=>Ht fu call a0n a0 m0 (nn) x7 (y1) (y2) (y3) (y4) (y5) x9 x8) (Aa (wrap .i64 (y5+1)) fun Cp=>Ga fu call a0n a0 (m0) (y0) (y2) (y3) (y4) Cp (y7))):=by kernel_rfl
theorem HO {xs:FuncId->Option (List PV->Option Aw)} (fu d a0n:Nat)(a0:List PV):Ae (CX xs) Tryd.prog fu (d+1) Er [.lst false 1 a0n a0]=(fun (call:Ah)=>Aa (wrap .i64 (8*(↑a0n:Int))) fun x1=>Ao (decide (0<=x1)&&decide (x1*1<=1099511627776)&&decide (x1<=1099511627776))<|Ga fu call a0n a0 (fu) 0 (a0n) (a0) ((↑a0n:Int)) 0 ([])) (Ae (CX xs) Tryd.prog fu d):=by kernel_rfl
abbrev R2:FuncId:=68
noncomputable def G9 (fu:Nat)(call:Ah)(a0n:Nat)(a0:List PV)(nn:Nat)(y0:Int)(y1:Nat)(y2:List PV)(y3 y4:Int):Option Aw:=Dd CB Tryd.prog fu call 68 Tryd.f68 (B9 Tryd.f68) [.lst false 1 a0n a0] [.r,.r,.l,.r,.l] nn ⟨lk [(3,(.sc (.int .u64 y0))),(6,(.lst false 1 y1 y2)),(7,(.sc (.int .i64 y3))),(8,(.sc (.int .i64 y4)))],Bz []⟩
theorem Mp (fu:Nat)(call:Ah)(a0n:Nat)(a0:List PV)(nn:Nat)(y0:Int)(y1:Nat)(y2:List PV)(y3 y4:Int):G9 fu call a0n a0 (nn+1) y0 y1 y2 y3 y4=(Bc (decide (y4<y3)) (Ao (decide (0<=y4)&&decide (y4<(↑y1:Int)))<|Ad .u8 (List.getD y2 (Int.toNat y4*1) .top) fun x1=>Aa (wrap .u64 x1) fun x2=>Aa (wrap .i64 (8*y4)) fun x3=>Ao (decide (0<=x3))<|Aa (Gr .u64 x2 x3) fun x4=>Aa (MG .u64 y0 x4) fun x5=>Aa (wrap .i64 (y4+1)) fun x6=>G9 fu call a0n a0 (nn) x5 (y1) (y2) (y3) x6) (some (Aw.mk [.sc (.int .u64 y0)] []))):=by kernel_rfl
theorem DG {xs:FuncId->Option (List PV->Option Aw)} (fu d a0n:Nat)(a0:List PV):Ae (CX xs) Tryd.prog fu (d+1) R2 [.lst false 1 a0n a0]=(fun (call:Ah)=>G9 fu call a0n a0 (fu) 0 (a0n) (a0) ((↑a0n:Int)) 0) (Ae (CX xs) Tryd.prog fu d):=by kernel_rfl
abbrev I9:FuncId:=69
noncomputable def Ei (fu:Nat)(call:Ah)(a0_0 a0_1:Int)(a0_2 a0_3 a1:Int)(nn:Nat)(y0 y1:Int)(y2 y3:Int)(y4 y5:Int):Option Aw:=Dd CB Tryd.prog fu call 69 Tryd.f69 (B9 Tryd.f69) [.pbox [.sc (.int .u64 a0_0),.sc (.int .u64 a0_1),.sc (.int .u64 a0_2),.sc (.int .u64 a0_3)],.sc (.int .i64 a1)] [.r,.l] nn ⟨lk [(0,(.ptr 288000 0)),(4,(.sc (.int .i64 y0))),(5,(.sc (.int .i64 y1)))],Bz [(288000,(.st [(.sc (.int .u64 y2)),(.sc (.int .u64 y3)),(.sc (.int .u64 y4)),(.sc (.int .u64 y5))]))]⟩
theorem Hp (fu:Nat)(call:Ah)(a0_0 a0_1:Int)(a0_2 a0_3 a1:Int)(nn:Nat)(y0 y1:Int)(y2 y3:Int)(y4 y5:Int):Ei fu call a0_0 a0_1 a0_2 a0_3 a1 (nn+1) y0 y1 y2 y3 y4 y5=(Bc (decide (y1<y0)) (Aa (wrap .u64 (y2+y3)) fun x1=>Ai (call 83 [.sc (.int .u64 y3),.sc (.int .i64 13)]) fun x2 x3=>Ac x3<|Ab x2 fun x4 x5=>Ad .u64 x4 fun x6=>Ac x5<|Aa (Dg .u64 x6 x1) fun x7=>Ai (call 83 [.sc (.int .u64 x1),.sc (.int .i64 32)]) fun x8 x9=>Ac x9<|Ab x8 fun Cp C3=>Ad .u64 Cp fun Dz=>Ac C3<|Aa (wrap .u64 (y4+y5)) fun Ed=>Ai (call 83 [.sc (.int .u64 y5),.sc (.int .i64 16)]) fun Dy Ec=>Ac Ec<|Ab Dy fun Ej Fc=>Ad .u64 Ej fun F2=>Ac Fc<|Aa (Dg .u64 F2 Ed) fun F3=>Aa (wrap .u64 (Dz+F3)) fun F8=>Ai (call 83 [.sc (.int .u64 F3),.sc (.int .i64 21)]) fun Ij G6=>Ac G6<|Ab Ij fun H7 Dr=>Ad .u64 H7 fun Dl=>Ac Dr<|Aa (Dg .u64 Dl F8) fun G7=>Aa (wrap .u64 (Ed+x7)) fun Il=>Ai (call 83 [.sc (.int .u64 x7),.sc (.int .i64 17)]) fun E1 Mi=>Ac Mi<|Ab E1 fun Nd Lf=>Ad .u64 Nd fun Mv=>Ac Lf<|Aa (Dg .u64 Mv Il) fun Nv=>Ai (call 83 [.sc (.int .u64 Il),.sc (.int .i64 32)]) fun Oa Pp=>Ac Pp<|Ab Oa fun Rh Rw=>Ad .u64 Rh fun Gg=>Ac Rw<|Aa (wrap .i64 (y1+1)) fun Hv=>Ei fu call a0_0 a0_1 a0_2 a0_3 a1 (nn) (y0) Hv F8 Nv Gg G7) (some (Aw.mk [] [[.sc (.int .u64 y2),.sc (.int .u64 y3),.sc (.int .u64 y4),.sc (.int .u64 y5)]]))):=by kernel_rfl
theorem Sb {xs:FuncId->Option (List PV->Option Aw)} (fu d:Nat)(a0_0 a0_1:Int)(a0_2 a0_3 a1:Int):Ae (CX xs) Tryd.prog fu (d+1) I9 [.pbox [.sc (.int .u64 a0_0),.sc (.int .u64 a0_1),.sc (.int .u64 a0_2),.sc (.int .u64 a0_3)],.sc (.int .i64 a1)]=(fun (call:Ah)=>Ei fu call a0_0 a0_1 a0_2 a0_3 a1 (fu) (a1) 0 (a0_0) (a0_1) (a0_2) (a0_3)) (Ae (CX xs) Tryd.prog fu d):=by kernel_rfl
abbrev Jd:FuncId:=67
theorem Sa {xs:FuncId->Option (List PV->Option Aw)} (fu d:Nat)(a0_0 a0_1:Int)(a0_2 a0_3 a1:Int):Ae (CX xs) Tryd.prog fu (d+1) Jd [.pbox [.sc (.int .u64 a0_0),.sc (.int .u64 a0_1),.sc (.int .u64 a0_2),.sc (.int .u64 a0_3)],.sc (.int .u64 a1)]=(fun (call:Ah)=>Aa (Dg .u64 a0_3 a1) fun x1=>Ai (call 69 [.pbox [.sc (.int .u64 a0_0),.sc (.int .u64 a0_1),.sc (.int .u64 a0_2),.sc (.int .u64 x1)],.sc (.int .i64 2)]) fun x2 x3=>Ac x2<|Ab x3 fun x4 x5=>Ab x4 fun x6 x7=>Ad .u64 x6 fun x8=>Ab x7 fun x9 Cp=>Ad .u64 x9 fun C3=>Ab Cp fun Dz Ed=>Ad .u64 Dz fun Dy=>Ab Ed fun Ec Ej=>Ad .u64 Ec fun Fc=>Ac Ej<|Ac x5<|Aa (Dg .u64 x8 a1) fun F2=>some (Aw.mk [] [[.sc (.int .u64 F2),.sc (.int .u64 C3),.sc (.int .u64 Dy),.sc (.int .u64 Fc)]])) (Ae (CX xs) Tryd.prog fu d):=by kernel_rfl
abbrev W8:FuncId:=49
noncomputable def Hq (fu:Nat)(call:Ah)(a0 a1:Int)(a2n:Nat)(a2:List PV)(nn y0:Nat)(y1:List PV)(y2 y3:Int)(y4 y5:Int)(y6 y7 y8:Int):Option Aw:=Dd CB Tryd.prog fu call 49 Tryd.f49 (B9 Tryd.f49) [.sc (.int .u64 a0),.sc (.int .u64 a1),.lst false 1 a2n a2] [.r,.r,.r,.l,.r,.l] nn ⟨lk [(2,(.lst false 1 y0 y1)),(7,(.ptr 7 0)),(8,(.sc (.int .i64 y2))),(22,(.sc (.int .i64 y3))),(23,(.sc (.int .i64 y4)))],Bz [(7,(.st [(.sc (.int .u64 y5)),(.sc (.int .u64 y6)),(.sc (.int .u64 y7)),(.sc (.int .u64 y8))]))]⟩
theorem Rz (fu:Nat)(call:Ah)(a0 a1:Int)(a2n:Nat)(a2:List PV)(nn y0:Nat)(y1:List PV)(y2 y3:Int)(y4 y5:Int)(y6 y7 y8:Int):Hq fu call a0 a1 a2n a2 (nn+1) y0 y1 y2 y3 y4 y5 y6 y7 y8=(Bc (decide (y4<y3)) (Aa (wrap .i64 (8*y4)) fun x6=>Aa (wrap .i64 (8*y4)) fun x7=>Aa (wrap .i64 (x7+8)) fun x8=>Ao (decide (0<=x6))<|Ao (decide (0<=x8))<|Ao (decide (Int.toNat x6<=Int.toNat x8)&&decide (Int.toNat x8<=y0))<|Aa (Int.toNat x8-Int.toNat x6) fun x9=>Aa (List.take (x9*1) (List.drop (Int.toNat x6*1) y1)) fun Cp=>Ai (call 68 [.lst false 1 x9 Cp]) fun C3 Dz=>Ac Dz<|Ab C3 fun Ed Dy=>Ad .u64 Ed fun Ec=>Ac Dy<|Ai (call 67 [.pbox [.sc (.int .u64 y5),.sc (.int .u64 y6),.sc (.int .u64 y7),.sc (.int .u64 y8)],.sc (.int .u64 Ec)]) fun Ej Fc=>Ac Ej<|Ab Fc fun F2 F3=>Ab F2 fun F8 Ij=>Ad .u64 F8 fun G6=>Ab Ij fun H7 Dr=>Ad .u64 H7 fun Dl=>Ab Dr fun G7 Il=>Ad .u64 G7 fun E1=>Ab Il fun Mi Nd=>Ad .u64 Mi fun Lf=>Ac Nd<|Ac F3<|Aa (wrap .i64 (y4+1)) fun Mv=>Hq fu call a0 a1 a2n a2 (nn) (y0) (y1) (y2) (y3) Mv G6 Dl E1 Lf) (Aa (wrap .i64 (8*y2)) fun Nv=>Ao (decide (0<=Nv))<|Ao (decide (Int.toNat Nv<=y0)&&decide (y0<=y0))<|Aa (y0-Int.toNat Nv) fun Oa=>Aa (List.take (Oa*1) (List.drop (Int.toNat Nv*1) y1)) fun Pp=>Ai (call 68 [.lst false 1 Oa Pp]) fun Rh Rw=>Ac Rw<|Ab Rh fun Gg Hv=>Ad .u64 Gg fun Ug=>Ac Hv<|Aa (wrap .u64 (↑y0:Int)) fun Yw=>Aa (Gr .u64 Yw 56) fun Kw=>Aa (MG .u64 Ug Kw) fun Uo=>Ai (call 67 [.pbox [.sc (.int .u64 y5),.sc (.int .u64 y6),.sc (.int .u64 y7),.sc (.int .u64 y8)],.sc (.int .u64 Uo)]) fun S7 Sh=>Ac S7<|Ab Sh fun Sf Wx=>Ab Sf fun Xr R8=>Ad .u64 Xr fun Ve=>Ab R8 fun Ww Wt=>Ad .u64 Ww fun Oi=>Ab Wt fun Y9 DO=>Ad .u64 Y9 fun Zt=>Ab DO fun BN Ut=>Ad .u64 BN fun V8=>Ac Ut<|Ac Wx<|Aa (Dg .u64 Zt 255) fun Z7=>Ai (call 69 [.pbox [.sc (.int .u64 Ve),.sc (.int .u64 Oi),.sc (.int .u64 Z7),.sc (.int .u64 V8)],.sc (.int .i64 4)]) fun Zb Tz=>Ac Zb<|Ab Tz fun Zi Y3=>Ab Zi fun Zs Wp=>Ad .u64 Zs fun Vk=>Ab Wp fun DS CC=>Ad .u64 DS fun Zg=>Ab CC fun Yl CM=>Ad .u64 Yl fun HC=>Ab CM fun CE EN=>Ad .u64 CE fun IW=>Ac EN<|Ac Y3<|Aa (Dg .u64 Vk Zg) fun BL=>Aa (Dg .u64 BL HC) fun Vg=>Aa (Dg .u64 Vg IW) fun MO=>some (Aw.mk [.sc (.int .u64 MO)] []))):=by kernel_rfl
theorem PC {xs:FuncId->Option (List PV->Option Aw)} (fu d:Nat)(a0 a1:Int)(a2n:Nat)(a2:List PV):Ae (CX xs) Tryd.prog fu (d+1) W8 [.sc (.int .u64 a0),.sc (.int .u64 a1),.lst false 1 a2n a2]=(fun (call:Ah)=>Aa (Dg .u64 a0 8317987319222330741) fun x1=>Aa (Dg .u64 a1 7237128888997146477) fun x2=>Aa (Dg .u64 a0 7816392313619706465) fun x3=>Aa (Dg .u64 a1 8387220255154660723) fun x4=>Aa (wrap .i64 (Int.tdiv (↑a2n:Int) 8)) fun x5=>Hq fu call a0 a1 a2n a2 (fu) (a2n) (a2) x5 x5 0 x1 x2 x3 x4) (Ae (CX xs) Tryd.prog fu d):=by kernel_rfl
abbrev Pn:FuncId:=28
theorem KC {xs:FuncId->Option (List PV->Option Aw)} (fu d:Nat)(a0:Int)(a1n:Nat)(a1:List PV):Ae (CX xs) Tryd.prog fu (d+1) Pn [.sc (.int .i64 a0),.lst false 1 a1n a1]=(fun (call:Ah)=>Aa (wrap .u64 a0) fun x1=>Ai (call 49 [.sc (.int .u64 x1),.sc (.int .u64 0),.lst false 1 a1n a1]) fun x2 x3=>Ac x3<|Ab x2 fun x4 x5=>Ad .u64 x4 fun x6=>Ac x5<|some (Aw.mk [.sc (.int .u64 x6)] [])) (Ae (CX xs) Tryd.prog fu d):=by kernel_rfl
abbrev Xz:FuncId:=70
theorem NL {xs:FuncId->Option (List PV->Option Aw)} (fu d:Nat)(a0 a1:Int)(a2n:Nat)(a2:List PV):Ae (CX xs) Tryd.prog fu (d+1) Xz [.sc (.int .u64 a0),.sc (.int .i64 a1),.lst false 1 a2n a2]=(fun (call:Ah)=>Aa (wrap .u64 a1) fun x1=>Aa (wrap .u64 (1+x1)) fun x2=>Ai (call 49 [.sc (.int .u64 a0),.sc (.int .u64 x2),.lst false 1 a2n a2]) fun x3 x4=>Ac x4<|Ab x3 fun x5 x6=>Ad .u64 x5 fun x7=>Ac x6<|some (Aw.mk [.sc (.int .u64 x7)] [])) (Ae (CX xs) Tryd.prog fu d):=by kernel_rfl
abbrev Mr:FuncId:=90
theorem V2 {xs:FuncId->Option (List PV->Option Aw)} (fu d:Nat)(a0 a1:Int):Ae (CX xs) Tryd.prog fu (d+1) Mr [.sc (.int .u64 a0),.sc (.int .u64 a1)]=(fun (call:Ah)=>Ao (decide (0<=a1))<|Aa (Gr .u64 a0 a1) fun x1=>Aa (wrap .u64 (64-a1)) fun x2=>Ao (decide (0<=x2))<|Aa (F6 .u64 a0 x2) fun x3=>Aa (MG .u64 x1 x3) fun x4=>some (Aw.mk [.sc (.int .u64 x4)] [])) (Ae (CX xs) Tryd.prog fu d):=by kernel_rfl
abbrev Lu:FuncId:=88
theorem U5 {xs:FuncId->Option (List PV->Option Aw)} (fu d:Nat)(a0_0 a0_1:Int)(a0_2 a0_3:Int):Ae (CX xs) Tryd.prog fu (d+1) Lu [.agg [.sc (.int .u64 a0_0),.sc (.int .u64 a0_1),.sc (.int .u64 a0_2),.sc (.int .u64 a0_3)]]=(fun (call:Ah)=>Aa (wrap .u64 (a0_0+a0_1)) fun x1=>Ai (call 90 [.sc (.int .u64 a0_1),.sc (.int .u64 13)]) fun x2 x3=>Ac x3<|Ab x2 fun x4 x5=>Ad .u64 x4 fun x6=>Ac x5<|Aa (Dg .u64 x6 x1) fun x7=>Ai (call 90 [.sc (.int .u64 x1),.sc (.int .u64 32)]) fun x8 x9=>Ac x9<|Ab x8 fun Cp C3=>Ad .u64 Cp fun Dz=>Ac C3<|Aa (wrap .u64 (a0_2+a0_3)) fun Ed=>Ai (call 90 [.sc (.int .u64 a0_3),.sc (.int .u64 16)]) fun Dy Ec=>Ac Ec<|Ab Dy fun Ej Fc=>Ad .u64 Ej fun F2=>Ac Fc<|Aa (Dg .u64 F2 Ed) fun F3=>Aa (wrap .u64 (Dz+F3)) fun F8=>Ai (call 90 [.sc (.int .u64 F3),.sc (.int .u64 21)]) fun Ij G6=>Ac G6<|Ab Ij fun H7 Dr=>Ad .u64 H7 fun Dl=>Ac Dr<|Aa (Dg .u64 Dl F8) fun G7=>Aa (wrap .u64 (Ed+x7)) fun Il=>Ai (call 90 [.sc (.int .u64 x7),.sc (.int .u64 17)]) fun E1 Mi=>Ac Mi<|Ab E1 fun Nd Lf=>Ad .u64 Nd fun Mv=>Ac Lf<|Aa (Dg .u64 Mv Il) fun Nv=>Ai (call 90 [.sc (.int .u64 Il),.sc (.int .u64 32)]) fun Oa Pp=>Ac Pp<|Ab Oa fun Rh Rw=>Ad .u64 Rh fun Gg=>Ac Rw<|some (Aw.mk [.agg [.sc (.int .u64 F8),.sc (.int .u64 Nv),.sc (.int .u64 Gg),.sc (.int .u64 G7)]] [])) (Ae (CX xs) Tryd.prog fu d):=by kernel_rfl
abbrev Ot:FuncId:=85
noncomputable def Es (fu:Nat)(call:Ah)(a0 a1:Int)(a2n:Nat)(a2:List PV)(nn y0:Nat)(y1:List PV)(y2:Int)(y3:List PV):Option Aw:=Dd CB Tryd.prog fu call 85 Tryd.f85 (B9 Tryd.f85) [.sc (.int .u64 a0),.sc (.int .u64 a1),.lst false 1 a2n a2] [.r,.r,.l,.r,.l] nn ⟨lk [(2,(.lst false 1 y0 y1)),(7,(.ptr 7 0)),(8,(.sc (.int .i64 y2)))],Bz [(7,(.ar false y3))]⟩
noncomputable def Du (fu:Nat)(call:Ah)(a0 a1:Int)(a2n:Nat)(a2:List PV)(m0 nn y0:Nat)(y1:List PV)(y2 y3 y4:Int)(y5:List PV):Option Aw:=Dd CB Tryd.prog fu call 85 Tryd.f85 (B9 Tryd.f85) [.sc (.int .u64 a0),.sc (.int .u64 a1),.lst false 1 a2n a2] [.r,.r,.l,.r,.l,.i m0,.r,.l,.l,.r,.l,.r,.l] nn ⟨lk [(2,(.lst false 1 y0 y1)),(7,(.ptr 7 0)),(8,(.sc (.int .i64 y2))),(9,(.sc (.int .u64 y3))),(10,(.sc (.int .i64 y4)))],Bz [(7,(.ar false y5))]⟩
theorem J9 (fu:Nat)(call:Ah)(a0 a1:Int)(a2n:Nat)(a2:List PV)(nn y0:Nat)(y1:List PV)(y2:Int)(y3:List PV):Es fu call a0 a1 a2n a2 (nn+1) y0 y1 y2 y3=(Bc (decide (y2<=(↑y0:Int))) (Du fu call a0 a1 a2n a2 nn (fu) (y0) (y1) (y2) 0 7 (y3)) (Ad .u64 (List.getD y3 2 .top) fun x5=>Aa (Dg .u64 x5 255) fun x6=>Ao (decide (3<=y3.length))<|Aa (Bd y3 [.sc (.int .u64 x6)] 2) fun x7=>Ad .u64 (List.getD x7 0 .top) fun x8=>Ad .u64 (List.getD x7 1 .top) fun x9=>Ad .u64 (List.getD x7 2 .top) fun Cp=>Ad .u64 (List.getD x7 3 .top) fun C3=>Ai (call 88 [.agg [.sc (.int .u64 x8),.sc (.int .u64 x9),.sc (.int .u64 Cp),.sc (.int .u64 C3)]]) fun Dz Ed=>Ac Ed<|Ab Dz fun Dy Ec=>Ez Dy fun Ej=>Ab Ej fun Fc F2=>Ad .u64 Fc fun F3=>Ab F2 fun F8 Ij=>Ad .u64 F8 fun G6=>Ab Ij fun H7 Dr=>Ad .u64 H7 fun Dl=>Ab Dr fun G7 Il=>Ad .u64 G7 fun E1=>Ac Il<|Ac Ec<|Ai (call 88 [.agg [.sc (.int .u64 F3),.sc (.int .u64 G6),.sc (.int .u64 Dl),.sc (.int .u64 E1)]]) fun Mi Nd=>Ac Nd<|Ab Mi fun Lf Mv=>Ez Lf fun Nv=>Ab Nv fun Oa Pp=>Ad .u64 Oa fun Rh=>Ab Pp fun Rw Gg=>Ad .u64 Rw fun Hv=>Ab Gg fun Ug Yw=>Ad .u64 Ug fun Kw=>Ab Yw fun Uo S7=>Ad .u64 Uo fun Sh=>Ac S7<|Ac Mv<|Ai (call 88 [.agg [.sc (.int .u64 Rh),.sc (.int .u64 Hv),.sc (.int .u64 Kw),.sc (.int .u64 Sh)]]) fun Sf Wx=>Ac Wx<|Ab Sf fun Xr R8=>Ez Xr fun Ve=>Ab Ve fun Ww Wt=>Ad .u64 Ww fun Oi=>Ab Wt fun Y9 DO=>Ad .u64 Y9 fun Zt=>Ab DO fun BN Ut=>Ad .u64 BN fun V8=>Ab Ut fun Z7 Zb=>Ad .u64 Z7 fun Tz=>Ac Zb<|Ac R8<|Ai (call 88 [.agg [.sc (.int .u64 Oi),.sc (.int .u64 Zt),.sc (.int .u64 V8),.sc (.int .u64 Tz)]]) fun Zi Y3=>Ac Y3<|Ab Zi fun Zs Wp=>Ez Zs fun Vk=>Ab Vk fun DS CC=>Ad .u64 DS fun Zg=>Ab CC fun Yl CM=>Ad .u64 Yl fun HC=>Ab CM fun CE EN=>Ad .u64 CE fun IW=>Ab EN fun BL Vg=>Ad .u64 BL fun MO=>Ac Vg<|Ac Wp<|Ao (decide (4<=x7.length))<|Aa (Bd x7 [.sc (.int .u64 Zg),.sc (.int .u64 HC),.sc (.int .u64 IW),.sc (.int .u64 MO)] 0) fun KT=>Ad .u64 (List.getD KT 0 .top) fun VJ=>Ad .u64 (List.getD KT 1 .top) fun XM=>Aa (Dg .u64 VJ XM) fun QN=>Ad .u64 (List.getD KT 2 .top) fun UC=>Aa (Dg .u64 QN UC) fun x85=>Ad .u64 (List.getD KT 3 .top) fun YH=>Aa (Dg .u64 x85 YH) fun UE=>some (Aw.mk [.sc (.int .u64 UE)] []))):=by kernel_rfl
theorem Ks (fu:Nat)(call:Ah)(a0 a1:Int)(a2n:Nat)(a2:List PV)(m0 nn y0:Nat)(y1:List PV)(y2 y3 y4:Int)(y5:List PV):Du fu call a0 a1 a2n a2 m0 (nn+1) y0 y1 y2 y3 y4 y5=(Bc (decide (y4>=0)) (Aa (wrap .i64 (y2+y4)) fun UD=>Bc (decide (UD<(↑y0:Int))) (Aa (wrap .i64 (y2+y4)) fun IX=>Ao (decide (0<=IX)&&decide (IX<(↑y0:Int)))<|Ad .u8 (List.getD y1 (Int.toNat IX*1) .top) fun QA=>Aa (Gr .u64 y3 8) fun VN=>Aa (wrap .u64 QA) fun WM=>Aa (MG .u64 VN WM) fun UI=>Aa (wrap .i64 (y4-1)) fun IZ=>Du fu call a0 a1 a2n a2 m0 (nn) (y0) (y1) (y2) UI IZ (y5)) (Bc (y4==7) (Aa (wrap .u8 (↑y0:Int)) fun x95=>Aa (Gr .u64 y3 8) fun x96=>Aa (wrap .u64 x95) fun UH=>Aa (MG .u64 x96 UH) fun XJ=>Aa (wrap .i64 (y4-1)) fun DY=>Du fu call a0 a1 a2n a2 m0 (nn) (y0) (y1) (y2) XJ DY (y5)) (Aa (Gr .u64 y3 8) fun Xi=>Aa (MG .u64 Xi 0) fun Us=>Aa (wrap .i64 (y4-1)) fun G8=>Du fu call a0 a1 a2n a2 m0 (nn) (y0) (y1) (y2) Us G8 (y5)))) (Ad .u64 (List.getD y5 3 .top) fun Jm=>Aa (Dg .u64 Jm y3) fun BC=>Ao (decide (4<=y5.length))<|Aa (Bd y5 [.sc (.int .u64 BC)] 3) fun Sc=>Ad .u64 (List.getD Sc 0 .top) fun R7=>Ad .u64 (List.getD Sc 1 .top) fun Jw=>Ad .u64 (List.getD Sc 2 .top) fun W0=>Ad .u64 (List.getD Sc 3 .top) fun Z1=>Ai (call 88 [.agg [.sc (.int .u64 R7),.sc (.int .u64 Jw),.sc (.int .u64 W0),.sc (.int .u64 Z1)]]) fun X3 BA=>Ac BA<|Ab X3 fun Hz I6=>Ez Hz fun AP=>Ab AP fun AR Y5=>Ad .u64 AR fun GV=>Ab Y5 fun AX Vp=>Ad .u64 AX fun Xs=>Ab Vp fun X7 Yo=>Ad .u64 X7 fun Zn=>Ab Yo fun AL Oh=>Ad .u64 AL fun Qq=>Ac Oh<|Ac I6<|Ai (call 88 [.agg [.sc (.int .u64 GV),.sc (.int .u64 Xs),.sc (.int .u64 Zn),.sc (.int .u64 Qq)]]) fun Sx X1=>Ac X1<|Ab Sx fun AG Lj=>Ez AG fun JJ=>Ab JJ fun Xp Uv=>Ad .u64 Xp fun DE=>Ab Uv fun JA JM=>Ad .u64 JA fun HV=>Ab JM fun EA Zu=>Ad .u64 EA fun DT=>Ab Zu fun HT HG=>Ad .u64 HT fun GJ=>Ac HG<|Ac Lj<|Ao (decide (4<=Sc.length))<|Aa (Bd Sc [.sc (.int .u64 DE),.sc (.int .u64 HV),.sc (.int .u64 DT),.sc (.int .u64 GJ)] 0) fun AE=>Ad .u64 (List.getD AE 0 .top) fun DF=>Aa (Dg .u64 DF y3) fun Vw=>Ao (decide (1<=AE.length))<|Aa (Bd AE [.sc (.int .u64 Vw)] 0) fun Z8=>Aa (wrap .i64 (y2+8)) fun HL=>Es fu call a0 a1 a2n a2 (m0) (y0) (y1) HL Z8)):=by kernel_rfl
theorem Xt {xs:FuncId->Option (List PV->Option Aw)} (fu d:Nat)(a0 a1:Int)(a2n:Nat)(a2:List PV):Ae (CX xs) Tryd.prog fu (d+1) Ot [.sc (.int .u64 a0),.sc (.int .u64 a1),.lst false 1 a2n a2]=(fun (call:Ah)=>Aa (Dg .u64 a0 8317987319222330741) fun x1=>Aa (Dg .u64 a1 7237128888997146477) fun x2=>Aa (Dg .u64 a0 7816392313619706465) fun x3=>Aa (Dg .u64 a1 8387220255154660723) fun x4=>Es fu call a0 a1 a2n a2 (fu) (a2n) (a2) 0 ([.sc (.int .u64 x1),.sc (.int .u64 x2),.sc (.int .u64 x3),.sc (.int .u64 x4)])) (Ae (CX xs) Tryd.prog fu d):=by kernel_rfl
abbrev H5:FuncId:=75
theorem We {xs:FuncId->Option (List PV->Option Aw)} (fu d:Nat)(a0:Int)(a1n:Nat)(a1:List PV):Ae (CX xs) Tryd.prog fu (d+1) H5 [.sc (.int .i64 a0),.lst false 1 a1n a1]=(fun (call:Ah)=>Aa (wrap .u64 a0) fun x1=>Ai (call 85 [.sc (.int .u64 x1),.sc (.int .u64 0),.lst false 1 a1n a1]) fun x2 x3=>Ac x3<|Ab x2 fun x4 x5=>Ad .u64 x4 fun x6=>Ac x5<|some (Aw.mk [.sc (.int .u64 x6)] [])) (Ae (CX xs) Tryd.prog fu d):=by kernel_rfl
abbrev O8:FuncId:=84
theorem Yp {xs:FuncId->Option (List PV->Option Aw)} (fu d:Nat)(a0 a1:Int)(a2n:Nat)(a2:List PV):Ae (CX xs) Tryd.prog fu (d+1) O8 [.sc (.int .u64 a0),.sc (.int .i64 a1),.lst false 1 a2n a2]=(fun (call:Ah)=>Aa (wrap .u64 a1) fun x1=>Aa (wrap .u64 (1+x1)) fun x2=>Ai (call 85 [.sc (.int .u64 a0),.sc (.int .u64 x2),.lst false 1 a2n a2]) fun x3 x4=>Ac x4<|Ab x3 fun x5 x6=>Ad .u64 x5 fun x7=>Ac x6<|some (Aw.mk [.sc (.int .u64 x7)] [])) (Ae (CX xs) Tryd.prog fu d):=by kernel_rfl
abbrev Dj:FuncId:=76
noncomputable def D5 (fu:Nat)(call:Ah)(a0n:Nat)(a0:List PV)(nn y0:Nat)(y1:List PV)(y2:Nat)(y3:Int)(y4:List PV):Option Aw:=Dd CB Tryd.prog fu call 76 Tryd.f76 (B9 Tryd.f76) [.lst false 1 a0n a0] [.r,.r,.l,.r,.l] nn ⟨lk [(0,(.lst false 1 y0 y1)),(3,(.view 3 1 0 y2)),(4,(.sc (.int .i64 y3)))],Bz [(3,(.ar false y4))]⟩
noncomputable def E6 (fu:Nat)(call:Ah)(a0n:Nat)(a0:List PV)(m0 nn y0:Nat)(y1:List PV)(y2:Nat)(y3 y4:Int)(y5:List PV):Option Aw:=Dd CB Tryd.prog fu call 76 Tryd.f76 (B9 Tryd.f76) [.lst false 1 a0n a0] [.r,.r,.l,.r,.l,.i m0,.r,.l,.l,.r,.l] nn ⟨lk [(0,(.lst false 1 y0 y1)),(3,(.view 3 1 0 y2)),(4,(.sc (.int .i64 y3))),(5,(.sc (.int .i64 y4)))],Bz [(3,(.ar false y5))]⟩
theorem Iw (fu:Nat)(call:Ah)(a0n:Nat)(a0:List PV)(nn y0:Nat)(y1:List PV)(y2:Nat)(y3:Int)(y4:List PV):D5 fu call a0n a0 (nn+1) y0 y1 y2 y3 y4=(Bc (decide (y3<(↑y0:Int))) (E6 fu call a0n a0 nn (fu) (y0) (y1) (y2) (y3) 7 (y4)) (Ao (decide (y2*1<=y4.length))<|some (Aw.mk [.own 1 y2 (List.take (y2*1) y4)] []))):=by kernel_rfl
theorem Iu (fu:Nat)(call:Ah)(a0n:Nat)(a0:List PV)(m0 nn y0:Nat)(y1:List PV)(y2:Nat)(y3 y4:Int)(y5:List PV):E6 fu call a0n a0 m0 (nn+1) y0 y1 y2 y3 y4 y5=(Bc (decide (y4>=0)) (Ao (decide (0<=y3)&&decide (y3<(↑y0:Int)))<|Ad .u64 (List.getD y1 (Int.toNat y3*1) .top) fun x1=>Aa (wrap .i64 (8*y4)) fun x2=>Aa (wrap .u64 x2) fun x3=>Ao (decide (0<=x3))<|Aa (F6 .u64 x1 x3) fun x4=>Aa (wrap .u8 x4) fun x5=>Ao (decide (y2*1<=y5.length)&&true&&decide ((y2+1)*1<=1099511627776)&&decide (y2+1<=1099511627776))<|Aa (y2+1) fun x6=>Aa (List.take (y2*1) y5++[.sc (.int .u8 x5)]) fun x7=>Aa (wrap .i64 (y4-1)) fun x8=>E6 fu call a0n a0 m0 (nn) (y0) (y1) x6 (y3) x8 x7) (Aa (wrap .i64 (y3+1)) fun x9=>D5 fu call a0n a0 (m0) (y0) (y1) (y2) x9 (y5))):=by kernel_rfl
theorem Ul {xs:FuncId->Option (List PV->Option Aw)} (fu d a0n:Nat)(a0:List PV):Ae (CX xs) Tryd.prog fu (d+1) Dj [.lst false 1 a0n a0]=(fun (call:Ah)=>D5 fu call a0n a0 (fu) (a0n) (a0) 0 0 ([])) (Ae (CX xs) Tryd.prog fu d):=by kernel_rfl
end
section
open Go.IntKind (wrap)
def rot (x k:Int):Int:=MG .u64 (Gr .u64 x k) (F6 .u64 x (64-k))
structure W4 where
 a:Int
 b:Int
 c:Int
 d:Int
def W4.cells (v:W4):List PV:=[.sc (.int .u64 v.a),.sc (.int .u64 v.b),.sc (.int .u64 v.c),.sc (.int .u64 v.d)]
def An0 (v:W4):W4:=⟨rot (wrap .u64 (v.a+v.b)) 32,Dg .u64 (rot v.b 13) (wrap .u64 (v.a+v.b)),wrap .u64 (v.c+v.d),Dg .u64 (rot v.d 16) (wrap .u64 (v.c+v.d))⟩
def Amk (v:W4):W4:=⟨wrap .u64 (v.a+v.d),Dg .u64 (rot v.b 17) (wrap .u64 (v.c+v.b)),rot (wrap .u64 (v.c+v.b)) 32,Dg .u64 (rot v.d 21) (wrap .u64 (v.a+v.d))⟩
def IY (v:W4):W4:=Amk (An0 v)
def WA:Nat->W4->W4
 |0,v=>v
 |n+1,v=>WA n (IY v)
def Alk (r:W4)(m:Int):W4:=⟨Dg .u64 r.a m,r.b,r.c,r.d⟩
def Pu (v:W4)(m:Int):W4:=Alk (WA 2 ⟨v.a,v.b,v.c,Dg .u64 v.d m⟩) m
def Qb:List Int->Int
 |[]=>0
 |b::r=>b+256*Qb r
def JR:Nat->W4->List Int->W4
 |0,v,_=>v
 |n+1,v,l=>JR n (Pu v (Qb (l.take 8))) (l.drop 8)
def Ajg (k0 k1:Int):W4:=⟨Dg .u64 k0 8317987319222330741,Dg .u64 k1 7237128888997146477,Dg .u64 k0 7816392313619706465,Dg .u64 k1 8387220255154660723⟩
def Abz (v:W4):W4:=WA 4 ⟨v.a,v.b,Dg .u64 v.c 255,v.d⟩
def Ab8 (v:W4):Int:=Dg .u64 (Dg .u64 (Dg .u64 v.a v.b) v.c) v.d
def Lq (l:List Int):Int:=Qb (l.drop (8*(l.length / 8)))+72057594037927936*((l.length:Int) % 256)
def Agw (k0 k1:Int)(l:List Int):Int:=Ab8 (Abz (Pu (JR (l.length / 8) (Ajg k0 k1) l) (Lq l)))
def M8 (dom:Int)(l:List Int):Int:=Agw (wrap .u64 dom) 0 l
def Ahl (key dom:Int)(l:List Int):Int:=Agw key (wrap .u64 (1+wrap .u64 dom)) l
def Ik (l:List Int):Prop:=∀b∈l,0<=b∧b<=255
theorem Q7:∀{l:List Int},Ik l->0<=Qb l∧Qb l<256 ^ l.length
 |[],_=>by simp [Qb]
 |b::r,h=>by
  have h1:=h b (by simp)
  have h2:=Q7 (l:=r) fun x hx=>h x (by simp [hx])
  have h3:(256:Int) ^ (b::r).length=256 ^ r.length*256:=by rw [Le,Int.pow_succ]
  simp only [Qb];omega
theorem Wk:∀(l r:List Int),Qb (l++r)=Qb l+256 ^ l.length*Qb r
 |[],r=>by simp [Qb]
 |b::l,r=>by
  have ih:=Wk l r;simp only [List.cons_append,Qb,Le,Int.pow_succ];rw [ih,Int.mul_add];have:(256:Int)*(256 ^ l.length*Qb r)=256 ^ l.length*256*Qb r:=by rw [←Int.mul_assoc,Int.mul_comm 256]
  omega
theorem NZ {a c:Int}(k b:Nat)(h0:0<=a)(h1:a<((2 ^ k:Nat):Int)) (hc:c=((b*2 ^ k:Nat):Int)) (h:a+c<=18446744073709551615):MG .u64 a c=a+c∧MG .u64 c a=a+c:=by
 obtain ⟨n,rfl⟩:=Int.eq_ofNat_of_zero_le h0;subst hc;have hn:n<2 ^ k:=by omega
 generalize hB:b*2 ^ k=m at h
 have e4:(BitVec.ofInt 64 (n:Int)).toNat=n:=by
  rw [BitVec.toNat_ofInt];omega
 have e5:(BitVec.ofInt 64 (m:Int)).toNat=m:=by
  rw [BitVec.toNat_ofInt];omega
 have e6:m ||| n=m+n:=by
  have:=Nat.shiftLeft_add_eq_or_of_lt hn b;rw [Nat.shiftLeft_eq,hB] at this;exact this.symm
 constructor
 ·show wrap .u64 ((BitVec.ofInt 64 (n:Int) ||| BitVec.ofInt 64 (m:Int)).toNat:Int)=_;rw [BitVec.toNat_or,e4,e5,Nat.or_comm,e6,Dc (by omega) (by omega)]
  omega
 ·show wrap .u64 ((BitVec.ofInt 64 (m:Int) ||| BitVec.ofInt 64 (n:Int)).toNat:Int)=_;rw [BitVec.toNat_or,e4,e5,e6,Dc (by omega) (by omega)]
  omega
theorem ZY {a k:Int}(h0:0<=a)(hk:0<=k)(hk':k<=64)(h:a*((2 ^ k.toNat:Nat):Int)<=18446744073709551615):Gr .u64 a k=a*((2 ^ k.toNat:Nat):Int):=by
 show wrap .u64 (a*2 ^ (min k.toNat IntKind.u64.bits))=_;have e:min k.toNat IntKind.u64.bits=k.toNat:=Nat.min_eq_left (by show k.toNat<=64;omega)
 have e2:(2:Int) ^ k.toNat=((2 ^ k.toNat:Nat):Int):=by simp
 rw [e,e2,Dc (Int.mul_nonneg h0 (Int.natCast_nonneg _)) h]
end
end Go.Proofs.YtdjihiphpgkfmaaDoor.Pv
