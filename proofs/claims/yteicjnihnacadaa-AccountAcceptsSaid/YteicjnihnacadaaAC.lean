/-
  The proof of AccountAccepts, part 3.
-/
import Derived.Test.YteicjnihnacadaaAB
import Derived.StillTail
import Derived.WalkKit
import Derived.ProofKit
import Derived.OpenShut
import Derived.ShutString
import Derived.ChangeOld
import Derived.Below
import Derived.Deep.Slices
import Derived.ChangeSame
import Derived.WideKeyArgs
import Derived.Carry
import Derived.Test.YteicjnihnacadaaRows
set_option linter.unusedSimpArgs false
set_option linter.unusedVariables false
namespace Go.Proofs.Yteicjnihnacadaa.Pv
section
section
variable {R R':Type} {Rel:Option R->Option R'->Prop}
theorem F1 (hn:Rel none none){k:IntKind}{p:PV}{K:Int->Option R}{K':Int->Option R'}(hK:∀n,Rel (K n) (K' n)):Rel (Ad k p K) (Ad k p K'):=by
 unfold Ad;split
 ·split<;>first|exact hK _|exact hn
 ·exact hn
theorem Cs (hn:Rel none none){p:PV}{K:IntKind->Int->Option R}{K':IntKind->Int->Option R'}(hK:∀k n,Rel (K k n) (K' k n)):Rel (Ce p K) (Ce p K'):=by
 unfold Ce;split<;>first|exact hK _ _|exact hn
theorem E1 (hn:Rel none none){p:PV}{K:Bool->Option R}{K':Bool->Option R'}(hK:∀n,Rel (K n) (K' n)):Rel (A0 p K) (A0 p K'):=by
 unfold A0;split<;>first|exact hK _|exact hn
theorem Ee (hn:Rel none none){p:PV}{K:ByteArray->Option R}{K':ByteArray->Option R'}(hK:∀n,Rel (K n) (K' n)):Rel (Fx p K) (Fx p K'):=by
 unfold Fx;split<;>first|exact hK _|exact hn
theorem Dx (hn:Rel none none){es:Nat}{p:PV}{K:Bool->Nat->List PV->Option R}{K':Bool->Nat->List PV->Option R'}(hK:∀z n c,Rel (K z n c) (K' z n c)):Rel (Eu es p K) (Eu es p K'):=by
 unfold Eu;split
 ·rename_i es' _ _;cases Nat.beq es' es
  ·exact hn
  ·exact hK _ _ _
 ·exact hK _ _ _
 ·exact hn
theorem Aap (hn:Rel none none){es:Nat}{p:PV}{K:PV->Option R}{K':PV->Option R'}(hK:∀p,Rel (K p) (K' p)):Rel (fsK es p K) (fsK es p K'):=by
 unfold fsK;split
 ·rename_i es' _ _;cases Nat.beq es' es
  ·exact hn
  ·exact hK _
 ·exact Dx hn fun _ _ _=>hK _
theorem LW (hn:Rel none none){es:Nat}{p:PV}{K:Nat->List PV->Option R}{K':Nat->List PV->Option R'}(hK:∀n c,Rel (K n c) (K' n c)):Rel (Ov es p K) (Ov es p K'):=by
 unfold Ov;split
 ·rename_i es' _ _;cases Nat.beq es' es
  ·exact hn
  ·exact hK _ _
 ·exact hn
theorem An (hn:Rel none none){b:Bool}{K:Option R}{K':Option R'}(hK:b=true->Rel K K'):Rel (Ar b K) (Ar b K'):=by
 cases b
 ·exact hn
 ·exact hK rfl
theorem Vm {b:Bool}{x y:Option R}{x' y':Option R'}(hx:Rel x x')(hy:Rel y y'):Rel (Bu b x y) (Bu b x' y'):=by
 cases b
 ·exact hy
 ·exact hx
theorem Cc (hn:Rel none none){α:Type}{o:Option α}{K:α->Option R}{K':α->Option R'}(hK:∀a,o=some a->Rel (K a) (K' a)):Rel (Db o K) (Db o K'):=by
 cases o
 ·exact hn
 ·exact hK _ rfl
theorem Aw (hn:Rel none none){α:Type}{l:List α}{K:α->List α->Option R}{K':α->List α->Option R'}(hK:∀a r,l=a::r->Rel (K a r) (K' a r)):Rel (Aa l K) (Aa l K'):=by
 cases l
 ·exact hn
 ·exact hK _ _ rfl
theorem Dg (hn:Rel none none){α:Type}{l:List α}{K:Option R}{K':Option R'}(hK:Rel K K'):Rel (Af l K) (Af l K'):=by
 cases l
 ·exact hK
 ·exact hn
theorem G1 (hn:Rel none none){p:PV}{K:List PV->Option R}{K':List PV->Option R'}(hK:∀c,p=.agg c->Rel (K c) (K' c)):Rel (Dv p K) (Dv p K'):=by
 unfold Dv;split
 ·exact hK _ rfl
 ·exact hn
theorem PN (hn:Rel none none){p:PV}{K:List PV->Option R}{K':List PV->Option R'}(hK:∀c,Rel (K c) (K' c)):Rel (Pz p K) (Pz p K'):=by
 unfold Pz;split
 ·exact hK _
 ·exact hn
theorem Zi (hn:Rel none none){r:Option A7}{K:List PV->List (List PV)->Option R} {K':List PV->List (List PV)->Option R'} (hK:∀v o,Rel (K v o) (K' v o)):Rel (Ao r K) (Ao r K'):=by
 unfold Ao;split
 ·exact hK _ _
 ·exact hn
theorem MJ (hn:Rel none none){p:PV}{K:Value->Option R}{K':Value->Option R'}(hK:∀v,Rel (K v) (K' v)):Rel (RT p K) (RT p K'):=by
 unfold RT;split
 ·exact hK _
 ·exact hn
theorem ZG (hn:Rel none none){p:PV}{K:FuncId->Option R}{K':FuncId->Option R'}(hK:∀v,Rel (K v) (K' v)):Rel (fvK p K) (fvK p K'):=by
 unfold fvK;split
 ·rename_i f a b;cases (a.isEmpty&&b.isEmpty)
  ·exact hn
  ·exact hK _
 ·exact hn
theorem Ks (hn:Rel none none){t:CT}{p:PV}{K:PV->Option R}{K':PV->Option R'}(hK:∀p,Rel (K p) (K' p)):Rel (Sz t p K) (Sz t p K'):=by
 unfold Sz;split
 ·exact F1 hn fun _=>hK _
 ·exact E1 hn fun _=>hK _
 ·exact Ee hn fun _=>hK _
 ·exact Dx hn fun _ _ _=>hK _
 ·exact MJ hn fun _=>hK _
theorem ZE (hn:Rel none none){t:CT}{p:PV}{K:PV->Option R}{K':PV->Option R'}(hK:∀p,Rel (K p) (K' p)):Rel (fcK t p K) (fcK t p K'):=by
 unfold fcK;split
 ·exact Aap hn hK
 ·exact Ks hn hK
theorem Lv (hn:Rel none none):∀{ts:List CT}{cells:List PV}{off:Nat}{K:List PV->Option R}{K':List PV->Option R'},(∀c,Rel (K c) (K' c))->Rel (Oo ts cells off K) (Oo ts cells off K')
 |[],_,_,_,_,hK=>hK _
 |_::_,_,_,_,_,hK=>Ks hn fun _=>Lv hn fun _=>hK _
theorem Kb (hn:Rel none none):∀{ts:List CT}{cells:List PV}{off:Nat}{K:List PV->Option R}{K':List PV->Option R'},(∀c,Rel (K c) (K' c))->Rel (Li ts cells off K) (Li ts cells off K')
 |[],_,_,_,_,hK=>hK _
 |_::_,_,_,_,_,hK=>ZE hn fun _=>Kb hn fun _=>hK _
theorem Sg (hn:Rel none none){g:Bool}{cells:List PV}{K:PV->Option R}{K':PV->Option R'}(hK:∀p,Rel (K p) (K' p)):Rel (MX g cells K) (MX g cells K'):=by
 cases g
 ·exact Aw hn fun _ _ _=>Dg hn (hK _)
 ·exact hK _
theorem Aam (hn:Rel none none){P:Program}{t:TypeId}{v:Value}{K:PV->Option R}{K':PV->Option R'}(hK:∀p,A8 p=[]->Rel (K p) (K' p)) (hK':∀c,Rel (K (.agg c)) (K' (.agg c))):Rel (cvK P t v K) (cvK P t v K'):=by
 unfold cvK;split
 ·exact An hn fun _=>Lv hn fun _=>hK' _
 ·split
  ·exact hK _ rfl
  ·exact hn
 ·exact hK _ rfl
theorem UK (hn:Rel none none){op:BinOp}{x y:Int}{K:Bool->Option R}{K':Bool->Option R'}(hK:∀n,Rel (K n) (K' n)):Rel (YV op x y K) (YV op x y K'):=by
 unfold YV;split<;>first|exact hK _|exact hn
theorem IY (hn:Rel none none){op:BinOp}{k:IntKind}{x y:Int}{K:PV->Option R}{K':PV->Option R'}(hK:∀n,Rel (K n) (K' n)):Rel (Ww op k x y K) (Ww op k x y K'):=by
 unfold Ww;split<;>first|exact hK _|exact An hn fun _=>hK _|exact UK hn fun _=>hK _
theorem LB (hn:Rel none none){op:BinOp}{x y:ByteArray}{K:PV->Option R}{K':PV->Option R'}(hK:∀n,Rel (K n) (K' n)):Rel (Wa op x y K) (Wa op x y K'):=by
 unfold Wa;split<;>first|exact hK _|exact An hn fun _=>hK _|exact hn
theorem Za (hn:Rel none none){e:Bool}{p:PV}{K:PV->Option R}{K':PV->Option R'}(hK:∀n,Rel (K n) (K' n)):Rel (W8 e p K) (W8 e p K'):=by
 unfold W8;split<;>first|exact hK _|exact Vm (hK _) (Vm (hK _) (hK _))|exact Vm (hK _) (hK _)|exact hn
theorem GL (hn:Rel none none):∀{ts:List CT}{ps qs:List PV}{K:Bool->Option R}{K':Bool->Option R'},(∀b,Rel (K b) (K' b))->Rel (Io ts ps qs K) (Io ts ps qs K'):=by
 intro ts
 induction ts with
 |nil=>
  intro ps qs K K' hK;cases ps<;>cases qs<;>first|exact hK _|exact hn
 |cons t ts ih=>
  intro ps qs K K' hK;cases ps with
  |nil=>cases t<;>cases qs<;>exact hn
  |cons p ps=>
   cases qs with
   |nil=>cases t<;>exact hn
   |cons q qs=>
    cases t
    ·exact F1 hn fun _=>F1 hn fun _=>ih fun _=>hK _
    ·exact E1 hn fun _=>E1 hn fun _=>ih fun _=>hK _
    ·exact Ee hn fun _=>Ee hn fun _=>ih fun _=>hK _
    ·exact hn
    ·exact hn
theorem WX (hn:Rel none none){P:Program}{op:BinOp}{t:TypeId}{x y:PV}{K:PV->Option R}{K':PV->Option R'}(hK:∀p,Rel (K p) (K' p)):Rel (TP P op t x y K) (TP P op t x y K'):=by
 unfold TP;split
 ·split
  ·exact F1 hn fun _=>Cs hn fun _ _=>An hn fun _=>hK _
  ·exact F1 hn fun _=>Cs hn fun _ _=>An hn fun _=>hK _
  ·exact F1 hn fun _=>F1 hn fun _=>IY hn hK
 ·exact Ee hn fun _=>Ee hn fun _=>LB hn hK
 ·split
  ·exact E1 hn fun _=>E1 hn fun _=>hK _
  ·exact E1 hn fun _=>E1 hn fun _=>hK _
  ·exact hn
 ·split
  ·exact Za hn fun _=>hK _
  ·exact Za hn fun _=>hK _
  ·exact hn
 ·exact hn
theorem GS (hn:Rel none none){P:Program}{op:BinOp}{t:TypeId}{x y:PV}{K:PV->Option R}{K':PV->Option R'}(hK:∀p,Rel (K p) (K' p)):Rel (O2 P op t x y K) (O2 P op t x y K'):=by
 unfold O2;split
 ·split
  ·exact An hn fun _=>G1 hn fun _ _=>G1 hn fun _ _=>GL hn fun _=>hK _
  ·exact An hn fun _=>G1 hn fun _ _=>G1 hn fun _ _=>GL hn fun _=>hK _
  ·exact hn
 ·exact WX hn hK
theorem Ab3 (hn:Rel none none){op:UnOp}{x:PV}{K:PV->Option R}{K':PV->Option R'}(hK:∀p,Rel (K p) (K' p)):Rel (unK op x K) (unK op x K'):=by
 unfold unK;split<;>first|exact E1 hn fun _=>hK _|exact Cs hn fun _ _=>hK _|exact hn
theorem Ck (hn:Rel none none){p:Option PV}{d:Nat}{K:Nat->Option R}{K':Nat->Option R'}(hK:∀n,Rel (K n) (K' n)):Rel (E3 p d K) (E3 p d K'):=by
 unfold E3;split
 ·exact hK _
 ·exact Cs hn fun _ _=>An hn fun _=>hK _
theorem S3 (hn:Rel none none){x:PV}{d:Nat}{K:PV->Option R}{K':PV->Option R'}(hK:∀n,Rel (K n) (K' n)):Rel (N3 x d K) (N3 x d K'):=by
 unfold N3;split<;>first|exact hK _|exact hn
theorem Wt (hn:Rel none none){P:Program}{t:TypeId}{x:PV}{i:Int}{K:PV->Option R}{K':PV->Option R'}(hK:∀p,Rel (K p) (K' p)):Rel (Hz P t x i K) (Hz P t x i K'):=by
 unfold Hz;split
 ·exact An hn fun _=>An hn fun _=>S3 hn hK
 ·refine An hn fun _=>?_
  split
  ·exact An hn fun _=>An hn fun _=>hK _
  ·exact Dx hn fun _ _ _=>An hn fun _=>hK _
 ·exact hn
theorem S8 (hn:Rel none none){E0:Nat->Option (Nat × Nat)}:∀{ps:List (Nat × PV)} {cells:List PV}{K:List PV->Option R}{K':List PV->Option R'},(∀c,Rel (K c) (K' c))->Rel (Ot E0 ps cells K) (Ot E0 ps cells K')
 |[],_,_,_,hK=>hK _
 |(_,_)::_,_,_,_,hK=>Cc hn fun _ _=>An hn fun _=>S8 hn hK
theorem N9 (hn:Rel none none){P:Program}{t:TypeId}{K:List PV->Option R}{K':List PV->Option R'}(hK:∀p,Rel (K p) (K' p)):Rel (Fb P t K) (Fb P t K'):=
 Cc hn fun _ _=>An hn fun _=>Lv hn hK
theorem SQ (hn:Rel none none){x y:PV}{K:PV->Option R}{K':PV->Option R'}(hK:∀p,Rel (K p) (K' p)):Rel (Aa2 x y K) (Aa2 x y K'):=
 Cs hn fun _ _=>F1 hn fun _=>hK _
theorem TF (hn:Rel none none){x y:PV}{K:PV->Option R}{K':PV->Option R'}(hK:∀p,Rel (K p) (K' p)):Rel (YC x y K) (YC x y K'):=
 Cs hn fun _ _=>F1 hn fun _=>hK _
theorem VM (hn:Rel none none){P:Program}{t:TypeId}{x:PV}{K:Nat->Option R}{K':Nat->Option R'}(hK:∀p,Rel (K p) (K' p)):Rel (PE P t x K) (PE P t x K'):=by
 unfold PE;split
 ·exact Ee hn fun _=>hK _
 ·exact hK _
 ·split
  ·exact An hn fun _=>hK _
  ·exact Dx hn fun _ _ _=>hK _
 ·exact hn
def DC (Rel:Option R->Option R'->Prop)(f f':Nat->Option (List PV)) (l:List Nat):Prop:=∀i∈l,f i=f' i∨(f i=none∧∀b,Rel none b)
variable {f f':Nat->Option (List PV)}
theorem DC.sub {l l':List Nat}(h:DC Rel f f' l)(hs:∀i∈l',i∈l):DC Rel f f' l':=fun i hi=>h i (hs i hi)
theorem Ry (hn:Rel none none){l:List Nat}{id:Nat}(hf:DC Rel f f' l)(hi:id∈l){K:List PV->Option R}{K':List PV->Option R'}(hK:∀c,f id=some c->Rel (K c) (K' c)):Rel (Db (f id) K) (Db (f' id) K'):=by
 rcases hf id hi with h|⟨h,hb⟩
 ·rw[←h];exact Cc hn hK
 ·rw[h];exact hb _
theorem Ri (hn:Rel none none){es:Nat}{p:PV}{K:Nat->List PV->Option R}{K':Nat->List PV->Option R'}(hf:DC Rel f f' (Ak p)) (hK:∀n c,Rel (K n c) (K' n c)):Rel (KV f es p K) (KV f' es p K'):=by
 unfold KV;split
 ·rename_i id es' off n;cases Nat.beq es' es
  ·exact hn
  ·exact Ry hn hf (by simp[Ak]) fun _ _=>An hn fun _=>hK _ _
 ·exact Dx hn fun _ _ _=>hK _ _
theorem XG (hn:Rel none none){t:CT}{p:PV}{K:PV->List Nat->Option R}{K':PV->List Nat->Option R'}(hf:DC Rel f f' (Ak p)) (hK:∀c m,(∀i∈m,f i≠none)->Rel (K c m) (K' c m)):Rel (Kn f t p K) (Kn f' t p K'):=by
 unfold Kn;split
 ·split
  ·rename_i id es' off n;cases Nat.beq es' _
   ·exact hn
   ·exact Ry hn hf (by simp[Ak]) fun c hc=>An hn fun _=>hK _ _ (by simp[hc])
  ·exact Dx hn fun _ _ _=>hK _ _ (by simp)
 ·exact Ks hn fun _=>hK _ _ (by simp)
theorem Pb (hn:Rel none none):∀{ts:List CT}{ps:List PV}{K:List PV->List Nat->Option R}{K':List PV->List Nat->Option R'},DC Rel f f' (ps.flatMap Ak)->(∀c m,(∀i∈m,f i≠none)->Rel (K c m) (K' c m))->Rel (J2 f ts ps K) (J2 f' ts ps K')
 |[],[],_,_,_,hK=>hK _ _ (by simp)
 |[],_::_,_,_,_,_=>hn
 |_::_,[],_,_,_,_=>hn
 |_::_,p::ps,_,_,hf,hK=>XG hn (fun i hi=>hf i (by simp only[List.flatMap_cons,List.mem_append];exact .inl hi)) fun _ m hm=>Pb hn (fun i hi=>hf i (by simp only[List.flatMap_cons,List.mem_append];exact .inr hi)) fun _ ms Wm=>hK _ _ fun i hi=>by
   rcases List.mem_append.1 hi with h|h
   ·exact hm i h
   ·exact Wm i h
theorem VH (hn:Rel none none){P:Program}{t:TypeId}{p:PV}{K:PV->List Nat->Option R}{K':PV->List Nat->Option R'}(hf:DC Rel f f' (Bh p)) (hK:∀c m,(∀i∈m,f i≠none)->Rel (K c m) (K' c m)):Rel (KA P f t p K) (KA P f' t p K'):=by
 unfold KA
 have h1:∀i,i∈[p].flatMap Ak->i∈Bh p:=by
  intro i hi;simp only[List.flatMap_cons,List.flatMap_nil,List.append_nil] at hi;cases p<;>first|exact hi|simp[Ak] at hi
 cases Ba P t
 ·exact Pb hn (fun i hi=>hf i (h1 i hi)) fun _ _ hm=>Aw hn fun _ _ _=>Dg hn (hK _ _ hm)
 ·refine G1 hn fun c hc=>?_
  subst hc;exact Pb hn (fun i hi=>hf i hi) fun _ _ hm=>hK _ _ hm
theorem Y5 (hn:Rel none none){P:Program}:∀{ts:List TypeId}{ps:List PV}{K:List PV->List Nat->Option R}{K':List PV->List Nat->Option R'},DC Rel f f' (ps.flatMap Bh)->(∀c m,(∀i∈m,f i≠none)->Rel (K c m) (K' c m))->Rel (Xr P f ts ps K) (Xr P f' ts ps K')
 |[],[],_,_,_,hK=>hK _ _ (by simp)
 |[],_::_,_,_,_,_=>hn
 |_::_,[],_,_,_,_=>hn
 |_::_,p::ps,_,_,hf,hK=>VH hn (fun i hi=>hf i (by simp only[List.flatMap_cons,List.mem_append];exact .inl hi)) fun _ m hm=>Y5 hn (fun i hi=>hf i (by simp only[List.flatMap_cons,List.mem_append];exact .inr hi)) fun _ ms Wm=>hK _ _ fun i hi=>by
   rcases List.mem_append.1 hi with h|h
   ·exact hm i h
   ·exact Wm i h
theorem ID (hn:Rel none none){P:Program}{t:TypeId}{x:PV}{lo hi:Option PV}{K:PV->Option R}{K':PV->Option R'}(hf:(∃n e,P.underlying t=some (.array n e))->DC Rel f f' (Ak x)) (hK:∀c,Rel (K c) (K' c)):Rel (Td P f t x lo hi K) (Td P f' t x lo hi K'):=by
 unfold Td;split
 ·exact Ee hn fun _=>Ck hn fun _=>Ck hn fun _=>An hn fun _=>hK _
 ·refine An hn fun _=>?_
  split
  ·exact An hn fun _=>Ck hn fun _=>Ck hn fun _=>An hn fun _=>hK _
  ·exact Dx hn fun _ _ _=>Ck hn fun _=>Ck hn fun _=>An hn fun _=>hK _
 ·rename_i n e hu;refine An hn fun _=>?_
  split
  ·rename_i id off;exact Ry hn (hf ⟨_,_,hu⟩) (by simp[Ak]) fun _ _=>An hn fun _=>Ck hn fun _=>Ck hn fun _=>An hn fun _=>hK _
  ·exact hn
 ·exact hn
theorem GF (hn:Rel none none){P:Program}{d:Nat}{t:TypeId}{x:PV}{lo hi mx:Option PV}{K:PV->List (Nat × A2)->Option R} {K':PV->List (Nat × A2)->Option R'} (hK:∀c,Rel (K c [(d,.ar false [])]) (K' c [(d,.ar false [])])):Rel (O1 P d t x lo hi mx K) (O1 P d t x lo hi mx K'):=by
 unfold O1;split
 ·refine An hn fun _=>?_
  split
  ·exact An hn fun _=>Ck hn fun _=>Ck hn fun _=>Ck hn fun _=>An hn fun _=>hK _
  ·exact Dx hn fun _ _ _=>Ck hn fun _=>Ck hn fun _=>Ck hn fun _=>An hn fun _=>hK _
 ·exact hn
theorem Zg {nz:Bool}{g g':Nat->Option (List PV)} (hn:Rel none none){P:Program}{t:TypeId}{x:PV}{K:PV->Option R}{K':PV->Option R'}(hf:∀i∈Ak x,(f i=f' i∧g i=g' i)∨(f i=none∧g i=none∧∀b,Rel none b)) (hK:∀c,Rel (K c) (K' c)):Rel (Sn nz P f g t x K) (Sn nz P f' g' t x K'):=by
 unfold Sn;split
 ·rename_i id off;refine An hn fun _=>?_
  rcases hf id (by simp[Ak]) with⟨h1,h2⟩|⟨h1,h2,h3⟩
  ·rw[←h1,←h2];split
   ·exact Lv hn fun _=>Sg hn fun _=>hK _
   ·exact Cc hn fun _ _=>Kb hn fun _=>Sg hn hK
  ·rw[h1,h2];exact h3 _
 ·exact An hn fun _=>Lv hn fun _=>Sg hn fun _=>hK _
 ·exact hn
theorem QI (hn:Rel none none){P:Program}{d:Nat}{src dst:TypeId}{x:PV}{K:PV->List (Nat × A2)->Option R} {K':PV->List (Nat × A2)->Option R'} (hf:P.underlying dst=some .string->DC Rel f f' (Ak x)) (hK:∀v b,(∀q∈b,q.1=d)->Rel (K v b) (K' v b)):Rel (W9 P f d src dst x K) (W9 P f' d src dst x K'):=by
 unfold W9;split
 ·exact An hn fun _=>Cs hn fun _ _=>hK _ _ (by simp)
 ·rename_i hds;split
  ·exact Ee hn fun _=>hK _ _ (by simp)
  ·split
   ·exact Ri hn (hf hds) fun _ _=>An hn fun _=>Cc hn fun _ _=>hK _ _ (by simp)
   ·exact hn
  ·exact hn
 ·split
  ·exact Ee hn fun _=>An hn fun _=>hK _ _ (by simp)
  ·exact hn
 ·exact hn
theorem SF (hn:Rel none none){shr:Bool}{id:Nat}{t:CT}{p:PV}{K:PV->List (Nat × A2)->Option R} {K':PV->List (Nat × A2)->Option R'} (hK:∀c b,(∀q∈b,q.1=id)->Rel (K c b) (K' c b)):Rel (TZ shr id t p K) (TZ shr id t p K'):=by
 unfold TZ;split
 ·cases shr
  ·exact LW hn fun _ _=>hK _ _ (by simp)
  ·exact Dx hn fun _ _ _=>hK _ _ (by simp)
 ·exact Ks hn fun _=>hK _ _ (by simp)
theorem Pa (hn:Rel none none){shr:Bool}{N:Nat}:∀{ts:List CT}{id:Nat}{ps:List PV}{K:List PV->List (Nat × A2)->Option R} {K':List PV->List (Nat × A2)->Option R'},(∀c b,(∀q∈b,∃j,q.1=id+N*j)->Rel (K c b) (K' c b))->Rel (L6 shr N id ts ps K) (L6 shr N id ts ps K')
 |[],_,_,_,_,hK=>Dg hn (hK _ _ (by simp))
 |_::_,id,_,_,_,hK=>Aw hn fun _ _ _=>SF hn fun _ b hb=>Pa hn fun _ bs Yb=>hK _ _ fun q hq=>by
   rcases List.mem_append.1 hq with h|h
   ·exact⟨0,by rw[hb q h];simp⟩
   ·obtain⟨j,hj⟩:=Yb q h;exact⟨j+1,by rw[hj,Nat.mul_add];omega⟩
theorem UP (hn:Rel none none){P:Program}{shr:Bool}{N id:Nat}{t:TypeId}{p:PV}{K:PV->List (Nat × A2)->Option R} {K':PV->List (Nat × A2)->Option R'} (hK:∀c b,(∀q∈b,∃j,q.1=id+N*j)->Rel (K c b) (K' c b)):Rel (QB P shr N id t p K) (QB P shr N id t p K'):=by
 unfold QB;split
 ·refine PN hn fun ps=>Pa hn fun _ _ hb=>hK _ _ fun q hq=>?_
  rcases List.mem_cons.1 hq with rfl|hq
  ·exact⟨0,by simp⟩
  ·obtain⟨j,hj⟩:=hb q hq;exact⟨j+1,by rw[hj,Nat.mul_add];omega⟩
 cases Ba P t
 ·exact Pa hn fun _ _ hb=>Aw hn fun _ _ _=>Dg hn (hK _ _ hb)
 ·exact G1 hn fun _ _=>Pa hn fun _ _ hb=>hK _ _ hb
theorem S6 (hn:Rel none none){P:Program}{shr:Bool}{N:Nat}:∀{ts:List TypeId}{id:Nat}{ps:List PV}{K:List PV->List (Nat × A2)->Option R} {K':List PV->List (Nat × A2)->Option R'},(∀c b,(∀q∈b,∃j,q.1=id+N*j)->Rel (K c b) (K' c b))->Rel (Us P shr N id ts ps K) (Us P shr N id ts ps K')
 |[],_,_,_,_,hK=>Dg hn (hK _ _ (by simp))
 |t::_,id,_,_,_,hK=>Aw hn fun _ _ _=>UP hn fun _ b hb=>S6 hn fun _ bs Yb=>hK _ _ fun q hq=>by
   rcases List.mem_append.1 hq with h|h
   ·exact hb q h
   ·obtain⟨j,hj⟩:=Yb q h;exact⟨FR P t+j,by rw[hj,Nat.mul_add];omega⟩
end
theorem Nv {p:PV}{i:Nat}(h:i∈Ak p):i∈Bh p:=by cases p<;>first|exact h|simp[Ak] at h
theorem D3 {p:PV}{i:Nat}(h:i∈Bh p):i∈A8 p:=by cases p<;>first|exact h|simp[Bh,Ak] at h
theorem Hy {p:PV}{i:Nat}(h:i∈Ak p):i∈A8 p:=D3 (Nv h)
section
variable {R R':Type} {Rel:Option R->Option R'->Prop} {P:Program} {N:Nat} {tm tm':Nat->PV} {f f' g g':Nat->Option (List PV)} {o:Oper}
theorem Wu (hn:Rel none none){t:TypeId}{x:Operand}{K:PV->Option R}{K':PV->Option R'}(hx:Bb tm x=Bb tm' x)(hK:∀p,Rel (K p) (K' p)):Rel (Ta P t tm x K) (Ta P t tm' x K'):=by
 unfold Ta;split
 ·exact Aam hn (fun _ _=>hK _) (fun _=>hK _)
 ·rw[hx];exact hK _
theorem VQ (hn:Rel none none){t:CT}{p:PV}{K:PV->Option R}{K':PV->Option R'}(hK:∀p,Ak p=[]->Rel (K p) (K' p)):Rel (Sz t p K) (Sz t p K'):=by
 unfold Sz;split
 ·exact F1 hn fun _=>hK _ rfl
 ·exact E1 hn fun _=>hK _ rfl
 ·exact Ee hn fun _=>hK _ rfl
 ·exact Dx hn fun _ _ _=>hK _ rfl
 ·exact MJ hn fun _=>hK _ rfl
theorem Z2 (hn:Rel none none):∀{ts:List CT}{cells:List PV}{off:Nat}{K:List PV->Option R}{K':List PV->Option R'},(∀c,(∀p∈c,Ak p=[])->Rel (K c) (K' c))->Rel (Oo ts cells off K) (Oo ts cells off K')
 |[],_,_,_,_,hK=>hK _ (by simp)
 |_::_,_,_,_,_,hK=>VQ hn fun c hc=>Z2 hn fun cs P6=>hK _ (by
   intro p hp;rcases List.mem_cons.1 hp with h|h
   ·rw[h];exact hc
   ·exact P6 p h)
theorem Rp (hn:Rel none none){t:TypeId}{K:List PV->Option R}{K':List PV->Option R'}(hK:∀c,(∀p∈c,Ak p=[])->Rel (K c) (K' c)):Rel (Fb P t K) (Fb P t K'):=
 Cc hn fun _ _=>An hn fun _=>Z2 hn hK
theorem Oq {p c:PV}(h:c∈cellsOf p){i:Nat}(hi:i∈Ak c):i∈Bh p:=by
 unfold cellsOf at h;split at h
 ·exact List.mem_flatMap.2 ⟨c,h,hi⟩
 ·simp at h;subst h;exact Nv hi
theorem IU {cells new:List PV}{off:Nat}{c:PV}(h:c∈A4 cells new off):c∈cells∨c∈new:=by
 unfold A4 at h;rcases List.mem_append.1 h with h|h
 ·rcases List.mem_append.1 h with h|h
  ·exact .inl (List.mem_of_mem_take h)
  ·exact .inr h
 ·exact .inl (List.mem_of_mem_drop h)
theorem Xo (hn:Rel none none){E0:Nat->Option (Nat × Nat)} {S:Nat->Prop}:∀{ps:List (Nat × PV)} {cells:List PV}{K:List PV->Option R}{K':List PV->Option R'},(∀c∈cells,∀i∈Ak c,S i)->(∀q∈ps,∀i∈Bh q.2,S i) ->
  (∀cs,(∀c∈cs,∀i∈Ak c,S i)->Rel (K cs) (K' cs))->Rel (Ot E0 ps cells K) (Ot E0 ps cells K')
 |[],_,_,_,h1,_,hK=>hK _ h1
 |(_,p)::_,_,_,_,h1,h2,hK=>Cc hn fun _ _=>An hn fun _=>Xo hn (fun c hc i hi=>by
   rcases IU hc with h|h
   ·exact h1 c h i hi
   ·exact h2 (_,p) List.mem_cons_self i (Oq h hi)) (fun q hq=>h2 q (List.mem_cons_of_mem _ hq)) hK
theorem Up (hn:Rel none none):∀{ts:List CT}{ps:List PV}{K:List PV->List Nat->Option R}{K':List PV->List Nat->Option R'},(∀t∈ts,∀es,t ≠ .sl es)->(∀c,Rel (K c []) (K' c []))->Rel (J2 g ts ps K) (J2 g' ts ps K')
 |[],[],_,_,_,hK=>hK _
 |[],_::_,_,_,_,_=>hn
 |_::_,[],_,_,_,_=>hn
 |t::ts,p::ps,K,K',ht,hK=>by
  show Rel (Kn g t p _) (Kn g' t p _)
  have:∀{g:Nat->Option (List PV)} {S:Type} {L:PV->List Nat->Option S},Kn g t p L=Sz t p fun c=>L c []:=by
   intro g S L;cases t with
   |sl es=>exact absurd rfl (ht _ (by simp) es)
   |_=>rfl
  rw[this,this];exact Ks hn fun c=>Up hn (fun t h=>ht t (by simp[h])) fun cs=>hK _
theorem SR (hn:Rel none none){es:Nat}{t:TypeId}{x:PV}{K:Nat->List PV->Option R}{K':Nat->List PV->Option R'}(hx:DC Rel g g' (Ak x)) (hK:∀m c,Rel (K m c) (K' m c)):Rel (JZ P g es t x K) (JZ P g' es t x K'):=by
 unfold JZ;split
 ·exact An hn fun _=>Ee hn fun _=>hK _ _
 ·exact Ri hn hx hK
 ·exact hn
theorem SV (hn:Rel none none){t:TypeId}{x:PV}{K:Nat->Option R}{K':Nat->Option R'}(hK:∀n,Rel (K n) (K' n)):Rel (OO P t x K) (OO P t x K'):=by
 unfold OO;split
 ·exact Dx hn fun _ _ _=>An hn fun _=>hK _
 ·exact hn
theorem FN (hn:Rel none none){d:Nat}{t tx:TypeId}{x:PV}{K:PV->List (Nat × A2)->Option R} {K':PV->List (Nat × A2)->Option R'} (hx:DC Rel g g' (Ak x)) (hK:∀v nw,Rel (K v nw) (K' v nw)):Rel (O7 P g d t tx x K) (O7 P g' d t tx x K'):=by
 unfold O7;split
 ·exact An hn fun _=>SR hn hx fun _ _=>An hn fun _=>hK _ _
 ·exact hn
theorem Wi (hn:Rel none none){C:Fd}{call:Aj}{K:PV->List Nat->List (Nat × A2)->Option R} {K':PV->List Nat->List (Nat × A2)->Option R'}
  (Ho:∀x∈o.op.operands.toList,Bb tm x=Bb tm' x)
  (hfg:Fm P o.op=true->∀x∈o.op.operands.toList,∀i∈A8 (Bb tm' x),(f i=f' i∧g i=g' i)∨(f i=none∧g i=none∧∀b,Rel none b))
  (hK:∀v fz nw,(Fm P o.op=false->fz=[]∧∀q∈nw,o.dst=some q.1)->(∀i∈fz,g i≠none)->Rel (K v fz nw) (K' v fz nw)):
  Rel (Wx C P N call tm f g o K) (Wx C P N call tm' f' g' o K'):=by
 have h0:∀v,Rel (K v [] []) (K' v [] []):=fun v=>hK v [] [] (fun _=>⟨rfl,by simp⟩) (by simp)
 have hf:Fm P o.op=true->∀x∈o.op.operands.toList,DC Rel f f' (A8 (Bb tm' x)):=fun h x hx i hi=>(hfg h x hx i hi).imp (·.1) fun h=>⟨h.1,h.2.2⟩
 have hg:Fm P o.op=true->∀x∈o.op.operands.toList,DC Rel g g' (A8 (Bb tm' x)):=fun h x hx i hi=>(hfg h x hx i hi).imp (·.2) fun h=>⟨h.2.1,h.2.2⟩
 unfold Wx;generalize RH:o.op=op at *
 split
 ·exact Wu hn (Ho _ (by simp[Op.operands])) h0
 ·exact Wu hn (Ho _ (by simp[Op.operands])) h0
 ·rename_i c x y;rw[Ho c (by simp[Op.operands]),Ho x (by simp[Op.operands]),Ho y (by simp[Op.operands])]
  exact E1 hn fun _=>Vm (h0 _) (h0 _)
 ·exact Cc hn fun d hd=>N9 hn fun _=>hK _ _ _ (fun _=>⟨rfl,by simp[hd]⟩) (by simp)
 ·rename_i t x;rw[Ho x (by simp[Op.operands])]
  refine Cc hn fun d hd=>An hn fun _=>?_
  cases Ok P t
  ·exact Kb hn fun _=>hK _ _ _ (fun _=>⟨rfl,by simp[hd]⟩) (by simp)
  ·exact Lv hn fun _=>hK _ _ _ (fun _=>⟨rfl,by simp[hd]⟩) (by simp)
 ·rename_i t ps
  have:(ps.toList.map fun q=>(q.1,Bb tm q.2))=ps.toList.map fun q=>(q.1,Bb tm' q.2):=by
   apply List.map_congr_left;intro q hq;rw[Ho q.2 (by simp only[Op.operands];exact List.mem_map_of_mem hq)]
  rw[this];exact An hn fun _=>N9 hn fun _=>S8 hn fun _=>Kb hn fun _=>h0 _
 ·rename_i t n ps
  have:(ps.toList.map fun q=>(q.1,Bb tm q.2))=ps.toList.map fun q=>(q.1,Bb tm' q.2):=by
   apply List.map_congr_left;intro q hq;rw[Ho q.2 (by simp only[Op.operands];exact List.mem_map_of_mem hq)]
  rw[this];refine Cc hn fun d hd=>?_
  split
  ·rename_i e hu;cases HE:Gx P [e]
   ·refine An hn fun _=>Rp hn fun z hz=>S8 hn fun cs=>Up hn ?_ fun cs'=>hK _ _ _ (fun _=>⟨rfl,by simp[hd]⟩) (by simp)
    intro c hc es he;obtain⟨l,hl,hc⟩:=List.mem_flatten.1 hc;rw[List.eq_of_mem_replicate hl] at hc;subst he
    have:Gx P [e]=true:=by
     unfold Gx;simp only[List.any_cons,List.any_nil,Bool.or_false,Bool.or_eq_true];exact .inr (List.any_eq_true.2 ⟨_,hc,rfl⟩)
    rw[this] at HE;cases HE
   refine An hn fun _=>Rp hn fun z hz=>Xo (S:=fun i=>∃x∈(Op.buildSlice t n ps).operands.toList,i∈A8 (Bb tm' x)) hn ?_ ?_ fun cs P6=>?_
   ·intro c hc i hi;obtain⟨l,hl,hc⟩:=List.mem_flatten.1 hc;rw[List.eq_of_mem_replicate hl] at hc;rw[hz c hc] at hi;simp at hi
   ·intro q hq i hi;obtain⟨q',D5,rfl⟩:=List.mem_map.1 hq;exact⟨q'.2,by simp only[Op.operands];exact List.mem_map_of_mem D5,D3 hi⟩
   ·refine Pb hn (fun i hi=>?_) fun cs' m hm=>hK _ _ _ (fun h=>by simp[Fm,hu,HE] at h) hm
    obtain⟨c,hc,hi⟩:=List.mem_flatMap.1 hi;obtain⟨x,hx,hxi⟩:=P6 c hc i hi;exact hg (by simp[Fm,hu,HE]) x hx i hxi
  ·exact hn
 ·rename_i t x;rw[Ho x (by simp[Op.operands])]
  exact Zg hn (fun i hi=>hfg (by simp[Fm]) x (by simp[Op.operands]) i (Hy hi)) h0
 ·rename_i x;rw[Ho x (by simp[Op.operands])]
  exact S3 hn h0
 ·rename_i op' t x y _;rw[Ho x (by simp[Op.operands]),Ho y (by simp[Op.operands])]
  exact GS hn h0
 ·rename_i op' t x;rw[Ho x (by simp[Op.operands])]
  exact Ab3 hn h0
 ·rename_i src dst x;rw[Ho x (by simp[Op.operands])]
  exact QI hn (fun hds i hi=>hg (by simp[Fm,hds]) x (by simp[Op.operands]) i (Hy hi)) fun v b hb=>Cc hn fun d hd=>hK _ _ _ (fun _=>⟨rfl,fun q hq=>by rw[hd,hb q hq,hd];rfl⟩) (by simp)
 ·rename_i t x y;rw[Ho x (by simp[Op.operands]),Ho y (by simp[Op.operands])]
  refine Cc hn fun d hd=>?_
  split
  ·exact Cs hn fun _ _=>Cs hn fun _ _=>An hn fun _=>N9 hn fun _=>hK _ _ _ (fun _=>⟨rfl,by simp[hd]⟩) (by simp)
  ·exact hn
 ·rename_i t x lo hi mx;split
  ·rw[Ho x (by simp[Op.operands])]
   have h1:lo.map (Bb tm)=lo.map (Bb tm'):=by
    cases lo with
    |none=>rfl
    |some y=>simp only[Option.map_some];rw[Ho y (by simp[Op.operands])]
   have h2:hi.map (Bb tm)=hi.map (Bb tm'):=by
    cases hi with
    |none=>rfl
    |some y=>simp only[Option.map_some];rw[Ho y (by simp[Op.operands])]
   rw[h1,h2];exact ID hn (fun ⟨n,e,he⟩ i hi=>hf (by simp[Fm,he]) x (by simp[Op.operands]) i (Hy hi)) h0
  ·rename_i m;rw[Ho x (by simp[Op.operands])]
   have h1:lo.map (Bb tm)=lo.map (Bb tm'):=by
    cases lo with
    |none=>rfl
    |some y=>simp only[Option.map_some];rw[Ho y (by simp[Op.operands])]
   have h2:hi.map (Bb tm)=hi.map (Bb tm'):=by
    cases hi with
    |none=>rfl
    |some y=>simp only[Option.map_some];rw[Ho y (by simp[Op.operands])]
   rw[h1,h2,Ho m (by simp[Op.operands])]
   exact Cc hn fun d hd=>GF hn fun c=>hK _ _ _ (fun _=>⟨rfl,by simp[hd]⟩) (by simp)
 ·rename_i t x fl;rw[Ho x (by simp[Op.operands])]
  exact Cc hn fun _ _=>An hn fun _=>S3 hn h0
 ·rename_i t x fl;rw[Ho x (by simp[Op.operands])]
  exact Cc hn fun _ _=>An hn fun _=>G1 hn fun _ _=>Kb hn fun _=>Sg hn h0
 ·rename_i t x i;rw[Ho x (by simp[Op.operands]),Ho i (by simp[Op.operands])]
  exact Cs hn fun _ _=>Wt hn h0
 ·rename_i t x i;rw[Ho x (by simp[Op.operands]),Ho i (by simp[Op.operands])]
  refine Cs hn fun _ _=>?_
  split
  ·exact Ee hn fun _=>An hn fun _=>Cc hn fun _ _=>h0 _
  ·exact G1 hn fun _ _=>An hn fun _=>Kb hn fun _=>Sg hn h0
  ·exact hn
 ·rename_i x i;rw[Ho x (by simp[Op.operands])]
  split
  ·exact Cc hn fun _ _=>h0 _
  ·exact hn
 ·rename_i c
  have H5:∀x∈c.args.toList,x∈(Op.call c).operands.toList:=by
   intro x hx;simp only[Op.operands,Call.operands,Array.toList_append,List.mem_append];exact .inr hx
  have rc:∀fn,Fm P (.call c)=true->Rel (Wq C P N call tm g o c fn K) (Wq C P N call tm' g' o c fn K'):=by
   intro fn RS;unfold Wq;have:c.args.toList.map (Bb tm)=c.args.toList.map (Bb tm'):=List.map_congr_left fun x hx=>Ho x (H5 x hx)
   rw[this];refine Y5 hn (fun i hi=>?_) fun vs m hm=>Zi hn fun rv ro=>Dg hn (An hn fun _=>S6 hn fun ws bs Yb=>An hn fun _=>hK _ _ _ (fun h=>by rw[RS] at h;cases h) (fun i hi=>?_))
   ·obtain⟨p,hp,hi⟩:=List.mem_flatMap.1 hi;obtain⟨x,hx,rfl⟩:=List.mem_map.1 hp;exact hg RS x (H5 x hx) i (D3 hi)
   ·have X9:i∈m:=by
     cases hq:Gx P (J3 P o.type)<;>rw[hq] at hi
     ·simp at hi
     ·exact hi
    exact hm i X9
  split
  ·refine Aw hn fun x _ hx=>Aw hn fun _ _ _=>?_
   rw[Ho x (H5 x (by rw[hx];simp))]
   exact VM hn fun _=>h0 _
  ·refine Aw hn fun x _ hx=>Aw hn fun _ _ _=>?_
   rw[Ho x (H5 x (by rw[hx];simp))]
   exact SV hn fun _=>h0 _
  ·refine Aw hn fun x _ hx=>Aw hn fun y _ hy=>Dg hn ?_
   subst hy;rw[Ho x (H5 x (by rw[hx];simp)),Ho y (H5 y (by rw[hx];simp))]
   exact SQ hn h0
  ·refine Aw hn fun x _ hx=>Aw hn fun y _ hy=>Dg hn ?_
   subst hy;rw[Ho x (H5 x (by rw[hx];simp)),Ho y (H5 y (by rw[hx];simp))]
   exact TF hn h0
  ·rename_i hc;have RS:Fm P (.call c)=true:=by simp[Fm,hc]
   refine An hn fun _=>Cc hn fun d hd=>Aw hn fun _ _ hb=>Aw hn fun x _ hx=>Dg hn (Aw hn fun _ _ _=>Aw hn fun _ _ _=>?_)
   have QL:x∈c.args.toList:=by rw[hb,hx];simp
   rw[Ho x (H5 x QL)];exact FN hn (fun i hi=>hg RS x (H5 x QL) i (Hy hi)) fun v nw=>hK _ _ _ (fun h=>by rw[RS] at h;cases h) (by simp)
  ·rename_i fn hc;have RS:Fm P (.call c)=true:=by simp[Fm,hc]
   exact rc fn RS
  ·rename_i t hc;have RS:Fm P (.call c)=true:=by simp[Fm,hc]
   have ht:=Ho (.tmp t) (by simp[Op.operands,Call.operands,hc])
   change tm t=tm' t at ht;rw[ht];exact ZG hn fun fn=>rc fn RS
  ·exact hn
 ·exact hn
variable {hp:Nat->Option A2}
end
open Go.RowKit
abbrev Qf:=PV × List Nat × List (Nat × A2)
def Fa (ops:Array Oper)(o:Oper)(tm:Nat->PV):Option Bool:=
 match o.guard with
 |none=>some true
 |some (j,want)=>
  match (ops[j]?).bind (·.dst) with
  |none=>none
  |some d=>
   match tm d with
   |.sc (.bool b)=>some (b==want)
   |.sc (.tuple _)=>some false
   |_=>none
section
variable {R:Type} {r:R} {C:Fd} {P:Program} {N:Nat} {call:Aj} {ops:Array Oper} {o x:Oper} {s:St} {K:St->Option R}
theorem CF:Cd C P N call ops o s K=match Fa ops o s.tm with
  |none=>none
  |some true=>ES C P N call o s K
  |some false=>Ar (Ej N o.dst) (K ⟨A1 s.tm o.dst (.sc undef),s.hp⟩):=by
 unfold Cd Fa;cases o.guard with
 |none=>rfl
 |some q=>
  obtain⟨j,want⟩:=q;cases hd:(ops[j]?).bind (·.dst) with
  |none=>simp[hd]
  |some d=>
   simp only[hd];cases ht:s.tm d with
   |sc v=>
    cases v with
    |bool b=>
     cases b<;>cases want<;>simp only[Bu,cond_true,cond_false,R0 s.tm ht]<;>rfl
    |_=>rfl
   |_=>rfl
def QG (C:Fd)(P:Program)(N:Nat)(call:Aj)(o:Oper)(s:St):Option Qf:=
 Wx C P N call s.tm (rd s.hp) (Ha s.hp) o fun v fz nw=>some (v,fz,nw)
theorem Abi {K:PV->List Nat->List (Nat × A2)->Option R}:Wx C P N call s.tm (rd s.hp) (Ha s.hp) o K=(QG C P N call o s).bind fun q=>K q.1 q.2.1 q.2.2:=by
 refine Wi (Rel:=fun (a:Option R) (b:Option Qf)=>a=b.bind fun q=>K q.1 q.2.1 q.2.2) (K:=K) (K':=fun v fz nw=>some (v,fz,nw)) rfl (fun _ _=>rfl) (fun _ _ _ _ _=>.inl ⟨rfl,rfl⟩) fun v fz nw _ _=>rfl
theorem JP {q:Qf}(h:QG C P N call o s=some q):(Fm P o.op=false->q.2.1=[]∧∀p∈q.2.2,o.dst=some p.1)∧∀i∈q.2.1,Ha s.hp i≠none:=by
 have:=Wi (C:=C) (P:=P) (N:=N) (call:=call) (o:=o) (tm:=s.tm) (tm':=s.tm) (f:=rd s.hp) (f':=rd s.hp) (g:=Ha s.hp) (g':=Ha s.hp)
  (Rel:=fun (a:Option Qf)(_:Option Qf)=>∀q,a=some q->(Fm P o.op=false->q.2.1=[]∧∀p∈q.2.2,o.dst=some p.1)∧∀i∈q.2.1,Ha s.hp i≠none)
  (K:=fun v fz nw=>some (v,fz,nw)) (K':=fun v fz nw=>some (v,fz,nw)) (fun _ h=>by cases h) (fun _ _=>rfl) (fun _ _ _ _ _=>.inl ⟨rfl,rfl⟩) (fun v fz nw h1 h2 q hq=>by cases hq;exact⟨h1,h2⟩)
 exact this q h
def gE (C:Fd)(P:Program)(N:Nat)(call:Aj)(ops:Array Oper)(o:Oper)(s:St):Option Qf:=
 match Fa ops o s.tm with
 |none=>none
 |some true=>bif Mn C P o.op then none else QG C P N call o s
 |some false=>some (.sc undef,[],[])
def E4 (C:Fd)(P:Program)(ops:Array Oper)(o:Oper)(tm:Nat->PV):Bool:=Mn C P o.op&&(Fa ops o tm==some true)
theorem Hq (h:E4 C P ops o s.tm=false):Cd C P N call ops o s K=(gE C P N call ops o s).bind fun q=>Tt N s o.dst q.1 q.2.1 q.2.2 K:=by
 rw[CF];unfold gE;unfold E4 at h;cases hv:Fa ops o s.tm with
 |none=>rfl
 |some b=>
  rw[hv] at h;cases b with
  |false=>
   show Ar _ _=Tt N s o.dst (.sc undef) [] [] K;unfold Tt;have h1:A3 s.hp []=true:=rfl;have h2:Al (Ac s.hp []) []=s.hp:=rfl;rw[h1,h2,Bool.and_true]
  |true=>
   have hm:Mn C P o.op=false:=by simpa using h
   simp only[ES,hm,cond_false];exact Abi
theorem Ga (h:E4 C P ops o s.tm=true):Cd C P N call ops o s K=Pr C P N call s o K:=by
 rw[CF];unfold E4 at h;simp only[Bool.and_eq_true,beq_iff_eq] at h;rw[h.2];simp only[ES,h.1,cond_true]
theorem N7 {q:Qf}(h:gE C P N call ops o s=some q):(Fm P o.op=false->q.2.1=[]∧∀p∈q.2.2,o.dst=some p.1)∧∀i∈q.2.1,Ha s.hp i≠none:=by
 unfold gE at h;split at h
 ·cases h
 ·cases hm:Mn C P o.op<;>rw[hm] at h
  ·exact JP h
  ·cases h
 ·cases h;exact⟨fun _=>⟨rfl,by simp⟩,by simp⟩
theorem Do {tm tm':Nat->PV}(h:∀t∈Cp ops o,tm t=tm' t):∀y∈o.op.operands.toList,Bb tm y=Bb tm' y:=by
 intro y hy;cases y with
 |tmp t=>
  refine h t ?_;unfold Cp SM;refine List.mem_append.2 (.inl (List.mem_filterMap.2 ⟨.tmp t,hy,rfl⟩))
 |const v=>cases v<;>rfl
 |func f=>rfl
 |«global» g=>rfl
theorem H8 {tm tm':Nat->PV}(h:∀t∈Cp ops o,tm t=tm' t):Fa ops o tm=Fa ops o tm':=by
 unfold Fa;cases hg:o.guard with
 |none=>rfl
 |some q=>
  obtain⟨j,want⟩:=q;cases hd:(ops[j]?).bind (·.dst) with
  |none=>simp[hd]
  |some d=>
   have:tm d=tm' d:=h d (by
    unfold Cp;rw[hg];refine List.mem_append.2 (.inr ?_);simp only[hd];simp)
   simp only[hd,this]
theorem Rd {s':St}{q:Qf}(ht:∀t∈Cp ops o,s.tm t=s'.tm t)
  (hm:Fm P o.op=true->∀y∈o.op.operands.toList,∀i∈A8 (Bb s'.tm y),(rd s.hp i=rd s'.hp i∧Ha s.hp i=Ha s'.hp i)∨(rd s.hp i=none∧Ha s.hp i=none))
  (h:gE C P N call ops o s=some q):gE C P N call ops o s'=some q:=by
 unfold gE at h ⊢;rw[←H8 ht];split at h
 ·cases h
 ·cases hM:Mn C P o.op<;>rw[hM] at h
  ·have:=Wi (C:=C) (P:=P) (N:=N) (call:=call) (o:=o) (tm:=s.tm) (tm':=s'.tm) (f:=rd s.hp) (f':=rd s'.hp) (g:=Ha s.hp) (g':=Ha s'.hp)
    (Rel:=fun (a b:Option Qf)=>a=some q->b=some q)
    (K:=fun v fz nw=>some (v,fz,nw)) (K':=fun v fz nw=>some (v,fz,nw)) (fun h=>h) (Do ht)
    (fun Je y hy i hi=>(hm Je y hy i hi).imp id fun h=>⟨h.1,h.2,fun _ h=>by cases h⟩) (fun v fz nw _ _ h=>h)
   exact this h
  ·cases h
 ·exact h
end
open Go.RowKit
theorem L4:∀{nw:List (Nat × A2)} {hp Br:Nat->Option A2},A3 hp nw=true->(∀i b,(i,b)∈nw->Br i=none)->A3 Br nw=true
 |[],_,_,_,_=>rfl
 |(i,b)::nw,hp,Br,h,h'=>by
  simp only[A3,Bool.and_eq_true,Option.isNone_iff_eq_none] at h ⊢;exact⟨⟨h' i b (by simp),h.1.2⟩,L4 h.2 fun j c hj=>h' j c (by simp[hj])⟩
section
variable {hp:Nat->Option A2} {fz:List Nat} {nw:List (Nat × A2)}
theorem Ed (ha:A3 hp nw=true){i:Nat}(hi:hp i≠none):Al (Ac hp fz) nw i=if i∈fz then (hp i).map On else hp i:=by
 obtain⟨h1,h2⟩:=Ax ha;rw[(C1 h2).2 i (fun bx hb=>hi (h1 i bx hb)),A6]
theorem Gh (ha:A3 hp nw=true){i:Nat}{b:A2}(hi:(i,b)∈nw):Al (Ac hp fz) nw i=some b:=
 (C1 (Ax ha).2).1 i b hi
theorem Jy (ha:A3 hp nw=true){i:Nat}(hi:hp i=none)(hn:∀b,(i,b) ∉ nw):Al (Ac hp fz) nw i=none:=by
 rw[(C1 (Ax ha).2).2 i hn,A6,hi];simp
theorem J9 (ha:A3 hp nw=true){i:Nat}(hi:hp i≠none):Al (Ac hp fz) nw i≠none:=by
 rw[Ed ha hi];cases h:hp i with
 |none=>exact absurd h hi
 |some b=>split<;>simp
theorem Aca (b:Option A2):(match b.map On with|some (.st c)=>some c|some (.ar _ c)=>some c|_=>none)=(match b with|some (.st c)=>some c|some (.ar _ c)=>some c|_=>none):=by
 cases b with
 |none=>rfl
 |some b=>cases b<;>rfl
theorem SK (b:Option A2):(match b.map On with|some (.ar _ c)=>some c|_=>none)=(match b with|some (.ar _ c)=>some c|_=>none):=by
 cases b with
 |none=>rfl
 |some b=>cases b<;>rfl
theorem EL (ha:A3 hp nw=true){i:Nat}(hi:hp i≠none):rd (Al (Ac hp fz) nw) i=rd hp i:=by
 unfold rd;rw[Ed ha hi];by_cases h:i∈fz
 ·rw[if_pos h];exact Aca _
 ·rw[if_neg h]
theorem AC (ha:A3 hp nw=true){i:Nat}(hi:hp i≠none):Ha (Al (Ac hp fz) nw) i=Ha hp i:=by
 unfold Ha;rw[Ed ha hi];by_cases h:i∈fz
 ·rw[if_pos h];exact SK _
 ·rw[if_neg h]
theorem LK {i:Nat}(hi:hp i=none):rd hp i=none:=by unfold rd;rw[hi]
theorem Ic {i:Nat}(hi:hp i=none):Ha hp i=none:=by unfold Ha;rw[hi]
theorem Akg (b:Option A2):(b.map On).map On=b.map On:=by
 cases b with
 |none=>rfl
 |some b=>cases b<;>rfl
theorem JW {fx fo:List Nat}{nx no:List (Nat × A2)} (hx:A3 hp nx=true)(ho:A3 (Al (Ac hp fx) nx) no=true) (DV:A3 hp no=true)
  (Wh:A3 (Al (Ac hp fo) no) nx=true) (h1:∀i∈fx,hp i≠none)(h2:∀i∈fo,hp i≠none):
  Al (Ac (Al (Ac hp fx) nx) fo) no=Al (Ac (Al (Ac hp fo) no) fx) nx:=by
 funext i
 by_cases hi:hp i=none
 ·by_cases GN:∃b,(i,b)∈no
  ·obtain⟨b,hb⟩:=GN
   have hnx:∀b',(i,b') ∉ nx:=fun b' Fs=>by
    have:=(Ax ho).1 i b hb;rw[Gh hx Fs] at this;cases this
   rw[Gh ho hb,Ed Wh (by rw[Gh DV hb];simp),Gh DV hb,if_neg (fun h=>h1 i h hi)]
  ·have GN:∀b,(i,b) ∉ no:=fun b hb=>GN ⟨b,hb⟩
   by_cases hnx:∃b,(i,b)∈nx
   ·obtain⟨b,hb⟩:=hnx;rw[Gh Wh hb,Ed ho (by rw[Gh hx hb];simp),Gh hx hb,if_neg (fun h=>h2 i h hi)]
   ·have hnx:∀b,(i,b) ∉ nx:=fun b hb=>hnx ⟨b,hb⟩
    rw[Jy ho (Jy hx hi hnx) GN,Jy Wh (Jy DV hi GN) hnx]
 ·rw[Ed ho (J9 hx hi),Ed hx hi,Ed Wh (J9 DV hi),Ed DV hi];split<;>split<;>first|rfl|rw[Akg]
end
section
variable {R:Type} {r:R} {C:Fd} {P:Program} {N:Nat} {call:Aj} {ops:Array Oper} {o x:Oper} {s:St} {K:St->Option R}
structure Sl (C:Fd) (P:Program) (ops:Array Oper) (x o:Oper):Prop where
 xo:∀d,x.dst=some d->d ∉ Cp ops o
 ne:∀d,x.dst=some d->o.dst≠some d
 ox:∀d,o.dst=some d->d ∉ Cp ops x
 mx:Mn C P x.op=true->Fm P o.op=false
 mo:Mn C P o.op=true->Fm P x.op=false
theorem M8 {l:List Nat}{d:Nat}(h:l.any (Nat.beq d)=false):d ∉ l:=by
 intro hm;have:l.any (Nat.beq d)=true:=List.any_eq_true.2 ⟨d,hm,Nat.beq_refl d⟩;rw[this] at h;cases h
theorem TQ (h:W3 C P ops x o=false):Sl C P ops x o:=by
 unfold W3 at h;simp only[Bool.or_eq_false_iff,Bool.and_eq_false_iff] at h;obtain⟨⟨⟨h1,h2⟩,h3⟩,h4⟩:=h;refine⟨fun d hd=>?_,fun d hd he=>?_,fun d hd=>?_,fun hm=>?_,fun hm=>?_⟩
 ·simp only[hd,Bool.or_eq_false_iff] at h1;exact M8 h1.1
 ·simp only[hd,he,Bool.or_eq_false_iff] at h1;rw[Nat.beq_refl] at h1;cases h1.2
 ·simp only[hd] at h2;exact M8 h2
 ·rw[hm] at h3;rcases h3 with h|h
  ·cases h
  ·exact h
 ·rw[hm] at h4;rcases h4 with h|h
  ·cases h
  ·exact h
theorem C9 {tm:Nat->PV}{d:Option Tmp}{v:PV}{l:List Nat}(h:∀i,d=some i->i ∉ l):∀t∈l,A1 tm d v t=tm t:=by
 intro t ht;cases d with
 |none=>rfl
 |some d=>exact Ae _ _ (by rintro rfl;exact h _ rfl ht)
theorem H0 {tm:Nat->PV}{d e:Option Tmp}{u v:PV}(h:∀i,d=some i->e≠some i):A1 (A1 tm d u) e v=A1 (A1 tm e v) d u:=by
 cases d with
 |none=>rfl
 |some d=>
  cases e with
  |none=>rfl
  |some e=>exact EF _ _ _ (by rintro rfl;exact h _ rfl rfl)
def HQ (C:Fd)(P:Program)(o:Oper)(s:St):Prop:=(∀y∈o.op.operands.toList,∀i∈A8 (Bb s.tm y),s.hp i≠none) ∧
 (Mn C P o.op=true->Kd o.op=false->∀y∈o.op.operands.toList,∀i∈A8 (Bb s.tm y),∀c,s.hp i=some (.st c)->∀p∈c,∀k∈Ak p,s.hp k≠none)
theorem Fg {tm tm':Nat->PV}(h:∀t∈Cp ops o,tm t=tm' t):E4 C P ops o tm=E4 C P ops o tm':=by
 unfold E4;rw[H8 h]
theorem ND (hw:HQ C P o s)(xo:∀d,x.dst=some d->d ∉ Cp ops o)(ne:∀d,x.dst=some d->o.dst≠some d)(ox:∀d,o.dst=some d->d ∉ Cp ops x)(hx:E4 C P ops x s.tm=false)(ho:E4 C P ops o s.tm=false)
  (h:Cd C P N call ops x s (fun s1=>Cd C P N call ops o s1 K)=some r):Cd C P N call ops o s (fun s1=>Cd C P N call ops x s1 K)=some r:=by
 rw[Hq hx] at h;cases ex:gE C P N call ops x s with
 |none=>rw[ex] at h;cases h
 |some q=>
 obtain⟨vx,fx,nx⟩:=q;rw[ex] at h;obtain⟨hb,h1⟩:=Ag h;simp only[Bool.and_eq_true] at hb;have t1:∀t∈Cp ops o,A1 s.tm x.dst vx t=s.tm t:=C9 xo;change Cd C P N call ops o ⟨A1 s.tm x.dst vx,Al (Ac s.hp fx) nx⟩ K=some r at h1;rw[Hq (by rw[Fg t1];exact ho)] at h1
 cases eo:gE C P N call ops o ⟨A1 s.tm x.dst vx,Al (Ac s.hp fx) nx⟩ with
 |none=>rw[eo] at h1;cases h1
 |some q=>
 obtain⟨vo,fo,no⟩:=q;rw[eo] at h1;obtain⟨hc,h2⟩:=Ag h1;change K ⟨A1 (A1 s.tm x.dst vx) o.dst vo,Al (Ac (Al (Ac s.hp fx) nx) fo) no⟩=some r at h2;simp only[Bool.and_eq_true] at hc
 have eo':gE C P N call ops o s=some (vo,fo,no):=by
  refine Rd t1 (fun _ y hy i hi=>?_) eo
  have:=hw.1 y hy i hi;exact .inl ⟨EL hb.2 this,AC hb.2 this⟩
 have DV:A3 s.hp no=true:=L4 hc.2 fun i b hi=>by
  cases hs:s.hp i with
  |none=>rfl
  |some c=>exact absurd ((Ax hc.2).1 i b hi) (J9 hb.2 (by rw[hs];simp))
 rw[Hq ho,eo']
 have Wh:A3 (Al (Ac s.hp fo) no) nx=true:=L4 hb.2 fun i b hi=>by
  refine Jy DV ((Ax hb.2).1 i b hi) fun c Mr=>?_
  have:=(Ax hc.2).1 i c Mr;rw[Gh hb.2 hi] at this;cases this
 have t2:∀t∈Cp ops x,s.tm t=A1 s.tm o.dst vo t:=fun t ht=>(C9 ox t ht).symm
 have ex':gE C P N call ops x ⟨A1 s.tm o.dst vo,Al (Ac s.hp fo) no⟩=some (vx,fx,nx):=by
  refine Rd t2 (fun _ y hy i hi=>?_) ex
  by_cases hs:s.hp i=none
  ·exact .inr ⟨LK hs,Ic hs⟩
  ·exact .inl ⟨(EL DV hs).symm,(AC DV hs).symm⟩
 show Ar _ _=_;rw[hc.1,DV];show Cd C P N call ops x ⟨A1 s.tm o.dst vo,Al (Ac s.hp fo) no⟩ K=some r;rw[Hq (by rw[←Fg t2];exact hx),ex']
 show Ar _ _=_;rw[hb.1,Wh];rw[←h2];have hfx:∀i∈fx,s.hp i≠none:=fun i hi hs=>(N7 ex).2 i hi (Ic hs)
 have hfo:∀i∈fo,s.hp i≠none:=fun i hi hs=>(N7 eo').2 i hi (Ic hs)
 show K ⟨A1 (A1 s.tm o.dst vo) x.dst vx,Al (Ac (Al (Ac s.hp fo) no) fx) nx⟩=K _;rw[H0 ne,JW hb.2 hc.2 DV Wh hfx hfo]
end
open Go.RowKit
theorem Rw {C:Fd}{P:Program}{o:Op}(h:Mn C P o=true):Fm P o=true:=by
 unfold Mn at h;split at h
 ·rfl
 ·rename_i c;unfold Fm;simp only;split at h<;>rename_i hc
  ·rw[hc]
  ·rw[hc]
  ·cases h
  ·rw[hc]
  ·cases h
 ·cases h
structure Yo (N:Nat) (S:Nat->Prop) (dst:Option Nat) (hp Ch Br Dj:Nat->Option A2):Prop where
 keep:∀i,hp i≠none->Br i≠none
 off:∀i,i<N->dst≠some i->(¬S i∨hp i=none)->Br i=hp i∧Dj i=Ch i
 same:∀i,hp i=Ch i->Br i=Dj i
 far:∀i,¬S i->hp i≠none->Br i=hp i
section
variable {R R':Type} {Rel:Option R->Option R'->Prop} {P:Program} {N:Nat} {tm tm':Nat->PV} {hp Ch:Nat->Option A2} {f f':Nat->Option (List PV)} {o:Oper}
theorem Ze (hn:Rel none none){t:CT}{p:PV}{K:PV->List Nat->Option R}{K':PV->List Nat->Option R'}(hf:DC Rel f f' (Ak p)) (hK:∀c m,(∀i∈m,f i≠none∧i∈Ak p)->Rel (K c m) (K' c m)):Rel (Kn f t p K) (Kn f' t p K'):=by
 unfold Kn;split
 ·split
  ·rename_i id es' off n;cases Nat.beq es' _
   ·exact hn
   ·exact Ry hn hf (by simp[Ak]) fun c hc=>An hn fun _=>hK _ _ (by simp[hc,Ak])
  ·exact Dx hn fun _ _ _=>hK _ _ (by simp)
 ·exact Ks hn fun _=>hK _ _ (by simp)
theorem W7 (hn:Rel none none):∀{ts:List CT}{ps:List PV}{K:List PV->List Nat->Option R}{K':List PV->List Nat->Option R'},DC Rel f f' (ps.flatMap Ak)->(∀c m,(∀i∈m,f i≠none∧i∈ps.flatMap Ak)->Rel (K c m) (K' c m))->Rel (J2 f ts ps K) (J2 f' ts ps K')
 |[],[],_,_,_,hK=>hK _ _ (by simp)
 |[],_::_,_,_,_,_=>hn
 |_::_,[],_,_,_,_=>hn
 |_::_,p::ps,_,_,hf,hK=>Ze hn (fun i hi=>hf i (by simp only[List.flatMap_cons,List.mem_append];exact .inl hi)) fun _ m hm=>W7 hn (fun i hi=>hf i (by simp only[List.flatMap_cons,List.mem_append];exact .inr hi)) fun _ ms Wm=>hK _ _ fun i hi=>by
   simp only[List.flatMap_cons,List.mem_append];rcases List.mem_append.1 hi with h|h
   ·exact⟨(hm i h).1,.inl (hm i h).2⟩
   ·exact⟨(Wm i h).1,.inr (Wm i h).2⟩
theorem Pd {S:Nat->Prop}{dst:Option Nat}{id:Nat}{b:A2}{h0 h1:Nat->Option A2}(hS:S id)(Ay:hp id≠none)(h:Yo N S dst hp Ch h0 h1):Yo N S dst hp Ch (Bi h0 id (some b)) (Bi h1 id (some b)):=by
 refine⟨fun i hi=>?_,fun i hN hd hi=>?_,fun i hi=>?_,fun i hn hi=>?_⟩
 ·by_cases e:i=id
  ·subst e;rw[Ah];simp
  ·rw[Ae _ _ e];exact h.keep i hi
 ·have e:i≠id:=by
   rintro rfl
   rcases hi with hi|hi
   ·exact hi hS
   ·exact Ay hi
  rw[Ae _ _ e,Ae _ _ e];exact h.off i hN hd hi
 ·by_cases e:i=id
  ·subst e;rw[Ah,Ah]
  ·rw[Ae _ _ e,Ae _ _ e];exact h.same i hi
 ·rw[Ae _ _ (by rintro rfl;exact hn hS)];exact h.far i hn hi
theorem CO {S:Nat->Prop}{d:Nat}{b:A2}{h0 h1:Nat->Option A2}(hz:hp d=none)(h:Yo N S (some d) hp Ch h0 h1):Yo N S (some d) hp Ch (Bi h0 d (some b)) (Bi h1 d (some b)):=by
 refine⟨fun i hi=>?_,fun i hN hd hi=>?_,fun i hi=>?_,fun i hn hi=>?_⟩
 ·by_cases e:i=d
  ·subst e;rw[Ah];simp
  ·rw[Ae _ _ e];exact h.keep i hi
 ·have e:i≠d:=by rintro rfl;exact hd rfl
  rw[Ae _ _ e,Ae _ _ e];exact h.off i hN hd hi
 ·by_cases e:i=d
  ·subst e;rw[Ah,Ah]
  ·rw[Ae _ _ e,Ae _ _ e];exact h.same i hi
 ·rw[Ae _ _ (by rintro rfl;exact hi hz)];exact h.far i hn hi
theorem Ou (S:Nat->Prop)(dst:Option Nat):Yo N S dst hp Ch hp Ch:=⟨fun _ h=>h,fun _ _ _ _=>⟨rfl,rfl⟩,fun _ h=>h,fun _ _ _=>rfl⟩
theorem KE {S:Nat->Prop}{dst:Option Nat}{m:List Nat}(hm:∀i∈m,hp i≠none∧S i):Yo N S dst hp Ch (Ac hp m) (Ac Ch m):=by
 refine⟨fun i hi=>fun h=>hi (Cq.1 h),fun i hN hd hi=>?_,fun i hi=>?_,fun i hn hi=>?_⟩
 ·have e:i ∉ m:=by
   intro h;rcases hi with hi|hi
   ·exact hi (hm i h).2
   ·exact (hm i h).1 hi
  rw[A6,A6,if_neg e,if_neg e];exact⟨rfl,rfl⟩
 ·rw[A6,A6,hi]
 ·rw[A6,if_neg (fun h=>hn (hm i h).2)]
theorem CV {S:Nat->Prop}(h:∀i,S i->hp i=Ch i∨(hp i=none∧∀b,Rel none b)) {l:List Nat}(hl:∀i∈l,S i):DC Rel (Ha hp) (Ha Ch) l:=by
 intro i hi;rcases h i (hl i hi) with h|⟨h,h'⟩
 ·left;unfold Ha;rw[h]
 ·exact .inr ⟨Ic h,h'⟩
theorem EM (hn:Rel none none){t:TypeId}{a x:PV}{K:St->Option R}{K':St->Option R'}{S:Nat->Prop}(hS:∀i,S i->hp i=Ch i∨(hp i=none∧∀b,Rel none b)) (ha:∀i∈Ak a,S i)(hx:∀i∈Bh x,S i)
  (hK:∀Br Dj,Yo N S none hp Ch Br Dj->Rel (K ⟨tm,Br⟩) (K' ⟨tm',Dj⟩)):Rel (S7 P ⟨tm,hp⟩ t a x K) (S7 P ⟨tm',Ch⟩ t a x K'):=by
 unfold S7;split
 ·rename_i id off;show Rel (match hp id with|some (.st c)=>_|some (.ar false c)=>_|_=>none) (match Ch id with|some (.st c)=>_|some (.ar false c)=>_|_=>none)
  have Ay:S id:=ha id (by simp[Ak])
  rcases hS id Ay with h|⟨h,hb⟩
  ·rw[←h];split
   ·rename_i c hc;exact An hn fun _=>Kb hn fun _=>hK _ _ (Pd Ay (by rw[hc];simp) (Ou _ _))
   ·rename_i c hc;refine An hn fun _=>W7 hn (CV hS fun i hi=>hx i ?_) fun _ m hm=>An hn fun _=>hK _ _ (Pd Ay (by rw[hc];simp) (KE fun i hi=>⟨fun h=>(hm i hi).1 (Ic h),hx i ?_⟩))
    ·obtain⟨c,hc,hi⟩:=List.mem_flatMap.1 hi;exact Oq hc hi
    ·obtain⟨c,hc,hi⟩:=List.mem_flatMap.1 (hm i hi).2;exact Oq hc hi
   ·exact hn
  ·rw[h];exact hb _
 ·exact hn
theorem Ti (hn:Rel none none){es:Nat}{t:TypeId}{x:PV}{K:Nat->List PV->Option R}{K':Nat->List PV->Option R'}{S:Nat->Prop}(hS:∀i,S i->hp i=Ch i∨(hp i=none∧∀b,Rel none b)) (hx:∀i∈Bh x,S i)(hK:∀m c,Rel (K m c) (K' m c)):Rel (IX P ⟨tm,hp⟩ es t x K) (IX P ⟨tm',Ch⟩ es t x K'):=by
 unfold IX JZ;split
 ·exact An hn fun _=>Ee hn fun _=>hK _ _
 ·exact Ri hn (CV hS fun i hi=>hx i (Nv hi)) hK
 ·exact hn
theorem R3 (hn:Rel none none){d:Nat}{t tx:TypeId}{b x:PV}{K:St->Option R}{K':St->Option R'}{S:Nat->Prop}(hS:∀i,S i->hp i=Ch i∨(hp i=none∧∀b,Rel none b)) (RQ:hp d=Ch d)(hb:∀i∈Bh b,S i)(hx:∀i∈Bh x,S i)
  (hK:∀v Br Dj,(∀M,Yo M S (some d) hp Ch Br Dj)->Rel (K ⟨Bi tm d v,Br⟩) (K' ⟨Bi tm' d v,Dj⟩)):Rel (Kw P N ⟨tm,hp⟩ d t tx b x K) (Kw P N ⟨tm',Ch⟩ d t tx b x K'):=by
 unfold Kw;split
 ·refine An hn fun _=>?_
  cases R1 P tx
  rotate_left
  ·show Rel (Ol P N ⟨tm,hp⟩ d _ b x K) (Ol P N ⟨tm',Ch⟩ d _ b x K');refine Cs hn fun _ n=>Dx hn fun z _ _=>?_
   show Rel (Ar (z&&Nat.blt d N&&(hp d).isNone&&_&&_&&_) _) (Ar (z&&Nat.blt d N&&(Ch d).isNone&&_&&_&&_) _);rw[←RQ];exact An hn fun hb=>hK _ _ _ (fun M=>CO (by simp only[Bool.and_eq_true,Option.isNone_iff_eq_none] at hb;simp only[hb]) (Ou _ _))
  rw[cond_false,cond_false];refine Ti hn hS hx fun m new=>?_
  split
  ·rename_i id es off n;show Rel (match hp id with|some (.ar false c)=>Ar (Nat.beq es _&&Nat.beq off 0&&Nat.blt d N&&(hp d).isNone&&_&&_&&_&&_) _|_=>none) (match Ch id with|some (.ar false c)=>Ar (Nat.beq es _&&Nat.beq off 0&&Nat.blt d N&&(Ch d).isNone&&_&&_&&_&&_) _|_=>none)
   have Ay:S id:=hb id (by simp[Bh,Ak])
   rw[←RQ];rcases hS id Ay with h|⟨h,hbb⟩
   ·rw[←h];split
    ·rename_i c hc;exact An hn fun hb=>hK _ _ _ (fun M=>CO (by simp only[Bool.and_eq_true,Option.isNone_iff_eq_none] at hb;simp only[hb]) (Pd Ay (by rw[hc];simp) (Ou _ _)))
    ·exact hn
   ·rw[h];exact hbb _
  ·refine Dx hn fun z _ _=>?_
   show Rel (Ar (z&&Nat.blt d N&&(hp d).isNone&&_&&_&&_) _) (Ar (z&&Nat.blt d N&&(Ch d).isNone&&_&&_&&_) _);rw[←RQ];exact An hn fun hb=>hK _ _ _ (fun M=>CO (by simp only[Bool.and_eq_true,Option.isNone_iff_eq_none] at hb;simp only[hb]) (Ou _ _))
 ·exact hn
theorem IG (hn:Rel none none){d:Option Tmp}{t tx:TypeId}{b x:PV}{K:St->Option R}{K':St->Option R'}{S:Nat->Prop}(hS:∀i,S i->hp i=Ch i∨(hp i=none∧∀b,Rel none b)) (hb:∀i∈Bh b,S i)(hx:∀i∈Bh x,S i)
  (hK:∀v Br Dj,Yo N S d hp Ch Br Dj->Rel (K ⟨A1 tm d v,Br⟩) (K' ⟨A1 tm' d v,Dj⟩)):Rel (AM P N ⟨tm,hp⟩ d t tx b x K) (AM P N ⟨tm',Ch⟩ d t tx b x K'):=by
 unfold AM;split
 ·refine An hn fun _=>?_
  refine Ti hn hS hx fun m new=>?_
  split
  ·rename_i id es off n;show Rel (match hp id with|some (.ar false c)=>Ar (Nat.beq es _&&_&&_) _|_=>none) (match Ch id with|some (.ar false c)=>Ar (Nat.beq es _&&_&&_) _|_=>none)
   have Ay:S id:=hb id (by simp[Bh,Ak])
   rcases hS id Ay with h|⟨h,hbb⟩
   ·rw[←h];split
    ·rename_i c hc;exact An hn fun _=>hK _ _ _ (Pd Ay (by rw[hc];simp) (Ou _ _))
    ·exact hn
   ·rw[h];exact hbb _
  ·exact hn
 ·exact hn
def Adx (o:Oper)(tm:Nat->PV)(i:Nat):Prop:=∃x∈o.op.operands.toList,i∈A8 (Bb tm x)
def Qc (o:Oper)(tm:Nat->PV)(hp:Nat->Option A2)(i:Nat):Prop:=Adx o tm i∨Kd o.op=false∧∃id c,Adx o tm id∧hp id=some (.st c)∧∃p∈c,i∈Ak p
theorem PZ (hn:Rel none none){mv:Bool}{t:CT}{p:PV}{K:PV->List Nat->List Nat->Option R}{K':PV->List Nat->List Nat->Option R'}{S:Nat->Prop}(hS:∀i,S i->hp i=Ch i∨(hp i=none∧∀b,Rel none b)) (hp_:∀i∈Ak p,S i)
  (hK:∀c m x,(∀i∈m++x,hp i≠none∧S i)->Rel (K c m x) (K' c m x)):Rel (QT mv hp t p K) (QT mv Ch t p K'):=by
 have frz:∀{t:CT} {p:PV},(∀i∈Ak p,S i)->Rel (Kn (Ha hp) t p fun c m=>K c m []) (Kn (Ha Ch) t p fun c m=>K' c m []):=fun h=>Ze hn (CV hS h) fun c m hm=>hK _ _ _ fun i hi=>by
  rw[List.append_nil] at hi;exact⟨fun e=>(hm i hi).1 (Ic e),h i (hm i hi).2⟩
 unfold QT;split
 ·rename_i es;cases mv<;>simp only[cond_true,cond_false]
  ·exact frz hp_
  ·split
   ·rename_i id es' off n;rcases hS id (hp_ id (by simp[Ak])) with h|⟨h,hb⟩
    ·rw[←h];split
     ·rename_i c hc;cases (Nat.beq es' es&&Nat.beq off 0)<;>simp only[cond_true,cond_false]
      ·exact frz hp_
      ·exact An hn fun _=>hK _ _ _ fun i hi=>by
        simp only[List.nil_append,List.mem_singleton] at hi;subst hi;exact⟨by rw[hc];simp,hp_ i (by simp[Ak])⟩
     ·exact frz hp_
    ·rw[h]
     have:(Kn (Ha hp) (.sl es) (.view id es' off n) fun c m=>K c m [])=none:=by
      unfold Kn;simp only;cases Nat.beq es' es
      ·rfl
      ·simp only[cond_true,Ic h,Db]
     show Rel (Kn (Ha hp) (.sl es) (.view id es' off n) fun c m=>K c m []) _
     rw[this];exact hb _
   ·refine Dx hn fun z n c=>?_
    cases z
    ·exact hK _ _ _ (by simp)
    ·exact hK _ _ _ (by simp)
 ·exact Ks hn fun _=>hK _ _ _ (by simp)
theorem Mt (hn:Rel none none){mv:Bool}{S:Nat->Prop}(hS:∀i,S i->hp i=Ch i∨(hp i=none∧∀b,Rel none b)):∀{ts:List CT}{ps:List PV}{K:List PV->List Nat->List Nat->Option R}{K':List PV->List Nat->List Nat->Option R'},(∀p∈ps,∀i∈Ak p,S i) ->
  (∀c m x,(∀i∈m++x,hp i≠none∧S i)->Rel (K c m x) (K' c m x))->Rel (Uw mv hp ts ps K) (Uw mv Ch ts ps K')
 |[],[],_,_,_,hK=>hK _ _ _ (by simp)
 |[],_::_,_,_,_,_=>hn
 |_::_,[],_,_,_,_=>hn
 |_::_,p::ps,_,_,hp_,hK=>PZ hn hS (hp_ p (by simp)) fun _ m x hm=>Mt hn hS (fun q hq=>hp_ q (by simp[hq])) fun _ ms xs Wm=>hK _ _ _ fun i hi=>by
   simp only[List.mem_append] at hi hm Wm;rcases hi with (hi|hi)|(hi|hi)
   ·exact hm i (.inl hi)
   ·exact Wm i (.inl hi)
   ·exact hm i (.inr hi)
   ·exact Wm i (.inr hi)
theorem GQ (hn:Rel none none){C:Fd}{f:FuncId}{i:Nat}{t:TypeId}{p:PV}{K:PV->List Nat->List Nat->List E2->Option R}{K':PV->List Nat->List Nat->List E2->Option R'}{S:Nat->Prop}(hS:∀i,S i->hp i=Ch i∨(hp i=none∧∀b,Rel none b))
  (hp_:∀i∈A8 p,S i)(hc:∀i∈A8 p,∀c,Ch i=some (.st c)->∀q∈c,∀k∈Ak q,S k)
  (hK:∀v m x l,(∀i∈m++x++l.flatMap E2.ids,hp i≠none∧S i)->Rel (K v m x l) (K' v m x l)):Rel (To C P f hp i t p K) (To C P f Ch i t p K'):=by
 unfold To;split
 ·split
  ·rename_i id off;have Ay:S id:=hp_ id (by simp[A8,Bh,Ak])
   rcases hS id Ay with h|⟨h,hb⟩
   ·rw[h];split
    ·rename_i c AL;refine An hn fun _=>Mt hn hS (fun q hq k hk=>hc id (by simp[A8,Bh,Ak]) c AL q (List.mem_of_mem_drop (List.mem_of_mem_take hq)) k hk) fun cs m x hm=>hK _ _ _ _ fun k hk=>?_
     rcases List.mem_append.1 hk with hk|hk
     ·exact hm k hk
     ·simp only[List.flatMap_cons,List.flatMap_nil,E2.ids,List.append_nil,List.mem_singleton] at hk;subst hk;exact⟨by rw[h,AL];simp,Ay⟩
    ·exact hn
   ·rw[h];exact hb _
  ·exact hn
 ·cases C.lnd f i
  ·cases Ba P t
   ·exact Mt hn hS (fun q hq k hk=>by
     simp at hq;subst hq;exact hp_ k (Hy hk)) fun cs m x hm=>Aw hn fun _ _ _=>Dg hn (hK _ _ _ _ (by simpa using hm))
   ·refine G1 hn fun cs P6=>Mt hn hS (fun q hq k hk=>hp_ k ?_) fun cs m x hm=>hK _ _ _ _ (by simpa using hm)
    subst P6;exact List.mem_flatMap.2 ⟨q,hq,hk⟩
  ·refine Cc hn fun e he=>?_
   unfold UL;split
   ·rename_i id es' off n;have Ay:S id:=hp_ id (by simp[A8,Bh,Ak])
    rcases hS id Ay with h|⟨h,hb⟩
    ·rw[h];split
     ·rename_i c AL;refine An hn fun _=>hK _ _ _ _ fun k hk=>?_
      simp only[List.nil_append,List.flatMap_cons,List.flatMap_nil,E2.ids,List.append_nil,List.mem_singleton] at hk;subst hk;exact⟨by rw[h,AL];simp,Ay⟩
     ·exact hn
    ·rw[h];exact hb _
   ·exact Dx hn fun _ _ _=>An hn fun _=>hK _ _ _ _ (by simp[E2.ids])
theorem X3 (hn:Rel none none){C:Fd}{f:FuncId}{S:Nat->Prop}(hS:∀i,S i->hp i=Ch i∨(hp i=none∧∀b,Rel none b)):∀{ts:List TypeId}{ps:List PV}{i:Nat}{K:List PV->List Nat->List Nat->List E2->Option R}{K':List PV->List Nat->List Nat->List E2->Option R'},
  (∀p∈ps,∀i∈A8 p,S i)->(∀p∈ps,∀i∈A8 p,∀c,Ch i=some (.st c)->∀q∈c,∀k∈Ak q,S k) ->
  (∀v m x l,(∀i∈m++x++l.flatMap E2.ids,hp i≠none∧S i)->Rel (K v m x l) (K' v m x l))->Rel (Zv C P f hp i ts ps K) (Zv C P f Ch i ts ps K')
 |[],[],_,_,_,_,_,hK=>hK _ _ _ _ (by simp)
 |[],_::_,_,_,_,_,_,_=>hn
 |_::_,[],_,_,_,_,_,_=>hn
 |_::_,p::ps,_,_,_,hp_,hc,hK=>GQ hn hS (hp_ p (by simp)) (hc p (by simp)) fun _ m x l hm=>X3 hn hS (fun q hq=>hp_ q (by simp[hq])) (fun q hq=>hc q (by simp[hq])) fun _ ms xs ls Wm=>hK _ _ _ _ fun i hi=>by
   simp only[List.mem_append,List.flatMap_append] at hi hm Wm;rcases hi with ((hi|hi)|(hi|hi))|(hi|hi)
   ·exact hm i (.inl (.inl hi))
   ·exact Wm i (.inl (.inl hi))
   ·exact hm i (.inl (.inr hi))
   ·exact Wm i (.inl (.inr hi))
   ·exact hm i (.inr hi)
   ·exact Wm i (.inr hi)
theorem TD (hn:Rel none none){t:Nat}{ct:CT}{was p:PV}{K:Nat->PV->List (Nat × A2)->Option R} {K':Nat->PV->List (Nat × A2)->Option R'} (hK:∀t c b,(∀q∈b,∃k,q.1=HP N k)->Rel (K t c b) (K' t c b)):Rel (OH N t ct was p K) (OH N t ct was p K'):=by
 unfold OH;split
 ·split
  ·exact LW hn fun _ _=>hK _ _ _ (by intro q hq;simp only[List.mem_singleton] at hq;subst hq;exact⟨t,rfl⟩)
  ·exact Dx hn fun _ _ _=>hK _ _ _ (by simp)
 ·exact Ks hn fun _=>hK _ _ _ (by simp)
theorem Zz (hn:Rel none none):∀{cts:List CT}{ws ps:List PV}{t:Nat}{K:Nat->List PV->List (Nat × A2)->Option R} {K':Nat->List PV->List (Nat × A2)->Option R'},(∀t c b,(∀q∈b,∃k,q.1=HP N k)->Rel (K t c b) (K' t c b))->Rel (Z0 N t cts ws ps K) (Z0 N t cts ws ps K')
 |[],[],_,_,_,_,hK=>Dg hn (hK _ _ _ (by simp))
 |[],_::_,_,_,_,_,_=>hn
 |_::_,[],_,_,_,_,_=>hn
 |_::_,_::_,_,_,_,_,hK=>Aw hn fun _ _ _=>TD hn fun _ _ b hb=>Zz hn fun _ _ bs Yb=>hK _ _ _ fun q hq=>by
   rcases List.mem_append.1 hq with h|h
   ·exact hb q h
   ·exact Yb q h
theorem O3 (hn:Rel none none){S:Nat->Prop}{dst:Option Nat}:∀{l:List E2}{ro:List (List PV)} {t:Nat}{h0 h1:Nat->Option A2}{K:(Nat->Option A2)->List (Nat × A2)->Option R} {K':(Nat->Option A2)->List (Nat × A2)->Option R'},
  Yo N S dst hp Ch h0 h1->(∀i∈l.flatMap E2.ids,hp i≠none∧S i∧hp i=Ch i)->(∀h0' U6 b,Yo N S dst hp Ch h0' U6->(∀q∈b,∃k,q.1=HP N k)->Rel (K h0' b) (K' U6 b))->Rel (Q4 N t l ro h0 K) (Q4 N t l ro h1 K')
 |[],_,_,_,_,_,_,hT,_,hK=>Dg hn (hK _ _ _ hT (by simp))
 |.var id off cts ws::l,ro,t,h0,h1,K,K',hT,hl,hK=>by
  unfold Q4;refine Aw hn fun cs ro _=>Zz hn fun t' cs' bs Yb=>?_
  have Ay:=hl id (by simp[E2.ids])
  rw[←hT.same id Ay.2.2];split
  ·exact O3 hn (Pd Ay.2.1 Ay.1 hT) (fun i hi=>hl i (by simp only[List.flatMap_cons,List.mem_append];exact .inr hi)) fun h0' U6 b hT' hb=>hK _ _ _ hT' fun q hq=>by
    rcases List.mem_append.1 hq with h|h
    ·exact Yb q h
    ·exact hb q h
  ·exact hn
 |.row id::l,ro,t,h0,h1,K,K',hT,hl,hK=>by
  unfold Q4;have Ay:=hl id (by simp[E2.ids])
  exact Aw hn fun cs ro _=>O3 hn (Pd Ay.2.1 Ay.1 hT) (fun i hi=>hl i (by simp only[List.flatMap_cons,List.mem_append];exact .inr hi)) hK
 |.none::l,ro,t,h0,h1,K,K',hT,hl,hK=>by
  unfold Q4;exact Aw hn fun cs ro _=>O3 hn hT (fun i hi=>hl i (by simp only[List.flatMap_cons,List.mem_append];exact .inr hi)) hK
theorem DP (h:∀i,N<=i->hp i=Ch i)(hN:0<N):∀k t,GW N hp k t=GW N Ch k t
 |0,_=>rfl
 |k+1,t=>by
  unfold GW;rw[h (HP N t) (by unfold HP;exact Nat.le_mul_of_pos_right _ (by omega)),DP h hN k (t+1)]
theorem Y4 {h0 h1:Nat->Option A2}:∀{nw:List (Nat × A2)},(∀q∈nw,h0 q.1=h1 q.1)->A3 h0 nw=A3 h1 nw
 |[],_=>rfl
 |(i,b)::nw,h=>by
  unfold A3;rw[h (i,b) (by simp),Y4 (fun q hq=>h q (by simp[hq]))]
theorem Xq {S:Nat->Prop}{dst:Option Nat}{h0 h1:Nat->Option A2}(hT:Yo N S dst hp Ch h0 h1):∀{nw:List (Nat × A2)} {g0 g1:Nat->Option A2},Yo N S dst hp Ch g0 g1->(∀q∈nw,N<=q.1∨dst=some q.1)->(∀q∈nw,hp q.1=none)->Yo N S dst hp Ch (Al g0 nw) (Al g1 nw)
 |[],_,_,h,_,_=>h
 |(i,b)::nw,g0,g1,h,hi,hz=>by
  refine Xq hT (nw:=nw) ⟨fun k hk=>?_,fun k hN hd hk=>?_,fun k hk=>?_,fun k hn hk=>?_⟩ (fun q hq=>hi q (by simp[hq])) (fun q hq=>hz q (by simp[hq]))
  ·by_cases e:k=i
   ·subst e;rw[Ah];simp
   ·rw[Ae _ _ e];exact h.keep k hk
  ·have e:k≠i:=by
    rintro rfl
    rcases hi (k,b) (by simp) with q|q
    ·simp only at q;omega
    ·exact hd q
   rw[Ae _ _ e,Ae _ _ e];exact h.off k hN hd hk
  ·by_cases e:k=i
   ·subst e;rw[Ah,Ah]
   ·rw[Ae _ _ e,Ae _ _ e];exact h.same k hk
  ·rw[Ae _ _ (by rintro rfl;exact hk (hz (k,b) (by simp)))];exact h.far k hn hk
theorem Aih {S:Nat->Prop}{dst:Option Nat}{m x:List Nat}(hm:∀i∈m++x,hp i≠none∧S i):Yo N S dst hp Ch (N0 (Ac hp m) x) (N0 (Ac Ch m) x):=by
 refine⟨fun i hi h=>?_,fun i hN hd hi=>?_,fun i hi=>?_,fun i hn hi=>?_⟩
 ·rw[Eb] at h;have h1:Ac hp m i≠none:=fun e=>hi (Cq.1 e)
  split at h
  ·cases hq:Ac hp m i with
   |none=>exact h1 hq
   |some b=>rw[hq] at h;cases h
  ·exact h1 h
 ·have e:i ∉ m∧i ∉ x:=by
   refine⟨fun h=>?_,fun h=>?_⟩<;>(rcases hi with hi|hi)
   ·exact hi (hm i (by simp[h])).2
   ·exact (hm i (by simp[h])).1 hi
   ·exact hi (hm i (by simp[h])).2
   ·exact (hm i (by simp[h])).1 hi
  rw[Eb,Eb,if_neg e.2,if_neg e.2,A6,A6,if_neg e.1,if_neg e.1];exact⟨rfl,rfl⟩
 ·rw[Eb,Eb,A6,A6,hi]
 ·rw[Eb,A6,if_neg (fun h=>hn (hm i (by simp[h])).2),if_neg (fun h=>hn (hm i (by simp[h])).2)]
theorem FJ (hn:Rel none none){C:Fd}{call:Aj}{f:FuncId}{c:Call}{K:St->Option R}{K':St->Option R'}{S:Nat->Prop}(Ho:c.args.toList.map (Bb tm)=c.args.toList.map (Bb tm')) (hS:∀i,S i->hp i=Ch i∨(hp i=none∧∀b,Rel none b))
  (hp_:∀p∈c.args.toList.map (Bb tm'),∀i∈A8 p,S i) (hc:∀p∈c.args.toList.map (Bb tm'),∀i∈A8 p,∀c,Ch i=some (.st c)->∀q∈c,∀k∈Ak q,S k)
  (RQ:∀d,o.dst=some d->hp d=Ch d)(hNN:∀i,N<=i->hp i=Ch i)
  (hK:∀v Br Dj,Yo N S o.dst hp Ch Br Dj->Rel (K ⟨A1 tm o.dst v,Br⟩) (K' ⟨A1 tm' o.dst v,Dj⟩)):Rel (Tv C P N call ⟨tm,hp⟩ o f c K) (Tv C P N call ⟨tm',Ch⟩ o f c K'):=by
 unfold Tv;simp only[Ho];refine X3 hn hS hp_ hc fun vs m x l hm=>An hn fun hb=>Zi hn fun rv ro=>S6 hn fun ws bs Yb=>An hn fun _=>?_
 simp only[Bool.and_eq_true] at hb;have hN:0<N:=Nat.lt_of_succ_le (Nat.le_of_ble_eq_true hb.1.2);rw[DP hNN hN];by_cases Aj0:∃i∈l.flatMap E2.ids,hp i≠Ch i
 ·obtain⟨i,hi,H7⟩:=Aj0;obtain⟨h1,h2⟩:=hm i (List.mem_append.2 (.inr hi));rcases hS i h2 with h|⟨h,_⟩
  ·exact absurd h H7
  ·exact absurd h h1
 have hl:∀i∈l.flatMap E2.ids,hp i≠none∧S i∧hp i=Ch i:=fun i hi=>⟨(hm i (List.mem_append.2 (.inr hi))).1,(hm i (List.mem_append.2 (.inr hi))).2,Classical.byContradiction fun h=>Aj0 ⟨i,hi,h⟩⟩
 have hT0:Yo N S o.dst hp Ch (N0 (Ac hp m) x) (N0 (Ac Ch m) x):=Aih fun i hi=>hm i (List.mem_append.2 (.inl hi))
 refine O3 hn hT0 hl fun h0 h1 bs' hT Aq9=>?_
 have QZ:∀q∈bs++bs',N<=q.1∨o.dst=some q.1:=by
  intro q hq;rcases List.mem_append.1 hq with hq|hq
  ·obtain⟨j,hj⟩:=Yb q hq;cases hd:o.dst with
   |none=>
    rw[hd] at hj;left;rw[hj];exact Nat.le_add_right _ _
   |some d=>
    rw[hd] at hj;change q.1=d+N*j at hj;cases j with
    |zero=>right;rw[hj];simp
    |succ j=>left;rw[hj,Nat.mul_add];omega
  ·obtain⟨k,hk⟩:=Aq9 q hq;left;rw[hk];unfold HP;exact Nat.le_mul_of_pos_right _ (by omega)
 have Ut:∀q∈bs++bs',h0 q.1=h1 q.1:=by
  intro q hq;refine hT.same q.1 ?_;rcases QZ q hq with h|h
  ·exact hNN _ h
  ·exact RQ _ h
 rw[Y4 Ut]
 exact An hn fun hb=>hK _ _ _ (Xq hT hT QZ fun q hq=>by
  cases hz:hp q.1 with
  |none=>rfl
  |some c=>exact absurd ((Ut q hq).trans ((Ax hb).1 q.1 q.2 hq)) (hT.keep q.1 (by rw[hz];simp)))
theorem H6 (hn:Rel none none){C:Fd}{call:Aj}{K:St->Option R}{K':St->Option R'}(Ho:∀x∈o.op.operands.toList,Bb tm x=Bb tm' x)
  (hS:∀i,Qc o tm' Ch i->hp i=Ch i∨(hp i=none∧∀b,Rel none b)) (RQ:∀d,o.dst=some d->hp d=Ch d)(hNN:∀i,N<=i->hp i=Ch i)
  (hK:∀v Br Dj,Yo N (Qc o tm' Ch) o.dst hp Ch Br Dj->Rel (K ⟨A1 tm o.dst v,Br⟩) (K' ⟨A1 tm' o.dst v,Dj⟩)):Rel (Pr C P N call ⟨tm,hp⟩ o K) (Pr C P N call ⟨tm',Ch⟩ o K'):=by
 unfold Pr;have hl:∀x∈o.op.operands.toList,∀i∈A8 (Bb tm' x),Qc o tm' Ch i:=fun x hx i hi=>.inl ⟨x,hx,hi⟩
 have DD:Kd o.op=false->∀x∈o.op.operands.toList,∀i∈A8 (Bb tm' x),∀c,Ch i=some (.st c)->∀q∈c,∀k∈Ak q,Qc o tm' Ch k:=fun ha x hx i hi c hc q hq k hk=>.inr ⟨ha,i,c,⟨x,hx,hi⟩,hc,q,hq,hk⟩
 generalize hLd:Qc o tm' Ch=S at *
 generalize RH:o.op=op at *
 split
 ·rename_i t x y;simp only[Ho x (by simp[Op.operands]),Ho y (by simp[Op.operands])]
  refine An hn fun hd=>EM (N:=N) hn hS (fun i hi=>hl x (by simp[Op.operands]) i (Hy hi)) (fun i hi=>hl y (by simp[Op.operands]) i (D3 hi)) fun Br Dj hh=>?_
  have hd':=Option.isNone_iff_eq_none.1 hd;have:=hK .top Br Dj (by rw[hd'];exact hh)
  rw[hd'] at this;exact this
 ·rename_i c
  have H5:∀x∈c.args.toList,x∈(Op.call c).operands.toList:=by
   intro x hx;simp only[Op.operands,Call.operands,Array.toList_append,List.mem_append];exact .inr hx
  split
  ·rename_i hc;refine Cc hn fun d hd=>Aw hn fun x _ hx=>Aw hn fun y _ hy=>Dg hn (Aw hn fun _ _ _=>Aw hn fun _ _ _=>?_)
   subst hy;have QL:=H5 x (by rw[hx];simp)
   have hym:=H5 y (by rw[hx];simp)
   simp only[Ho x QL,Ho y hym];refine R3 hn hS (RQ d hd) (fun i hi=>hl x QL i (D3 hi)) (fun i hi=>hl y hym i (D3 hi)) fun v Br Dj hh=>?_
   have:=hK v Br Dj (by rw[hd];exact hh N)
   rw[hd] at this;exact this
  ·rename_i hc;refine Aw hn fun x _ hx=>Aw hn fun y _ hy=>Dg hn (Aw hn fun _ _ _=>Aw hn fun _ _ _=>?_)
   subst hy;have QL:=H5 x (by rw[hx];simp)
   have hym:=H5 y (by rw[hx];simp)
   simp only[Ho x QL,Ho y hym];exact IG hn hS (fun i hi=>hl x QL i (D3 hi)) (fun i hi=>hl y hym i (D3 hi)) hK
  ·rename_i f hcf;refine FJ hn (List.map_congr_left fun x hx=>Ho x (H5 x hx)) hS (fun p hp i hi=>?_) (fun p hp i hi=>?_) RQ hNN hK
   ·obtain⟨x,hx,rfl⟩:=List.mem_map.1 hp;exact hl x (H5 x hx) i hi
   ·obtain⟨x,hx,rfl⟩:=List.mem_map.1 hp;exact DD (by simp only[Kd,hcf]) x (H5 x hx) i hi
  ·exact hn
 ·exact hn
theorem Xy (hn:Rel none none){C:Fd}{call:Aj}{K:St->Option R}{K':St->Option R'}(Ho:∀x∈o.op.operands.toList,Bb tm x=Bb tm' x)(hK:∀v Br,(∀i,hp i≠none->Br i≠none)->Rel (K ⟨A1 tm o.dst v,Br⟩) (K' ⟨A1 tm' o.dst v,Br⟩)):Rel (Pr C P N call ⟨tm,hp⟩ o K) (Pr C P N call ⟨tm',hp⟩ o K'):=
 H6 hn Ho (fun _ _=>.inl rfl) (fun _ _=>rfl) (fun _ _=>rfl) fun v Br Dj hT=>by
  have:Br=Dj:=funext fun i=>hT.same i rfl
  subst this;exact hK v Br hT.keep
end
section
variable {R:Type} {r:R} {C:Fd} {P:Program} {N:Nat} {call:Aj} {ops:Array Oper} {o x:Oper} {s:St} {K:St->Option R}
theorem BB {tm:Nat->PV}{hp Br:Nat->Option A2}{tm':Nat->PV}{q:Qf}(hm:Fm P o.op=false)(ht:∀t∈Cp ops o,tm t=tm' t)(h:gE C P N call ops o ⟨tm,hp⟩=some q):gE C P N call ops o ⟨tm',Br⟩=some q:=
 Rd (s:=⟨tm,hp⟩) (s':=⟨tm',Br⟩) ht (fun h=>by rw[hm] at h;cases h) h
theorem Tg {tm:Nat->PV}{hp:Nat->Option A2}(hm:Fm P o.op=false)(h:Cd C P N call ops o ⟨tm,hp⟩ K=some r):
  ∃v nw,gE C P N call ops o ⟨tm,hp⟩=some (v,[],nw)∧Ej N o.dst=true∧A3 hp nw=true∧(∀p∈nw,o.dst=some p.1)∧K ⟨A1 tm o.dst v,Al hp nw⟩=some r:=by
 have hM:Mn C P o.op=false:=by
  cases hh:Mn C P o.op
  ·rfl
  ·rw[Rw hh] at hm;cases hm
 rw[Hq (by simp[E4,hM])] at h
 cases e:gE C P N call ops o ⟨tm,hp⟩ with
 |none=>rw[e] at h;cases h
 |some q=>
  obtain⟨v,fz,nw⟩:=q;obtain⟨h1,h2⟩:=(N7 e).1 hm;simp only at h1 h2;subst h1;rw[e] at h;obtain⟨hb,h⟩:=Ag h;simp only[Bool.and_eq_true] at hb;exact⟨v,nw,rfl,hb.1,hb.2,h2,h⟩
theorem Wy {tm:Nat->PV}{hp:Nat->Option A2}{v:PV}{nw:List (Nat × A2)} (hm:Fm P o.op=false)(e:gE C P N call ops o ⟨tm,hp⟩=some (v,[],nw)) (hd:Ej N o.dst=true)(ha:A3 hp nw=true)(h:K ⟨A1 tm o.dst v,Al hp nw⟩=some r):Cd C P N call ops o ⟨tm,hp⟩ K=some r:=by
 have hM:Mn C P o.op=false:=by
  cases hh:Mn C P o.op
  ·rfl
  ·rw[Rw hh] at hm;cases hm
 rw[Hq (by simp[E4,hM]),e]
 show Ar _ _=_;have RG:A3 hp nw=true:=ha;rw[hd,RG];exact h
theorem Ja {hp:Nat->Option A2}{nw:List (Nat × A2)} (ha:A3 hp nw=true){i:Nat}(hi:∀p∈nw,p.1≠i):Al hp nw i=hp i:=
 (C1 (Ax ha).2).2 i fun b hb=>hi _ hb rfl
theorem UX {hp Br:Nat->Option A2}{nw:List (Nat × A2)} (ha:A3 hp nw=true){g:Nat->Option A2}(h1:∀i,(∀p∈nw,p.1≠i)->g i=Br i) (h2:∀i,(∃p∈nw,p.1=i)->g i=Al hp nw i) (RG:A3 Br nw=true):g=Al Br nw:=by
 funext i
 by_cases h:∃p∈nw,p.1=i
 ·rw[h2 i h];obtain⟨⟨j,b⟩,hp,rfl⟩:=h;rw[(C1 (Ax ha).2).1 j b hp,(C1 (Ax RG).2).1 j b hp]
 ·have h':∀p∈nw,p.1≠i:=fun p hp e=>h ⟨p,hp,e⟩
  rw[h1 i h',Ja RG h']
theorem YH (ap:Sl C P ops x o)(hx:E4 C P ops x s.tm=true)
  (h:Cd C P N call ops x s (fun s1=>Cd C P N call ops o s1 K)=some r):Cd C P N call ops o s (fun s1=>Cd C P N call ops x s1 K)=some r:=by
 have hm:Fm P o.op=false:=ap.mx (by unfold E4 at hx;simp only[Bool.and_eq_true] at hx;exact hx.1)
 rw[Ga hx] at h;obtain⟨tm,hp⟩:=s;have look:∀v,∀t∈Cp ops o,A1 tm x.dst v t=tm t:=fun v=>C9 ap.xo
 have h1:=H6 (P:=P) (N:=N) (o:=x) (tm:=tm) (tm':=tm) (hp:=hp) (Ch:=hp) (K:=fun s1=>Cd C P N call ops o s1 K) (K':=fun _=>none)
  (Rel:=fun (a:Option R)(_:Option R)=>a=some r->∃v nw,gE C P N call ops o ⟨tm,hp⟩=some (v,[],nw)∧Ej N o.dst=true∧(∀p∈nw,o.dst=some p.1)∧A3 hp nw=true) (fun h=>by cases h) (fun _ _=>rfl) (fun _ _=>.inl rfl) (fun _ _=>rfl) (fun _ _=>rfl) (fun v Br _ hT h=>by
   obtain⟨u,nw,hu,hd,ha,hn,_⟩:=Tg hm h;refine⟨u,nw,BB hm (look v) hu,hd,hn,L4 ha fun i b hi=>?_⟩
   cases hh:hp i with
   |none=>rfl
   |some c=>exact absurd ((Ax ha).1 i b hi) (hT.keep i (by rw[hh];simp))) h
 obtain⟨v,nw,hv,hd,hn,ha⟩:=h1;refine Wy hm hv hd ha ?_;have t2:∀t∈Cp ops x,tm t=A1 tm o.dst v t:=fun t ht=>(C9 ap.ox t ht).symm
 rw[Ga (by rw[←Fg t2];exact hx)]
 refine H6 (P:=P) (N:=N) (o:=x) (tm:=tm) (tm':=A1 tm o.dst v) (hp:=hp) (Ch:=Al hp nw) (Rel:=fun (a b:Option R)=>a=some r->b=some r) (fun h=>by cases h) (Do t2) (fun i _=>?_) (fun d hxd=>?_) (fun i hi=>(Ja ha fun p hp e=>by have:=Mi hd (hn p hp);omega).symm) (fun u Br Dj hT h=>?_) h
 ·by_cases hi:∃p∈nw,p.1=i
  ·obtain⟨⟨j,b⟩,Ch,rfl⟩:=hi;exact .inr ⟨(Ax ha).1 j b Ch,fun _ h=>by cases h⟩
  ·exact .inl (Ja ha fun p hp e=>hi ⟨p,hp,e⟩).symm
 ·refine (Ja ha fun p hp e=>?_).symm
  have:=hn p hp;rw[e] at this;exact ap.ne d hxd this
 ·obtain⟨v',nw',Kt,_,RG,_,h'⟩:=Tg hm h;have he:=BB (Br:=hp) hm (look u) Kt;rw[hv] at he;simp only[Option.some.injEq,Prod.mk.injEq,true_and] at he;obtain⟨rfl,rfl⟩:=he
  have hh:Dj=Al Br nw:=by
   refine UX ha (fun i hi=>?_) (fun i hi=>?_) RG
   ·exact (hT.same i (Ja ha hi).symm).symm
   ·obtain⟨⟨j,b⟩,Ch,rfl⟩:=hi;refine (hT.off j (Mi hd (hn _ Ch)) (fun e=>ap.ne j e (hn _ Ch)) (.inr ((Ax ha).1 j b Ch))).2
  rw[hh,←H0 ap.ne];exact h'
theorem Aa3 (hw:HQ C P o s)(ap:Sl C P ops x o)(ho:E4 C P ops o s.tm=true)
  (h:Cd C P N call ops x s (fun s1=>Cd C P N call ops o s1 K)=some r):Cd C P N call ops o s (fun s1=>Cd C P N call ops x s1 K)=some r:=by
 have hm:Fm P x.op=false:=ap.mo (by unfold E4 at ho;simp only[Bool.and_eq_true] at ho;exact ho.1)
 obtain⟨tm,hp⟩:=s;obtain⟨v,nw,hv,hd,ha,hn,h1⟩:=Tg hm h;have t1:∀t∈Cp ops o,A1 tm x.dst v t=tm t:=C9 ap.xo;change Cd C P N call ops o ⟨A1 tm x.dst v,Al hp nw⟩ K=some r at h1;rw[Ga (by rw[Fg t1];exact ho)] at h1
 rw[Ga ho];have YE:Mn C P o.op=true:=by unfold E4 at ho;simp only[Bool.and_eq_true] at ho;exact ho.1
 have Ac4:∀i,Qc o tm hp i->hp i≠none:=by
  rintro i (⟨y,hy,hi⟩|⟨Oy,id,c,⟨y,hy,hi⟩,hc,p,Ch,hk⟩)
  ·exact hw.1 y hy i hi
  ·exact hw.2 YE Oy y hy id hi c hc p Ch i hk
 refine H6 (P:=P) (N:=N) (o:=o) (tm:=A1 tm x.dst v) (tm':=tm) (hp:=Al hp nw) (Ch:=hp) (Rel:=fun (a b:Option R)=>a=some r->b=some r) (fun h=>by cases h) (Do t1) (fun i hi=>?_) (fun d hod=>?_) (fun i hi=>Ja ha fun p hp e=>by have:=Mi hd (hn p hp);omega) (fun u Br Dj hT h=>?_) h1
 ·refine .inl (Ja ha fun p Br e=>Ac4 i hi ?_)
  rw[←e];exact (Ax ha).1 p.1 p.2 Br
 ·refine Ja ha fun p Br e=>?_
  have:=hn p Br;rw[e] at this;exact ap.ne d this hod
 ·have Lg:∀p∈nw,Br p.1=Al hp nw p.1∧Dj p.1=none:=by
   intro p hp2;have GN:=(Ax ha).1 p.1 p.2 hp2;have h3:=hT.off p.1 (Mi hd (hn p hp2)) (fun e=>ap.ne p.1 (hn p hp2) e) (.inl fun hL=>Ac4 _ hL GN)
   exact⟨h3.1,h3.2.trans GN⟩
  have RG:A3 Dj nw=true:=L4 ha fun i b hi=>(Lg (i,b) hi).2
  refine Wy hm (BB hm (fun t ht=>(C9 ap.ox t ht).symm) hv) hd RG ?_
  have hh:Br=Al Dj nw:=by
   refine UX ha (fun i hi=>?_) (fun i hi=>?_) RG
   ·exact hT.same i (Ja ha hi)
   ·obtain⟨p,hp2,rfl⟩:=hi;exact (Lg p hp2).1
  rw[←H0 ap.ne,←hh];exact h
theorem Ajz (hw:HQ C P o s)(ap:Sl C P ops x o)
  (h:Cd C P N call ops x s (fun s1=>Cd C P N call ops o s1 K)=some r):Cd C P N call ops o s (fun s1=>Cd C P N call ops x s1 K)=some r:=by
 cases hx:E4 C P ops x s.tm
 ·cases ho:E4 C P ops o s.tm
  ·exact ND hw ap.xo ap.ne ap.ox hx ho h
  ·exact Aa3 hw ap ho h
 ·exact YH ap hx h
theorem Hx (h:Oh P o.op=true):Mn C P o.op=false:=by
 unfold Oh at h;split at h
 ·rename_i ho;rw[ho];rfl
 ·rename_i ho;rw[ho];rfl
 ·cases h
def Yk (P:Program)(ops:Array Oper)(o:Oper)(tm:Nat->PV):Prop:=Oh P o.op=true∨Fa ops o tm=some false
theorem Qy {tm tm':Nat->PV}(h:∀t∈Cp ops o,tm t=tm' t)(hl:Yk P ops o tm):Yk P ops o tm':=by
 rcases hl with hl|hl
 ·exact .inl hl
 ·exact .inr (by rw[←H8 h];exact hl)
theorem Z9 {tm:Nat->PV}(hl:Yk P ops o tm):E4 C P ops o tm=false:=by
 rcases hl with hl|hl
 ·simp[E4,Hx hl]
 ·simp[E4,hl]
theorem MR {q:Qf}(hl:Yk P ops o s.tm)(h:gE C P N call ops o s=some q):q.2.1=[]∧q.2.2=[]:=by
 unfold gE at h;split at h
 ·cases h
 ·rename_i hv
  have hl:Oh P o.op=true:=by
   rcases hl with hl|hl
   ·exact hl
   ·rw[hv] at hl;cases hl
  rw[Hx hl] at h;have h:QG C P N call o s=some q:=h;unfold Oh at hl;split at hl
  ·rename_i t a ho;unfold QG Wx at h;rw[ho] at h
   have:=Zg (nz:=C.nz N) (P:=P) (f:=rd s.hp) (f':=rd s.hp) (g:=Ha s.hp) (g':=Ha s.hp) (t:=t) (x:=Bb s.tm a) (Rel:=fun (a b:Option Qf)=>∀q,a=some q->q.2.1=[]∧q.2.2=[])
    (K:=fun v=>some (v,[],[])) (K':=fun v=>some (v,[],[])) (fun _ h=>by cases h) (fun _ _=>.inl ⟨rfl,rfl⟩) (fun v q hq=>by cases hq;exact⟨rfl,rfl⟩)
   exact this q h
  ·rename_i src dst y ho;unfold QG Wx at h;rw[ho] at h;simp only at h;unfold W9 at h;split at hl
   ·rename_i hd;rw[hd] at h;simp only at h;split at h
    ·obtain⟨_,_,h⟩:=Cj h;obtain⟨_,_,h⟩:=Bp h;cases h;exact⟨rfl,rfl⟩
    ·split at h
     ·exact Ri (f:=Ha s.hp) (f':=Ha s.hp) (K':=fun _ _=>(none:Option Qf)) (Rel:=fun (a _:Option Qf)=>a=some q->q.2.1=[]∧q.2.2=[]) (fun h=>by cases h) (fun _ _=>.inl rfl) (fun n c h=>by
       obtain⟨_,h⟩:=Ag h;obtain⟨_,_,h⟩:=Bp h;obtain⟨_,_,h⟩:=Bp h;cases h;exact⟨rfl,rfl⟩) h
     ·cases h
    ·cases h
   ·cases hl
  ·cases hl
 ·cases h;exact⟨rfl,rfl⟩
theorem RA {tm tm':Nat->PV}{hp:Nat->Option A2}(h:∀t∈Cp ops o,tm t=tm' t){i:Nat}(hi:Qc o tm hp i):Qc o tm' hp i:=by
 have he:=Do (ops:=ops) (o:=o) h;rcases hi with⟨y,hy,hi⟩|⟨Oy,id,c,⟨y,hy,hi⟩,hc,q⟩
 ·exact .inl ⟨y,hy,by rw[←he y hy];exact hi⟩
 ·exact .inr ⟨Oy,id,c,⟨y,hy,by rw[←he y hy];exact hi⟩,hc,q⟩
theorem Ac6 {hp Br:Nat->Option A2}{i:Nat}(h:Br i=hp i):rd Br i=rd hp i∧Ha Br i=Ha hp i:=by
 unfold rd Ha;rw[h];exact⟨rfl,rfl⟩
theorem Tj {tm:Nat->PV}{hp:Nat->Option A2}(hl:Yk P ops o tm)(h:Cd C P N call ops o ⟨tm,hp⟩ K=some r):
  ∃v,gE C P N call ops o ⟨tm,hp⟩=some (v,[],[])∧Ej N o.dst=true∧K ⟨A1 tm o.dst v,hp⟩=some r:=by
 rw[Hq (Z9 hl)] at h;cases e:gE C P N call ops o ⟨tm,hp⟩ with
 |none=>rw[e] at h;cases h
 |some q=>
  obtain⟨v,fz,nw⟩:=q;obtain⟨h1,h2⟩:=MR hl e;simp only at h1 h2;subst h1;subst h2;rw[e] at h;obtain⟨hb,h⟩:=Ag h;simp only[Bool.and_eq_true] at hb;exact⟨v,rfl,hb.1,h⟩
theorem Wj {tm:Nat->PV}{hp:Nat->Option A2}{v:PV}(hl:Yk P ops o tm)(e:gE C P N call ops o ⟨tm,hp⟩=some (v,[],[])) (hd:Ej N o.dst=true)(h:K ⟨A1 tm o.dst v,hp⟩=some r):Cd C P N call ops o ⟨tm,hp⟩ K=some r:=by
 rw[Hq (Z9 hl),e];show Ar _ _=_;have ha:A3 hp []=true:=rfl;simp only[hd,ha,Bool.and_self];exact h
theorem Abm (hw:HQ C P o s)(xo:∀d,x.dst=some d->d ∉ Cp ops o)(ne:∀d,x.dst=some d->o.dst≠some d)(ox:∀d,o.dst=some d->d ∉ Cp ops x)(hl:Yk P ops o s.tm)
  (DY:∀y∈o.op.operands.toList,∀i∈A8 (Bb s.tm y),¬Qc x s.tm s.hp i) (hx:E4 C P ops x s.tm=true)
  (h:Cd C P N call ops x s (fun s1=>Cd C P N call ops o s1 K)=some r):Cd C P N call ops o s (fun s1=>Cd C P N call ops x s1 K)=some r:=by
 rw[Ga hx] at h;obtain⟨tm,hp⟩:=s;have look:∀v,∀t∈Cp ops o,A1 tm x.dst v t=tm t:=fun v=>C9 xo
 have back:∀{u:PV} {Br:Nat->Option A2} {q:Qf},(∀y∈o.op.operands.toList,∀i∈A8 (Bb tm y),Br i=hp i)->gE C P N call ops o ⟨A1 tm x.dst u,Br⟩=some q->gE C P N call ops o ⟨tm,hp⟩=some q:=
  fun hh e=>Rd (s:=⟨A1 tm x.dst _,_⟩) (s':=⟨tm,hp⟩) (look _) (fun _ y hy i hi=>.inl (Ac6 (hh y hy i hi))) e
 have h1:=H6 (P:=P) (N:=N) (o:=x) (tm:=tm) (tm':=tm) (hp:=hp) (Ch:=hp) (K:=fun s1=>Cd C P N call ops o s1 K) (K':=fun _=>none)
  (Rel:=fun (a:Option R)(_:Option R)=>a=some r->∃v,gE C P N call ops o ⟨tm,hp⟩=some (v,[],[])∧Ej N o.dst=true) (fun h=>by cases h) (fun _ _=>rfl) (fun _ _=>.inl rfl) (fun _ _=>rfl) (fun _ _=>rfl) (fun v Br _ hT h=>by
   obtain⟨u,hu,hd,_⟩:=Tj (Qy (fun t ht=>(look v t ht).symm) hl) h
   exact⟨u,back (fun y hy i hi=>hT.far i (DY y hy i hi) (hw.1 y hy i hi)) hu,hd⟩) h
 obtain⟨v,hv,hd⟩:=h1;refine Wj hl hv hd ?_;have t2:∀t∈Cp ops x,tm t=A1 tm o.dst v t:=fun t ht=>(C9 ox t ht).symm
 rw[Ga (by rw[←Fg t2];exact hx)]
 refine H6 (P:=P) (N:=N) (o:=x) (tm:=tm) (tm':=A1 tm o.dst v) (hp:=hp) (Ch:=hp) (Rel:=fun (a b:Option R)=>a=some r->b=some r) (fun h=>by cases h) (Do t2) (fun _ _=>.inl rfl) (fun _ _=>rfl) (fun _ _=>rfl) (fun u Br Dj hT h=>?_) h
 have e1:Br=Dj:=funext fun i=>hT.same i rfl
 subst e1;obtain⟨v',Kt,_,h'⟩:=Tj (Qy (fun t ht=>(look u t ht).symm) hl) h
 have he:=back (fun y hy i hi=>hT.far i (fun hR=>DY y hy i hi (RA (fun t ht=>(t2 t ht).symm) hR)) (hw.1 y hy i hi)) Kt
 rw[hv] at he;simp only[Option.some.injEq,Prod.mk.injEq,and_true] at he;subst he;rw[←H0 ne];exact h'
theorem Abt (xo:∀d,x.dst=some d->d ∉ Cp ops o)(ne:∀d,x.dst=some d->o.dst≠some d)(ox:∀d,o.dst=some d->d ∉ Cp ops x)(hl:Yk P ops x s.tm)
  (DY:∀y∈x.op.operands.toList,∀i∈A8 (Bb s.tm y),¬Qc o s.tm s.hp i) (ho:E4 C P ops o s.tm=true)
  (h:Cd C P N call ops x s (fun s1=>Cd C P N call ops o s1 K)=some r):Cd C P N call ops o s (fun s1=>Cd C P N call ops x s1 K)=some r:=by
 obtain⟨tm,hp⟩:=s;obtain⟨v,hv,hd,h1⟩:=Tj hl h;have t1:∀t∈Cp ops o,A1 tm x.dst v t=tm t:=C9 xo;rw[Ga (by rw[Fg t1];exact ho)] at h1
 rw[Ga ho];refine H6 (P:=P) (N:=N) (o:=o) (tm:=A1 tm x.dst v) (tm':=tm) (hp:=hp) (Ch:=hp) (Rel:=fun (a b:Option R)=>a=some r->b=some r) (fun h=>by cases h) (Do t1) (fun _ _=>.inl rfl) (fun _ _=>rfl) (fun _ _=>rfl) (fun u Br Dj hT h=>?_) h1
 have e1:Br=Dj:=funext fun i=>hT.same i rfl
 subst e1;have t2:∀t∈Cp ops x,tm t=A1 tm o.dst u t:=fun t ht=>(C9 ox t ht).symm
 refine Wj (Qy t2 hl) (Rd (s:=⟨tm,hp⟩) (s':=⟨A1 tm o.dst u,Br⟩) t2 (fun _ y hy i hi=>?_) hv) hd ?_
 ·have hi:i∈A8 (Bb tm y):=by rw[Do t2 y hy];exact hi
  by_cases hn:hp i=none
  ·exact .inr ⟨LK hn,Ic hn⟩
  ·obtain⟨h3,h4⟩:=Ac6 (hT.far i (DY y hy i hi) hn);exact .inl ⟨h3.symm,h4.symm⟩
 ·rw[←H0 ne];exact h
def Zn (P:Program)(x:Oper)(s s1:St):Prop:=(∀t,x.dst≠some t->s1.tm t=s.tm t)∧(∀i,s.hp i≠none->s1.hp i≠none)∧(Fm P x.op=false->∀i,s.hp i≠none->s1.hp i=s.hp i)
theorem Kz {tm:Nat->PV}{d:Option Tmp}{v:PV}{t:Nat}(h:d≠some t):A1 tm d v t=tm t:=by
 cases d with
 |none=>rfl
 |some d=>exact Ae _ _ (by rintro rfl;exact h rfl)
theorem Xt {K':St->Option R}(h:Cd C P N call ops x s K=some r)(hK:∀s1,Zn P x s s1->K s1=some r->K' s1=some r):Cd C P N call ops x s K'=some r:=by
 cases hx:E4 C P ops x s.tm
 ·rw[Hq hx] at h ⊢;cases ex:gE C P N call ops x s with
  |none=>rw[ex] at h;cases h
  |some q=>
   rw[ex] at h;obtain⟨hb,h1⟩:=Ag h;simp only[Bool.and_eq_true] at hb;show Ar _ _=_;rw[hb.1,hb.2];refine hK _ ⟨fun t ht=>Kz ht,fun i hi=>J9 hb.2 hi,fun hm i hi=>?_⟩ h1
   show Al (Ac s.hp q.2.1) q.2.2 i=s.hp i;rw[Ed hb.2 hi,((N7 ex).1 hm).1];simp
 ·rw[Ga hx] at h ⊢
  exact Xy (P:=P) (N:=N) (o:=x) (tm:=s.tm) (tm':=s.tm) (hp:=s.hp) (Rel:=fun (a b:Option R)=>a=some r->b=some r) (fun h=>by cases h) (fun _ _=>rfl) (fun v Br hh h=>hK _ ⟨fun t ht=>Kz ht,hh,fun hm=>by
   have hM:Mn C P x.op=true:=by unfold E4 at hx;simp only[Bool.and_eq_true] at hx;exact hx.1
   rw[Rw hM] at hm;cases hm⟩ h) h
theorem HQ.keeps {s1:St}(h:HQ C P o s)(ap:Sl C P ops x o)(hk:Zn P x s s1):HQ C P o s1:=by
 have RH:∀y∈o.op.operands.toList,Bb s1.tm y=Bb s.tm y:=fun y hy=>Do (ops:=ops) (o:=o) (fun t ht=>hk.1 t fun hd=>ap.xo t hd ht) y hy
 refine⟨fun y hy i hi=>?_,fun hM hA y hy i hi c hc p hp k hkk=>?_⟩
 ·rw[RH y hy] at hi;exact hk.2.1 i (h.1 y hy i hi)
 ·rw[RH y hy] at hi;have KS:=h.1 y hy i hi;rw[hk.2.2 (ap.mo hM) i KS] at hc;exact hk.2.1 k (h.2 hM hA y hy i hi c hc p hp k hkk)
theorem W5:∀(l:List Oper){s:St}{K:St->Option R},HQ C P o s->(∀x∈l,Sl C P ops x o)->Jz C P N call ops l s (fun s1=>Cd C P N call ops o s1 K)=some r->Cd C P N call ops o s (fun s1=>Jz C P N call ops l s1 K)=some r
 |[],_,_,_,_,h=>h
 |x::l,s,K,hw,ap,h=>by
  refine Ajz hw (ap x (by simp)) ?_
  refine Xt (K:=fun s1=>Jz C P N call ops l s1 (fun s2=>Cd C P N call ops o s2 K)) h fun s1 hk h1=>?_
  exact W5 l (hw.keeps (ap x (by simp)) hk) (fun y hy=>ap y (List.mem_cons_of_mem _ hy)) h1
theorem Ow:∀(l l':List Oper){s:St}{K:St->Option R},Jz C P N call ops (l++l') s K=Jz C P N call ops l s (fun s1=>Jz C P N call ops l' s1 K)
 |[],_,_,_=>rfl
 |x::l,l',s,K=>by
  show Cd C P N call ops x s (fun s1=>Jz C P N call ops (l++l') s1 K)=Cd C P N call ops x s (fun s1=>Jz C P N call ops l s1 _)
  congr 1
  funext s1
  exact Ow l l'
theorem NU {l l':List Oper}(hw:HQ C P o s)(ap:∀x∈l,Sl C P ops x o)(h:Jz C P N call ops (l++o::l') s K=some r):Cd C P N call ops o s (fun s1=>Jz C P N call ops (l++l') s1 K)=some r:=by
 rw[Ow] at h;have:=W5 l hw ap h;refine Xt this fun s1 _ h1=>?_
 rw[Ow];exact h1
end
open Go.RowKit
section
variable {R:Type} {r:R} {P:Program} {N:Nat} {w0:World} {X0:Fw} {Y:Nat->Prop} {β β':Bt} {s:St} {a:Act} {w w':World} {o:Oper} {ops:Array Oper} {C:Fd} {call:Aj} {K:St->Option R}
theorem V7 (h:Bs N w0 X0 Y β s a w){j d:Nat}(hd:(ops[j]?).bind (·.dst)=some d) {v:Value}(ht:s.tm d=.sc v):yielded ops a.tmps j=match v with | .bool b=>some b|_=>none:=by
 have Bl:d<N:=by
  rcases Nat.lt_or_ge d N with h'|h'
  ·exact h'
  ·rw[h.tmo d h'] at ht;cases ht
 have hv:=h.tms d Bl;rw[ht] at hv;have hv:=Ty hv;have SC:d<a.tmps.size:=by rw[h.tsz];exact Bl
 have he:a.tmps[d]?=some v:=by
  rw[Array.getElem?_eq_getElem SC];simp[SC] at hv;rw[hv]
 unfold yielded;rw[hd];simp only[Option.bind_some,he];cases v<;>rfl
theorem Qb (h:Bs N w0 X0 Y β s a w){G:Glo}(H9:ET P G w0 X0)(Cr:∀f args res,call f args=some res->Dl G P f args res){i:Nat}(hi:ops[i]?=some o) (hk:Cd C P N call ops o s K=some r):
  ∃s',K s'=some r∧∀(next:Act->World->Prop) (Q:Exit->Act->World->Prop),(∀a' w' β',Bs N w0 X0 Y β' s' a' w'->next a' w')->wpOp P ops Q i next a w:=by
 rw[CF] at hk
 have hw:∀b,Fa ops o s.tm=some b->Region.wanted o (yielded ops a.tmps)=b:=by
  intro b hb;unfold Fa at hb;unfold Region.wanted;cases hg:o.guard with
  |none=>rw[hg] at hb;simpa using hb
  |some q=>
   obtain⟨j,want⟩:=q;rw[hg] at hb;simp only at hb ⊢;cases hd:(ops[j]?).bind (·.dst) with
   |none=>rw[hd] at hb;cases hb
   |some d=>
    rw[hd] at hb;simp only at hb;split at hb
    ·rename_i b' ht;rw[V7 h hd ht];simp at hb;rw[←hb];cases b'<;>cases want<;>rfl
    ·rename_i ht;rw[V7 h hd ht];simp at hb;rw[hb];rfl
    ·cases hb
 split at hk
 ·cases hk
 ·rename_i hv;obtain⟨s',hs',hn⟩:=JL h H9 Cr hk;refine⟨s',hs',fun next Q VO=>?_⟩
  unfold wpOp;rw[hi];simp only[hw _ hv,if_true];exact .inl (hn next Q VO)
 ·rename_i hv;obtain⟨hd,hk⟩:=Ag hk;refine⟨_,hk,fun next Q VO=>?_⟩
  unfold wpOp;rw[hi];simp only[hw _ hv];refine VO _ _ β (h.put hd (Ap.sc _) (by simp[A8,Bh,Ak]))
theorem Bs.known (h:Bs N w0 X0 Y β s a w){d:Nat}(hd:s.tm d=.ub):∃b,Bs N w0 X0 Y β ⟨Bi s.tm d (.sc (.bool b)),s.hp⟩ a w:=by
 have Bl:d<N:=by
  rcases Nat.lt_or_ge d N with h'|h'
  ·exact h'
  ·rw[h.tmo d h'] at hd;cases hd
 have hu:=h.tms d Bl;rw[hd] at hu;have Gs:Ap w (B1 s.hp β Y) .ub (a.tmps.getD d undef):=hu
 obtain⟨b,hv⟩:∃b,a.tmps.getD d undef=.bool b:=by
  generalize a.tmps.getD d undef=x at Gs;cases Gs with
  |ub b=>exact⟨b,rfl⟩
 refine⟨b,⟨h.dfr,h.tsz,fun i hi=>?_,fun i hi=>?_,h.box,h.inj,h.blt,fun i hi=>?_,h.wfB,h.ownd,h.rngB,h.pin,h.stp,h.Yx,h.Ylt,h.fr⟩⟩
 ·show Bi s.tm d _ i=_;rw[Ae _ _ (by omega)]
  exact h.tmo i hi
 ·by_cases e:i=d
  ·subst e;show C4 _ _ _ (Bi s.tm i _ i) _;rw[Ah,hv];exact Ap.sc _
  ·show C4 _ _ _ (Bi s.tm d _ i) _;rw[Ae _ _ e];exact h.tms i hi
 ·by_cases e:i=d
  ·subst e;show ∀id∈A8 (Bi s.tm i _ i),_;rw[Ah];simp[A8,Bh,Ak]
  ·show ∀id∈A8 (Bi s.tm d _ i),_;rw[Ae _ _ e];exact h.wfT i hi
theorem Y7 {x y:Option R}(h:Uy x y=some r):x=some r∧y=some r:=by
 unfold Uy at h;split at h
 ·rename_i e;exact⟨h,e ▸ h⟩
 ·cases h
theorem CP (h:Bs N w0 X0 Y β s a w){F:St->Option R}(hk:KB ops o s F=some r):∃s',F s'=some r∧Bs N w0 X0 Y β s' a w:=by
 unfold KB at hk;split at hk
 ·exact⟨s,hk,h⟩
 ·split at hk
  ·exact⟨s,hk,h⟩
  ·split at hk
   ·rename_i d _ ht;obtain⟨b,hb⟩:=h.known ht;obtain⟨h1,h2⟩:=Y7 hk;cases b
    ·exact⟨_,h2,hb⟩
    ·exact⟨_,h1,hb⟩
   ·exact⟨s,hk,h⟩
theorem Rj {G:Glo}(H9:ET P G w0 X0)(Cr:∀f args res,call f args=some res->Dl G P f args res){Q:Exit->Act->World->Prop}(hQ:∀s' a' w' β',K s'=some r->Bs N w0 X0 Y β' s' a' w'->Q .normal a' w'):
  ∀(l:List Nat) (os:List Oper),l.length=os.length->(∀(k i:Nat),l[k]?=some i->ops[i]?=os[k]?)->∀{s:St} {a:Act} {w:World} {β:Bt},Bs N w0 X0 Y β s a w->CA C P N call ops os s K=some r->wpOps P ops Q l a w
 |[],[],_,_,s,a,w,β,h,hk=>by
  show Q .normal a w;exact hQ s a w β hk h
 |[],_::_,hl,_,_,_,_,_,_,_=>by cases hl
 |_::_,[],hl,_,_,_,_,_,_,_=>by cases hl
 |i::l,o::os,hl,hi,s,a,w,β,h,hk=>by
  rw[wpOps_cons];obtain⟨s1,hk,h⟩:=CP h hk;obtain⟨s',hs',hn⟩:=Qb h H9 Cr (by simpa using hi 0 i rfl) hk
  exact hn _ _ fun a' w' β' h'=>Rj H9 Cr hQ l os (by simpa using hl) (fun k j hj=>by simpa using hi (k+1) j (by simpa using hj)) h' hs'
theorem Bs.drew (h:Bs N w0 X0 Y β s a w):Bs N w0 X0 Y β s a { w with drawn:=w.drawn+1 }:=by
 have:=h.stepR (d:=none) (v:=.top) (nw:=[]) (val:=undef) (w':={ w with drawn:=w.drawn+1 }) (β':=β) rfl rfl
  ⟨rfl,rfl,rfl,⟨Nat.le_refl _,fun _ _ _=>rfl,fun _ _=>Gt.refl _ _⟩,fun _ _=>rfl,by simp,by simp,by simp,by simp,by simp,.top _,by simp[A8,Bh,Ak]⟩
 exact this
theorem BN (h:Bs N w0 X0 Y β s a w){G:Glo}(H9:ET P G w0 X0)(Cr:∀f args res,call f args=some res->Dl G P f args res){id:Nat}{Q:Exit->Act->World->Prop}
  (hk:CA C P N call ops ops.toList s K=some r)(hQ:∀s' a' w' β',K s'=some r->Bs N w0 X0 Y β' s' a' w'->Q .normal a' w'):(Code.region id ops false).wp P Q a w:=by
 refine wp_region (Rj H9 Cr hQ (List.range ops.size) ops.toList (by simp) (fun k i hi=>?_) h hk)
 rw[List.getElem?_range] at hi
 ·simp at hi;subst hi;simp
 ·rcases Nat.lt_or_ge k ops.size with h'|h'
  ·exact h'
  ·rw[List.getElem?_eq_none (by simpa using h')] at hi;cases hi
def Jb (n:Nat)(listed:Array Bool):List Nat:=(List.range n).filter fun i=> !listed.getD i true
def Afi (ops:Array Oper)(listed:Array Bool)(o:Oper):Prop:=∀e∈o.after,Region.binds .any e=true->listed.getD e.on false=true
theorem testBit_or {a b j:Nat}:(a ||| b).testBit j=(a.testBit j||b.testBit j):=Nat.testBit_or a b j
theorem Zl {acc:List Nat}{j:Nat}:∀(es:List Edge)(v:Nat),(es.foldl (fun s e=>bif Region.binds .any e then s ||| 2 ^ e.on ||| acc.getD e.on 0 else s) v).testBit j=true ->
  v.testBit j=true∨∃e∈es,Region.binds .any e=true∧(j=e.on∨(acc.getD e.on 0).testBit j=true)
 |[],v,h=>.inl h
 |e::es,v,h=>by
  rcases Zl es _ h with h|⟨e',he',h⟩
  ·cases hb:Region.binds .any e<;>simp only[hb] at h
   ·exact .inl h
   ·simp only[cond_true,Nat.testBit_or,Bool.or_eq_true] at h;rcases h with (h|h)|h
    ·exact .inl h
    ·refine .inr ⟨e,by simp,hb,.inl ?_⟩
     rw[Nat.testBit_two_pow] at h;exact (of_decide_eq_true h).symm
    ·exact .inr ⟨e,by simp,hb,.inr h⟩
  ·exact .inr ⟨e',by simp[he'],h⟩
theorem M1 {listed:Array Bool}(hc:∀(j:Nat) oj,ops[j]?=some oj->listed.getD j false=true->Afi ops listed oj):
  ∀(rest done:List Oper) (acc:List Nat),ops.toList=done++rest->acc.length=done.length ->
   (∀(k:Nat) o,done[k]?=some o->Afi ops listed o->∀j,(acc.getD k 0).testBit j=true->listed.getD j false=true) ->
   ∀(k:Nat) o,ops[k]?=some o->Afi ops listed o->∀j,((F5 rest acc).getD k 0).testBit j=true->listed.getD j false=true
 |[],done,acc,he,_,h,k,o,ho,hf,j,hj=>by
  refine h k o ?_ hf j hj;rw[List.append_nil] at he;rw[←he]
  simpa using ho
 |o'::rest,done,acc,he,hl,h,k,o,ho,hf,j,hj=>by
  refine M1 hc rest (done++[o']) _ (by rw[he];simp) (by simp[hl]) ?_ k o ho hf j hj
  intro k o ho hf j hj;rcases Nat.lt_trichotomy k done.length with Bl|heq|hgt
  ·rw[List.getElem?_append_left Bl] at ho;rw[List.getD_eq_getElem?_getD,List.getElem?_append_left (by omega),←List.getD_eq_getElem?_getD] at hj
   exact h k o ho hf j hj
  ·subst heq;simp at ho;subst ho;rw[←hl] at hj;simp only[List.getD_eq_getElem?_getD,List.getElem?_append_right (Nat.le_refl _),Nat.sub_self,List.getElem?_cons_zero,Option.getD_some] at hj
   have hj:(o'.after.toList.foldl (fun s e=>bif Region.binds .any e then s ||| 2 ^ e.on ||| acc.getD e.on 0 else s) 0).testBit j=true:=by
    simpa only[List.getD_eq_getElem?_getD] using hj
   rcases Zl _ _ hj with h0|⟨e,hm,hb,h1⟩
   ·simp at h0
   ·have Xp:=hf e (by simpa using hm) hb
    rcases h1 with h1|h1
    ·rw[h1];exact Xp
    ·cases hd:done[e.on]? with
     |none=>
      have:acc.getD e.on 0=0:=by
       rw[List.getD_eq_getElem?_getD,List.getElem?_eq_none (by rw[hl];exact List.getElem?_eq_none_iff.1 hd)]
       rfl
      rw[this] at h1;simp at h1
     |some oe=>
      have hoe:ops[e.on]?=some oe:=by
       rw[←Array.getElem?_toList,he,List.getElem?_append_left (by
        rcases Nat.lt_or_ge e.on done.length with h'|h'
        ·exact h'
        ·rw[List.getElem?_eq_none h'] at hd;cases hd)]
       exact hd
      exact h e.on oe hd (hc e.on oe hoe Xp) j h1
  ·rw[List.getElem?_eq_none (by simp;omega)] at ho
   cases ho
theorem Sa {bs:List Nat}:∀(l:List Oper)(n:Nat),Vu C P ops bs l n=true->∀(k:Nat) o,l[k]?=some o->∀(j:Nat) x,ops[j]?=some x->j<n+k->W3 C P ops x o=true->(bs.getD (n+k) 0).testBit j=true
 |[],_,_,k,o,ho,_,_,_,_,_=>by simp at ho
 |o'::l,n,h,k,o,ho,j,x,hx,hj,Lc=>by
  simp only[Vu,Bool.and_eq_true] at h;cases k with
  |zero=>
   simp at ho;subst ho
   have:=List.all_eq_true.1 h.1 (x,j) (by
    rw[List.mem_zipIdx_iff_getElem?]
    simpa using hx)
   simp only[Lc,Bool.not_true,Bool.or_false,Bool.or_eq_true,Bool.not_eq_true'] at this;rcases this with h'|h'
   ·have:Nat.blt j n=true:=Nat.ble_eq_true_of_le (by omega)
    rw[this] at h';cases h'
   ·exact h'
  |succ k=>
   have:=Sa l (n+1) h.2 k o (by simpa using ho) j x hx (by omega) Lc
   rwa [show n+(k+1)=n+1+k by omega]
theorem G2 {n i:Nat}{listed:Array Bool}:i∈Jb n listed↔i<n∧listed.getD i true=false:=by
 unfold Jb;simp[List.mem_filter]
theorem Qx {n i:Nat}{listed:Array Bool}(hi:i∈Jb n listed)(Jl:listed.size=n):∃l1 l2,Jb n listed=l1++i::l2∧Jb n (listed.setIfInBounds i true)=l1++l2∧∀j∈l1,j<i:=by
 obtain⟨Bl,Hc⟩:=G2.1 hi
 have hr:List.range n=List.range i++i::(List.range (n-i-1)).map (i+1 + ·):=by
  conv=>lhs;rw[show n=i+(1+(n-i-1)) by omega]
  rw[List.range_add,List.range_add];simp[Nat.add_assoc]
 refine⟨(List.range i).filter fun i=> !listed.getD i true,((List.range (n-i-1)).map (i+1 + ·)).filter fun i=> !listed.getD i true,?_,?_,fun j hj=>?_⟩
 ·unfold Jb;rw[hr,List.filter_append,List.filter_cons_of_pos (by rw[Hc];rfl)]
 ·unfold Jb;rw[hr,List.filter_append,List.filter_cons_of_neg (by simp[Jl,Bl])]
  congr 1
  ·refine List.filter_congr fun j hj=>?_
   rw[getD_set_ne true (by have:=List.mem_range.1 hj;omega)]
  ·refine List.filter_congr fun j hj=>?_
   obtain⟨k,_,rfl⟩:=List.mem_map.1 hj;rw[getD_set_ne true (by omega)]
 ·exact List.mem_range.1 (List.mem_filter.1 hj).1
theorem UC (h:Bs N w0 X0 Y β s a w)(o:Oper):HQ C P o s:=by
 refine⟨fun y _ i hi=>Df h y i hi,fun _ _ y _ i hi c hc p hp k hk=>h.wfB i c hc p hp k hk⟩
theorem AB (VG:(ops.toList.zipIdx.all fun q=>q.1.after.toList.all fun e=> !Region.binds .any e||Nat.blt e.on q.2)=true) {listed:Array Bool}(inv:HeadInv .any ops ops.size listed)(hr:Region.ready .any ops listed=[]):Jb ops.size listed=[]:=by
 cases hp:Jb ops.size listed with
 |nil=>rfl
 |cons i l=>
  exfalso;have hi:i∈Jb ops.size listed:=by rw[hp];simp
  obtain⟨Bl,Hc⟩:=G2.1 hi;obtain⟨l1,l2,h1,_,h3⟩:=Qx hi inv.size
  have Xp:l1=[]:=by
   cases l1 with
   |nil=>rfl
   |cons j l1=>
    rw[hp] at h1;simp at h1;have:=h3 j (by simp)
    omega
  subst Xp
  have Ann:∀j,j<i->listed.getD j false=true:=by
   intro j hj;cases hh:listed.getD j false with
   |true=>rfl
   |false=>
    have:j∈Jb ops.size listed:=G2.2 ⟨by omega,getD_in (by rw[inv.size];omega) hh⟩
    have hs:(Jb ops.size listed).Pairwise (· < ·):=List.Pairwise.filter _ List.pairwise_lt_range
    rw[h1] at this hs;simp at this;rcases this with e|e
    ·omega
    ·have:=(List.pairwise_cons.1 hs).1 j e;omega
  have:i∈Region.ready .any ops listed:=by
   refine mem_ready.2 ⟨Hc,ops[i],Array.getElem?_eq_getElem Bl,fun e he hb=>Ann _ ?_⟩
   have:=List.all_eq_true.1 VG (ops[i],i) (by
    rw[List.mem_zipIdx_iff_getElem?];simp[Bl])
   have:=List.all_eq_true.1 this e (Array.mem_toList_iff.2 he);simp only[hb,Bool.not_true,Bool.false_or] at this;exact Nat.lt_of_succ_le (Nat.le_of_ble_eq_true this)
  rw[hr] at this;simp at this
theorem CR {G:Glo}(H9:ET P G w0 X0)(Cr:∀f args res,call f args=some res->Dl G P f args res)(Kh:Yy C P ops=true){Q:Exit->Act->World->Prop}(hQ:∀s' a' w' β',K s'=some r->Bs N w0 X0 Y β' s' a' w'->Q .normal a' w'):
  ∀(fuel:Nat) {listed:Array Bool} {s:St} {a:Act} {w:World} {β:Bt},HeadInv .any ops ops.size listed->(Jb ops.size listed).length=fuel->Bs N w0 X0 Y β s a w->Jz C P N call ops ((Jb ops.size listed).filterMap (ops[·]?)) s K=some r->wpAny P .any ops Q fuel listed a w:=by
 unfold Yy at Kh;simp only[Bool.and_eq_true] at Kh;obtain⟨VG,Agv⟩:=Kh;intro fuel
 induction fuel with
 |zero=>
  intro listed s a w β inv hf h hk;have hp:=List.eq_nil_of_length_eq_zero hf;rw[hp] at hk;refine⟨?_,hQ s a w β hk h⟩;cases hr:Region.ready .any ops listed with
  |nil=>rfl
  |cons i l=>
   exfalso;have hi:i∈Region.ready .any ops listed:=by rw[hr];simp
   obtain⟨Hc,o,ho,_⟩:=mem_ready.1 hi;have:i∈Jb ops.size listed:=G2.2 ⟨(Array.getElem?_eq_some_iff.1 ho).1,Hc⟩;rw[hp] at this;simp at this
 |succ fuel ih=>
  intro listed s a w β inv hf h hk;refine⟨fun hr=>?_,fun i hi=>?_⟩
  ·rw[AB VG inv hr] at hf;cases hf
  ·obtain⟨Hc,o,ho,Ko⟩:=mem_ready.1 hi;have Bl:i<ops.size:=(Array.getElem?_eq_some_iff.1 ho).1;obtain⟨l1,l2,h1,h2,h3⟩:=Qx (G2.2 ⟨Bl,Hc⟩) inv.size;rw[h1,List.filterMap_append,List.filterMap_cons_some ho] at hk
   have Oy:∀x∈l1.filterMap (ops[·]?),Sl C P ops x o:=by
    intro x hx;obtain⟨j,hj,hxj⟩:=List.mem_filterMap.1 hx;refine TQ ?_;cases Lc:W3 C P ops x o with
    |false=>rfl
    |true=>
     exfalso;have Km:=Sa ops.toList 0 Agv i o (by simpa using ho) j x hxj (by have:=h3 j hj;omega) Lc
     rw[Nat.zero_add] at Km;have hjl:=M1 (listed:=listed) (fun j oj hj hl=>inv.closed j oj hj hl) ops.toList [] [] (by simp) rfl (by simp) i o ho Ko j Km
     have:j∈Jb ops.size listed:=by rw[h1];simp[hj]
     have:=getD_both (G2.1 this).2;rw[hjl] at this;cases this
   obtain⟨s',hs',hn⟩:=Qb h H9 Cr ho (NU (UC h o) Oy hk);refine hn _ _ fun a' w' β' h'=>ih (inv.set hi Bl) ?_ h' ?_
   ·rw[h2];rw[h1] at hf;simp at hf ⊢;omega
   ·rw[h2,List.filterMap_append];exact hs'
theorem Tq (h:Bs N w0 X0 Y β s a w){G:Glo}(H9:ET P G w0 X0)(Cr:∀f args res,call f args=some res->Dl G P f args res)(hm:P.follows .mixedOrders=true)(Kh:Yy C P ops=true){Q:Exit->Act->World->Prop}
  (hk:Jz C P N call ops ops.toList s K=some r)(hQ:∀s' a' w' β',K s'=some r->Bs N w0 X0 Y β' s' a' w'->Q .normal a' w'):wpAny P .any ops Q ops.size (Array.replicate ops.size false) a { w with drawn:=w.drawn+1 }:=by
 have hp:Jb ops.size (Array.replicate ops.size false)=List.range ops.size:=by
  unfold Jb;refine List.filter_eq_self.2 fun i hi=>?_
  have:=List.mem_range.1 hi;simp[this]
 refine CR (C:=C) H9 Cr Kh hQ ops.size ⟨by simp,fun j oj _ hl=>(by rw[getD_replicate_false] at hl;cases hl),fun t ht ht'=>by omega⟩ (by rw[hp];simp) h.drew ?_
 rw[hp]
 have:(List.range ops.size).filterMap (ops[·]?)=ops.toList:=by
  refine List.ext_getElem? fun k=>?_
  have:∀(n:Nat),n<=ops.size->(List.range n).filterMap (ops[·]?)=ops.toList.take n:=by
   intro n
   induction n with
   |zero=>intro _;rfl
   |succ n ih=>
    intro hn;rw[List.range_succ,List.filterMap_append,ih (by omega),List.take_add_one]
    congr 1
    have:ops[n]?=some ops[n]:=Array.getElem?_eq_getElem (by omega)
    simp[this]
  rw[this ops.size (Nat.le_refl _)]
  congr 1
  exact List.take_of_length_le (by simp)
 rw[this];exact hk
theorem AZ (h:Bs N w0 X0 Y β s a w){G:Glo}(H9:ET P G w0 X0)(Cr:∀f args res,call f args=some res->Dl G P f args res)(hm:P.follows .mixedOrders=true)(Kh:Yy C P ops=true){id:Nat}{Q:Exit->Act->World->Prop}
  (hk:Jz C P N call ops ops.toList s K=some r)(hQ:∀s' a' w' β',K s'=some r->Bs N w0 X0 Y β' s' a' w'->Q .normal a' w'):(Code.region id ops true).wp P Q a w:=
 wp_region_any hm (Tq h H9 Cr hm Kh hk hQ)
end
end
section
open Go.RowKit
section
variable {R R':Type} {Rel:Option R->Option R'->Prop} {P:Program} {N:Nat} {tm tm':Nat->PV} {hp Ch:Nat->Option A2} {o:Oper}
theorem PG (hn:Rel none none){C:Fd}{call:Aj}{K:St->Option R}{K':St->Option R'}(Oy:Kd o.op=true)(Ho:∀x∈o.op.operands.toList,Bb tm x=Bb tm' x)
  (hS:∀i,Qc o tm' Ch i->hp i=Ch i∨(hp i=none∧∀b,Rel none b)) (RQ:∀d,o.dst=some d->hp d=Ch d)
  (hK:∀v Br Dj,(∀M,Yo M (Qc o tm' Ch) o.dst hp Ch Br Dj)->Rel (K ⟨A1 tm o.dst v,Br⟩) (K' ⟨A1 tm' o.dst v,Dj⟩)):Rel (Pr C P N call ⟨tm,hp⟩ o K) (Pr C P N call ⟨tm',Ch⟩ o K'):=by
 unfold Pr;have hl:∀x∈o.op.operands.toList,∀i∈A8 (Bb tm' x),Qc o tm' Ch i:=fun x hx i hi=>.inl ⟨x,hx,hi⟩
 generalize hLd:Qc o tm' Ch=S at *
 generalize RH:o.op=op at *
 unfold Kd at Oy;split at Oy
 ·rename_i c
  have H5:∀x∈c.args.toList,x∈(Op.call c).operands.toList:=by
   intro x hx;simp only[Op.operands,Call.operands,Array.toList_append,List.mem_append];exact .inr hx
  split at Oy
  ·rename_i hc;simp only[hc];refine Cc hn fun d hd=>Aw hn fun x _ hx=>Aw hn fun y _ hy=>Dg hn (Aw hn fun _ _ _=>Aw hn fun _ _ _=>?_)
   subst hy;have QL:=H5 x (by rw[hx];simp)
   have hym:=H5 y (by rw[hx];simp)
   simp only[Ho x QL,Ho y hym];refine R3 hn hS (RQ d hd) (fun i hi=>hl x QL i (D3 hi)) (fun i hi=>hl y hym i (D3 hi)) fun v Br Dj hh=>?_
   have:=hK v Br Dj (by rw[hd];exact hh)
   rw[hd] at this;exact this
  ·cases Oy
 ·cases Oy
theorem L3 {C:Fd}{call:Aj}(Oy:Kd o.op=true)(Ho:∀x∈o.op.operands.toList,Bb tm x=Bb tm' x)(hS:∀i,Qc o tm' Ch i->hp i=Ch i)(RQ:∀d,o.dst=some d->hp d=Ch d){s1:St}
  (h:Pr C P N call ⟨tm,hp⟩ o some=some s1):∃v Br Dj,s1=⟨A1 tm o.dst v,Br⟩∧Pr C P N call ⟨tm',Ch⟩ o some=some ⟨A1 tm' o.dst v,Dj⟩∧∀M,Yo M (Qc o tm' Ch) o.dst hp Ch Br Dj:=by
 have:=PG (P:=P) (N:=N) (C:=C) (call:=call) (o:=o) (tm:=tm) (tm':=tm') (hp:=hp) (Ch:=Ch) (K:=some) (K':=some)
  (Rel:=fun (a b:Option St)=>∀s1,a=some s1->∃v Br Dj,s1=⟨A1 tm o.dst v,Br⟩∧b=some ⟨A1 tm' o.dst v,Dj⟩∧∀M,Yo M (Qc o tm' Ch) o.dst hp Ch Br Dj) (fun _ h=>by cases h) Oy Ho (fun i hi=>.inl (hS i hi)) RQ
  (fun v Br Dj hT s1 h=>by cases h;exact⟨v,Br,Dj,rfl,rfl,hT⟩)
 exact this s1 h
end
section
variable {R R':Type} {r:R} {r':R'} {C:Fd} {P:Program} {N:Nat} {call:Aj} {ops:Array Oper} {o x:Oper} {s s1 s2:St} {K:St->Option R}
theorem Oz {tm:Nat->PV}(h:E4 C P ops o tm=true):Mn C P o.op=true:=by
 unfold E4 at h;simp only[Bool.and_eq_true] at h;exact h.1
theorem CJ (h:Kd o.op=true):Mn C P o.op=true:=by
 unfold Kd at h;split at h
 ·rename_i c hc;rw[hc];split at h
  ·rename_i WQ;simp only[Mn,WQ];exact h
  ·cases h
 ·cases h
theorem J7 (h:Cd C P N call ops x s K=some r):∃s1,Cd C P N call ops x s some=some s1∧Zn P x s s1∧(Oh P x.op=true->s1.hp=s.hp)∧K s1=some r:=by
 cases hx:E4 C P ops x s.tm
 ·rw[Hq hx] at h ⊢;cases ex:gE C P N call ops x s with
  |none=>rw[ex] at h;cases h
  |some q=>
   rw[ex] at h;obtain⟨hb,h1⟩:=Ag h;simp only[Bool.and_eq_true] at hb;refine⟨_,?_,⟨fun t ht=>Kz ht,fun i hi=>J9 hb.2 hi,fun hm i hi=>?_⟩,fun hl=>?_,h1⟩
   ·show Ar _ _=_;rw[hb.1,hb.2];rfl
   ·show Al (Ac s.hp q.2.1) q.2.2 i=s.hp i;rw[Ed hb.2 hi,((N7 ex).1 hm).1];simp
   ·show Al (Ac s.hp q.2.1) q.2.2=s.hp;obtain⟨h1,h2⟩:=MR (.inl hl) ex;rw[h1,h2]
    funext i
    show Ac s.hp [] i=_;rw[A6];simp
 ·rw[Ga hx] at h ⊢
  exact Xy (P:=P) (N:=N) (o:=x) (tm:=s.tm) (tm':=s.tm) (hp:=s.hp) (K':=some) (Rel:=fun (a:Option R) (b:Option St)=>a=some r->∃s1,b=some s1∧Zn P x s s1∧(Oh P x.op=true->s1.hp=s.hp)∧K s1=some r) (fun h=>by cases h) (fun _ _=>rfl) (fun v Br hh h=>⟨_,rfl,⟨fun t ht=>Kz ht,hh,fun hm=>(by
   rw[Rw (Oz hx)] at hm;cases hm)⟩,fun hl=>(by
   have:=Oz hx;rw[Hx hl] at this;cases this),h⟩) h
theorem O4 {K':St->Option R'}(h:Cd C P N call ops x s some=some s1)(hk:K' s1=some r'):Cd C P N call ops x s K'=some r':=by
 cases hx:E4 C P ops x s.tm
 ·rw[Hq hx] at h ⊢;cases ex:gE C P N call ops x s with
  |none=>rw[ex] at h;cases h
  |some q=>
   rw[ex] at h;obtain⟨hb,h1⟩:=Ag h;show Ar _ _=_;rw[hb];cases h1;exact hk
 ·rw[Ga hx] at h ⊢;exact Xy (P:=P) (N:=N) (o:=x) (tm:=s.tm) (tm':=s.tm) (hp:=s.hp) (K:=some) (Rel:=fun (a:Option St) (b:Option R')=>a=some s1->b=some r') (fun h=>by cases h) (fun _ _=>rfl) (fun v Br hh h=>by cases h;exact hk) h
theorem BI {d:Nat}{t tx:TypeId}{b y:PV}(h:Kw P N s d t tx b y K=some r):s.hp d=none:=by
 unfold Kw at h;split at h
 ·obtain⟨_,h⟩:=Ag h;cases hI:R1 P tx
  ·rw[hI,cond_false] at h;refine Ti (P:=P) (tm:=s.tm) (tm':=s.tm) (hp:=s.hp) (Ch:=s.hp) (S:=fun _=>True) (K':=fun _ _=>(none:Option R)) (Rel:=fun (a:Option R) (_:Option R)=>a=some r->s.hp d=none) (fun h=>by cases h) (fun _ _=>.inl rfl) (fun _ _=>trivial) (fun m new h=>?_) h
   split at h
   ·split at h
    ·obtain⟨hb,_⟩:=Ag h;simp only[Bool.and_eq_true,Option.isNone_iff_eq_none] at hb;simp only[hb]
    ·cases h
   ·obtain⟨_,_,_,h,_⟩:=Dp h;obtain⟨hb,_⟩:=Ag h;simp only[Bool.and_eq_true,Option.isNone_iff_eq_none] at hb;simp only[hb]
  ·rw[hI,cond_true] at h;unfold Ol at h;obtain⟨_,_,_,h⟩:=B6 h;obtain⟨_,_,_,h,_⟩:=Dp h;obtain⟨hb,_⟩:=Ag h;simp only[Bool.and_eq_true,Option.isNone_iff_eq_none] at hb;simp only[hb]
 ·cases h
theorem Aak (hw:HQ C P o s)(hwx:∀y∈x.op.operands.toList,∀i∈A8 (Bb s.tm y),s.hp i≠none) (xo:∀d,x.dst=some d->d ∉ Cp ops o)(ne:∀d,x.dst=some d->o.dst≠some d)(ox:∀d,o.dst=some d->d ∉ Cp ops x)
  (B4:Kd x.op=true)(PI:Kd o.op=true)(DY:∀i,Qc x s.tm s.hp i->¬Qc o s.tm s.hp i)(hx:E4 C P ops x s.tm=true)(ho:E4 C P ops o s.tm=true)
  (h:Cd C P N call ops x s (fun s1=>Cd C P N call ops o s1 K)=some r):Cd C P N call ops o s (fun s1=>Cd C P N call ops x s1 K)=some r:=by
 obtain⟨tm,hp⟩:=s;obtain⟨s1,e1,_,_,h⟩:=J7 h;obtain⟨s2,e2,_,_,h⟩:=J7 h;rw[Ga hx] at e1
 have hSx:∀i,Qc x tm hp i->hp i≠none:=by
  rintro i (⟨y,hy,hi⟩|⟨Oy,_⟩)
  ·exact hwx y hy i hi
  ·rw[B4] at Oy;cases Oy
 have hSo:∀i,Qc o tm hp i->hp i≠none:=by
  rintro i (⟨y,hy,hi⟩|⟨Oy,_⟩)
  ·exact hw.1 y hy i hi
  ·rw[PI] at Oy;cases Oy
 obtain⟨vx,hpx,Abk,rfl,e1',T1⟩:=L3 B4 (fun _ _=>rfl) (fun _ _=>rfl) (fun _ _=>rfl) e1
 have:Abk=hpx:=by
  rw[e1] at e1';injection e1' with q;injection q with _ q;exact q.symm
 subst this;have t1:∀t∈Cp ops o,A1 tm x.dst vx t=tm t:=C9 xo;have t1o:=Do (ops:=ops) (o:=o) t1;rw[Ga (by rw[Fg t1];exact ho)] at e2
 have hRo:∀i,Qc o (A1 tm x.dst vx) Abk i↔Qc o tm hp i:=by
  intro i;constructor
  ·rintro (⟨y,hy,hi⟩|⟨Oy,_⟩)
   ·exact .inl ⟨y,hy,by rw[←t1o y hy];exact hi⟩
   ·rw[PI] at Oy;cases Oy
  ·rintro (⟨y,hy,hi⟩|⟨Oy,_⟩)
   ·exact .inl ⟨y,hy,by rw[t1o y hy];exact hi⟩
   ·rw[PI] at Oy;cases Oy
 have Acy:∀{s:St} {o:Oper} {s2:St},Kd o.op=true->Pr C P N call s o some=some s2->∀d,o.dst=some d->s.hp d=none:=by
  intro s o s2 PI e d hd;unfold Pr at e;unfold Kd at PI;split at PI
  ·rename_i c hc;rw[hc] at e;simp only at e;split at PI
   ·rename_i WQ;rw[WQ] at e;simp only[hd,Db] at e;obtain⟨_,_,_,e⟩:=Aq e;obtain⟨_,_,_,e⟩:=Aq e;obtain⟨_,e⟩:=Cb e;obtain⟨_,_,_,e⟩:=Aq e;obtain⟨_,_,_,e⟩:=Aq e;exact BI e
   ·cases PI
  ·cases PI
 have Aqi:∀d,o.dst=some d->hp d=none:=by
  intro d hd;have h0:=Acy PI e2 d hd;cases hh:hp d with
  |none=>rfl
  |some b=>exact absurd h0 ((T1 0).keep d (by rw[hh];simp))
 have Aly:=Acy B4 e1;simp only at Aly;have hoS:∀d,o.dst=some d->¬Qc x tm hp d:=fun d hd hR=>hSx d hR (Aqi d hd)
 have hxS:∀d,x.dst=some d->¬Qc o tm hp d:=fun d hd hR=>hSo d hR (Aly d hd)
 obtain⟨vo,Arl,hpo,rfl,e3,T2⟩:=L3 (tm':=tm) (Ch:=hp) PI t1o (fun i hi=>(T1 0).far i (fun hR=>DY i hR hi) (hSo i hi)) (fun d hd=>((T1 (d+1)).off d (by omega) (fun e=>ne d e hd) (.inl (hoS d hd))).1) e2
 obtain⟨vo',Apl,EV,e3a,e3b,T3⟩:=L3 (tm':=tm) (Ch:=hp) PI (fun _ _=>rfl) (fun _ _=>rfl) (fun _ _=>rfl) e3
 rw[e3] at e3b
 have Anw:Apl=hpo∧EV=hpo:=by
  injection e3a with _ q1;injection e3b with q2;injection q2 with _ q3;exact⟨q1.symm,q3.symm⟩
 obtain⟨rfl,rfl⟩:=Anw;have t2:∀t∈Cp ops x,tm t=A1 tm o.dst vo t:=fun t ht=>(C9 ox t ht).symm
 have t2x:=Do (ops:=ops) (o:=x) t2
 have hRx:∀i,Qc x (A1 tm o.dst vo) EV i↔Qc x tm hp i:=by
  intro i;constructor
  ·rintro (⟨y,hy,hi⟩|⟨Oy,_⟩)
   ·exact .inl ⟨y,hy,by rw[t2x y hy];exact hi⟩
   ·rw[B4] at Oy;cases Oy
  ·rintro (⟨y,hy,hi⟩|⟨Oy,_⟩)
   ·exact .inl ⟨y,hy,by rw[←t2x y hy];exact hi⟩
   ·rw[B4] at Oy;cases Oy
 obtain⟨vx2,Aq2,Any,e4a,e4,T4⟩:=L3 (tm':=A1 tm o.dst vo) (Ch:=EV) B4 t2x (fun i hi=>((T3 0).far i (DY i ((hRx i).1 hi)) (hSx i ((hRx i).1 hi))).symm) (fun d hd=>((T3 (d+1)).off d (by omega) (fun e=>ne d hd e) (.inl (hxS d hd))).1.symm) e1
 have YF:A1 tm x.dst vx=A1 tm x.dst vx2∧Abk=Aq2:=by
  injection e4a with q1 q2;exact⟨q1,q2⟩
 obtain⟨YF,rfl⟩:=YF;obtain⟨_,Zm,Vz,e5a,e5b,T5⟩:=L3 (tm':=A1 tm x.dst vx) (Ch:=Abk) PI (fun _ _=>rfl) (fun _ _=>rfl) (fun _ _=>rfl) e2
 have hq:Zm=Arl:=by injection e5a with _ q1;exact q1.symm
 subst hq;obtain⟨_,XM,hu2,e6a,e6b,T6⟩:=L3 (tm':=A1 tm o.dst vo) (Ch:=EV) B4 (fun _ _=>rfl) (fun _ _=>rfl) (fun _ _=>rfl) e4
 have hu:XM=Any:=by injection e6a with _ q1;exact q1.symm
 subst hu
 have H5:Zm=XM:=by
  funext i
  by_cases hi:Qc o tm hp i∨o.dst=some i
  ·have hxi:¬Qc x tm hp i:=by
    rcases hi with hi|hi
    ·exact fun hR=>DY i hR hi
    ·exact hoS i hi
   have hdi:x.dst≠some i:=by
    rcases hi with hi|hi
    ·exact fun e=>hxS i e hi
    ·exact fun e=>ne i e hi
   rw[(T2 0).same i ((T1 (i+1)).off i (by omega) hdi (.inl hxi)).1]
   exact ((T6 (i+1)).off i (by omega) hdi (.inl fun hR=>hxi ((hRx i).1 hR))).1.symm
  ·have hoi:¬Qc o tm hp i:=fun e=>hi (.inl e)
   have hdi:o.dst≠some i:=fun e=>hi (.inr e)
   rw[((T5 (i+1)).off i (by omega) hdi (.inl fun hR=>hoi ((hRo i).1 hR))).1]
   exact (T4 0).same i ((T3 (i+1)).off i (by omega) hdi (.inl hoi)).1.symm
 refine O4 (s1:=⟨A1 tm o.dst vo,EV⟩) (by rw[Ga ho];exact e3) ?_
 refine O4 (s1:=⟨A1 (A1 tm o.dst vo) x.dst vx2,XM⟩) (by rw[Ga (by rw[←Fg t2];exact hx)];exact e4) ?_
 rw[←H0 ne,←YF,←H5];exact h
theorem Rr (hM:Mn C P o.op=true){i:Nat}(h:Qc o s.tm s.hp i):i∈I3 C P s o:=by
 unfold I3;rw[hM];cases hA:Kd o.op
 ·simp only[Bool.not_false,Bool.and_self,cond_true,List.mem_append];rcases h with⟨y,hy,hi⟩|⟨_,id,c,⟨y,hy,hi⟩,hc,p,hp,hk⟩
  ·exact .inl (List.mem_flatMap.2 ⟨y,hy,hi⟩)
  ·refine .inr (List.mem_flatMap.2 ⟨id,List.mem_flatMap.2 ⟨y,hy,hi⟩,?_⟩);rw[hc];exact List.mem_flatMap.2 ⟨p,hp,hk⟩
 ·simp only[Bool.not_true,Bool.and_false,cond_false,Bool.or_true,cond_true];rcases h with⟨y,hy,hi⟩|⟨hn,_⟩
  ·exact List.mem_flatMap.2 ⟨y,hy,hi⟩
  ·rw[hA] at hn;cases hn
theorem V0 (hl:Mn C P o.op=true∨Oh P o.op=true){y:Operand}(hy:y∈o.op.operands.toList){i:Nat}(h:i∈A8 (Bb s.tm y)):i∈I3 C P s o:=by
 rcases hl with hM|hl
 ·exact Rr hM (.inl ⟨y,hy,h⟩)
 ·unfold I3;rw[Hx hl,hl];exact List.mem_flatMap.2 ⟨y,hy,h⟩
theorem EQ (ht:∀t∈Cp ops o,s1.tm t=s.tm t)(hh:Mn C P o.op=true->Kd o.op=false->∀y∈o.op.operands.toList,∀i∈A8 (Bb s.tm y),s1.hp i=s.hp i):I3 C P s1 o=I3 C P s o:=by
 have he:=Do (ops:=ops) (o:=o) ht
 have hl:(o.op.operands.toList.flatMap fun y=>A8 (Bb s1.tm y))=o.op.operands.toList.flatMap fun y=>A8 (Bb s.tm y):=by
  have Aeg:∀l:List Operand,(∀y∈l,Bb s1.tm y=Bb s.tm y)->(l.flatMap fun y=>A8 (Bb s1.tm y))=l.flatMap fun y=>A8 (Bb s.tm y):=by
   intro l
   induction l with
   |nil=>intro _;rfl
   |cons a l ih=>intro h;simp only[List.flatMap_cons];rw[h a (by simp),ih fun y hy=>h y (by simp[hy])]
  exact Aeg _ he
 unfold I3;simp only[hl];cases hM:(Mn C P o.op && !Kd o.op)
 ·rfl
 ·simp only[cond_true];simp only[Bool.and_eq_true,Bool.not_eq_true'] at hM
  congr 1
  have Aeg:∀l:List Nat,(∀i∈l,s1.hp i=s.hp i)->(l.flatMap fun i=>match s1.hp i with|some (.st c)=>c.flatMap Ak|_=>[])=l.flatMap fun i=>match s.hp i with|some (.st c)=>c.flatMap Ak|_=>[]:=by
   intro l
   induction l with
   |nil=>intro _;rfl
   |cons a l ih=>intro h;simp only[List.flatMap_cons];rw[h a (by simp),ih fun y hy=>h y (by simp[hy])]
  exact Aeg _ fun i hi=>by
   obtain⟨y,hy,hi⟩:=List.mem_flatMap.1 hi;exact hh hM.1 hM.2 y hy i hi
theorem Rq {a b:List Nat}(h:PB a b=true){i:Nat}(ha:i∈a)(hb:i∈b):False:=by
 have:=List.all_eq_true.1 h i ha;have h2:b.any (Nat.beq i)=true:=List.any_eq_true.2 ⟨i,hb,Nat.beq_refl i⟩;rw[h2] at this;cases this
theorem NY {a b:List Nat}(h:PB a b=true):PB b a=true:=by
 refine List.all_eq_true.2 fun i hi=>?_
 cases hc:a.any (Nat.beq i)
 ·rfl
 ·obtain⟨j,hj,e⟩:=List.any_eq_true.1 hc;rw[Nat.eq_of_beq_eq_true e] at hi;exact (Rq h hj hi).elim
theorem Qr:Hl C P x o=Hl C P o x:=by
 unfold Hl;cases Mn C P x.op<;>cases Mn C P o.op<;>cases Oh P x.op<;>cases Oh P o.op<;>cases Kd x.op<;>cases Kd o.op<;>rfl
structure I0 (C:Fd) (P:Program) (ops:Array Oper) (x o:Oper):Prop where
 xo:∀d,x.dst=some d->d ∉ Cp ops o
 ne:∀d,x.dst=some d->o.dst≠some d
 ox:∀d,o.dst=some d->d ∉ Cp ops x
 me:M0 C P x o=false∨Hl C P x o=true
theorem QF (h:VF C P ops x o=false):I0 C P ops x o:=by
 unfold VF at h;simp only[Bool.or_eq_false_iff] at h;obtain⟨h1,h2⟩:=h;have hT:=h1;unfold SP at h1;simp only[Bool.or_eq_false_iff] at h1
 have a1:W3 C P ops x o=false∨M0 C P x o=true:=by
  cases hc:M0 C P x o
  ·left;unfold W3;unfold M0 at hc;simp only[Bool.or_eq_false_iff] at hc ⊢;exact⟨⟨⟨h1.1,h1.2⟩,hc.1⟩,hc.2⟩
  ·exact .inr rfl
 refine⟨fun d hd=>?_,fun d hd he=>?_,fun d hd=>?_,?_⟩
 ·have:=h1.1;simp only[hd,Bool.or_eq_false_iff] at this;exact M8 this.1
 ·have:=h1.1;simp only[hd,he,Bool.or_eq_false_iff] at this;rw[Nat.beq_refl] at this;cases this.2
 ·have:=h1.2;simp only[hd] at this;exact M8 this
 ·cases hc:M0 C P x o
  ·exact .inl rfl
  ·rw[hc] at h2;right
   simpa using h2
theorem I0.apart (ap:I0 C P ops x o)(h:M0 C P x o=false):Sl C P ops x o:=by
 unfold M0 at h;simp only[Bool.or_eq_false_iff,Bool.and_eq_false_iff] at h;refine⟨ap.xo,ap.ne,ap.ox,fun hm=>?_,fun hm=>?_⟩
 ·rcases h.1 with h|h
  ·rw[hm] at h;cases h
  ·exact h
 ·rcases h.2 with h|h
  ·rw[hm] at h;cases h
  ·exact h
theorem I0.same (ap:I0 C P ops x o)(hk:Zn P x s s1)(hl:Oh P x.op=true->s1.hp=s.hp)(hM:Mn C P o.op=true)(hA:Kd o.op=false){i:Nat}(hi:s.hp i≠none):s1.hp i=s.hp i:=by
 rcases ap.me with h|h
 ·exact hk.2.2 ((ap.apart h).mo hM) i hi
 ·unfold Hl at h;rw[hA] at h;simp only[Bool.and_false,Bool.or_false,Bool.or_eq_true,Bool.and_eq_true] at h;rcases h with h|h
  ·have:=h.2;rw[Hx (C:=C) (P:=P) this] at hM;cases hM
  ·rw[hl h.2]
theorem HQ.keepsS (h:HQ C P o s)(ap:I0 C P ops x o)(hk:Zn P x s s1)(hl:Oh P x.op=true->s1.hp=s.hp):HQ C P o s1:=by
 have RH:∀y∈o.op.operands.toList,Bb s1.tm y=Bb s.tm y:=fun y hy=>Do (ops:=ops) (o:=o) (fun t ht=>hk.1 t fun hd=>ap.xo t hd ht) y hy
 refine⟨fun y hy i hi=>?_,fun hM hA y hy i hi c hc p hp k hkk=>?_⟩
 ·rw[RH y hy] at hi;exact hk.2.1 i (h.1 y hy i hi)
 ·rw[RH y hy] at hi;rw[ap.same hk hl hM hA (h.1 y hy i hi)] at hc;exact hk.2.1 k (h.2 hM hA y hy i hi c hc p hp k hkk)
theorem I0.symm (ap:I0 C P ops x o):I0 C P ops o x:=by
 refine⟨ap.ox,fun d hd he=>ap.ne d he hd,ap.xo,?_⟩
 rcases ap.me with h|h
 ·left;unfold M0 at h ⊢;rw[Bool.or_comm];exact h
 ·right;rw[Qr];exact h
theorem Alv (hw:HQ C P o s)(hwx:Hl C P x o=true->∀i∈I3 C P s x,s.hp i≠none)(ap:I0 C P ops x o)(hd:Hl C P x o=true->PB (I3 C P s x) (I3 C P s o)=true)
  (h:Cd C P N call ops x s (fun s1=>Cd C P N call ops o s1 K)=some r):Cd C P N call ops o s (fun s1=>Cd C P N call ops x s1 K)=some r:=by
 rcases ap.me with hm|hm
 ·exact Ajz hw (ap.apart hm) h
 ·have hd:=hd hm;have hwx:=hwx hm;cases hx:E4 C P ops x s.tm
  ·cases ho:E4 C P ops o s.tm
   ·exact ND hw ap.xo ap.ne ap.ox hx ho h
   ·have YE:=Oz ho
    have hlx:Yk P ops x s.tm:=by
     cases hl:Oh P x.op
     ·right
      have hMx:Mn C P x.op=true:=by
       unfold Hl at hm;simp only[hl,Bool.and_false,Bool.or_false,Bool.or_eq_true,Bool.and_eq_true] at hm;rcases hm with hm|hm
       ·exact hm.1
       ·exact CJ hm.1
      cases hv:Fa ops x s.tm with
      |none=>
       exfalso;rw[Hq hx] at h;unfold gE at h;rw[hv] at h;cases h
      |some b=>
       cases b
       ·rfl
       ·unfold E4 at hx;rw[hMx,hv] at hx;cases hx
     ·exact .inl hl
    refine Abt ap.xo ap.ne ap.ox hlx (fun y hy i hi hR=>?_) ho h
    refine Rq hd (V0 ?_ hy hi) (Rr YE hR);unfold Hl at hm;simp only[Bool.or_eq_true,Bool.and_eq_true] at hm;rcases hm with (hm|hm)|hm
    ·exact .inl hm.1
    ·exact .inr hm.2
    ·exact .inl (CJ hm.1)
  ·have hMx:=Oz hx;cases ho:E4 C P ops o s.tm
   ·have hlo:Yk P ops o s.tm:=by
     cases hl:Oh P o.op
     ·right
      have YE:Mn C P o.op=true:=by
       unfold Hl at hm;simp only[hl,Bool.and_false,Bool.false_or,Bool.or_eq_true,Bool.and_eq_true] at hm;rcases hm with hm|hm
       ·exact hm.1
       ·exact CJ hm.2
      cases hv:Fa ops o s.tm with
      |none=>
       exfalso;obtain⟨s1,_,hk,_,h⟩:=J7 h;have XY:Fa ops o s1.tm=none:=by rw[H8 (fun t ht=>hk.1 t fun hd=>ap.xo t hd ht)];exact hv
       rw[Hq (by unfold E4;rw[XY];cases Mn C P o.op<;>rfl)] at h
       unfold gE at h;rw[XY] at h;cases h
      |some b=>
       cases b
       ·rfl
       ·unfold E4 at ho;rw[YE,hv] at ho;cases ho
     ·exact .inl hl
    refine Abm hw ap.xo ap.ne ap.ox hlo (fun y hy i hi hR=>?_) hx h
    refine Rq hd (Rr hMx hR) (V0 ?_ hy hi);unfold Hl at hm;simp only[Bool.or_eq_true,Bool.and_eq_true] at hm;rcases hm with (hm|hm)|hm
    ·exact .inr hm.2
    ·exact .inl hm.1
    ·exact .inl (CJ hm.2)
   ·have YE:=Oz ho;unfold Hl at hm;simp only[Bool.or_eq_true,Bool.and_eq_true] at hm;rcases hm with (hm|hm)|hm
    ·rw[Hx (C:=C) (P:=P) hm.2] at YE;cases YE
    ·rw[Hx (C:=C) (P:=P) hm.2] at hMx;cases hMx
    ·exact Aak hw (fun y hy i hi=>hwx i (V0 (.inl hMx) hy hi)) ap.xo ap.ne ap.ox hm.1 hm.2 (fun i h1 h2=>Rq hd (Rr hMx h1) (Rr YE h2)) hx ho h
theorem UV {α:Type}(a b:α)(l:List α)(f:α->Bool):(a::b::l).all f=(b::a::l).all f:=by
 simp only[List.all_cons];cases f a<;>cases f b<;>rfl
theorem Ue {bs:List (List Nat)}:∀(l:List Nat){dn dn':List (Nat × Oper × List Nat)} {s:St}{K:St->Option R},(∀f,dn.all f=dn'.all f)->Fy C P N call ops bs dn l s K=Fy C P N call ops bs dn' l s K
 |[],_,_,_,_,_=>rfl
 |i::l,dn,dn',s,K,h=>by
  unfold Fy;cases ops[i]? with
  |none=>rfl
  |some o=>
   simp only[Db,h]
   congr 2
   funext s'
   exact Ue l fun f=>by simp only[List.all_cons,h]
theorem X1 {bs:List Nat}{i:Nat}(hi:ops[i]?=some o):(Ug C P ops bs).getD i []=Rm C P ops bs i o:=by
 unfold Ug;rw[List.getD_eq_getElem?_getD,List.getElem?_map,List.getElem?_zipIdx,Array.getElem?_toList,hi];simp
theorem M5 {bs:List Nat}{i j:Nat}:j∈Rm C P ops bs i o↔∃x,ops[j]?=some x∧Hl C P x o=true∧(Nat.blt j i&&(bs.getD i 0).testBit j)=false∧(Nat.blt i j&&(bs.getD j 0).testBit i)=false:=by
 unfold Rm;simp only[List.mem_map,List.mem_filter,Bool.and_eq_true,Bool.not_eq_true',Prod.exists];constructor
 ·rintro⟨x,k,⟨hm,⟨h1,h2⟩,h3⟩,rfl⟩
  rw[List.mem_zipIdx_iff_getElem?] at hm;exact⟨x,by simpa using hm,h1,h2,h3⟩
 ·rintro⟨x,hx,h1,h2,h3⟩
  refine⟨x,j,⟨?_,⟨h1,h2⟩,h3⟩,rfl⟩;rw[List.mem_zipIdx_iff_getElem?]
  simpa using hx
theorem Vn {sm:List (List Nat)} {i j:Nat}(h:j∈sm.getD i []):U7 C P sm s i o=I3 C P s o:=by
 unfold U7;split
 ·rename_i e;rw[e] at h;simp at h
 ·rfl
theorem VZ {sm:List (List Nat)} {i:Nat}(h:sm.getD i []≠[]->I3 C P s1 o=I3 C P s o):U7 C P sm s1 i o=U7 C P sm s i o:=by
 unfold U7;split
 ·rfl
 ·rename_i e;exact h (by rw[e];simp)
theorem LJ {l:List Nat}{j:Nat}:l.any (Nat.beq j)=true↔j∈l:=by
 constructor
 ·intro h;obtain⟨k,hk,e⟩:=List.any_eq_true.1 h;rw[Nat.eq_of_beq_eq_true e];exact hk
 ·intro h;exact List.any_eq_true.2 ⟨j,h,Nat.beq_refl j⟩
theorem Se {bs:List Nat}{sm:List (List Nat)} (hsm:sm=Ug C P ops bs){i:Nat}(hi:ops[i]?=some o) {l':List Nat}:∀(l:List Nat){dn:List (Nat × Oper × List Nat)} {s:St}{K:St->Option R},HQ C P o s ->
  (∀j∈l,j<i∧(bs.getD i 0).testBit j=false∧∀x,ops[j]?=some x->I0 C P ops x o)->Fy C P N call ops sm dn (l++i::l') s K=some r ->
  dn.all (Yh C P sm s i o)=true∧Cd C P N call ops o s (fun s1=>Fy C P N call ops sm ((i,o,U7 C P sm s i o)::dn) (l++l') s1 K)=some r
 |[],dn,s,K,hw,_,h=>by
  simp only[List.nil_append] at h ⊢;unfold Fy at h;rw[hi] at h;simp only[Db] at h;obtain⟨hb,h⟩:=Ag h;simp only[Bool.and_eq_true] at hb;exact⟨hb.1,h⟩
 |j::l,dn,s,K,hw,hl,h=>by
  simp only[List.cons_append] at h ⊢;unfold Fy at h;obtain⟨hji,Km,Oy⟩:=hl j (by simp)
  cases hj:ops[j]? with
  |none=>rw[hj] at h;cases h
  |some x=>
   rw[hj] at h;simp only[Db] at h;obtain⟨hb,h⟩:=Ag h;simp only[Bool.and_eq_true] at hb;have ap:=Oy x hj
   have hex:∀k∈U7 C P sm s j x,s.hp k≠none:=fun k hk=>by
    have:=List.all_eq_true.1 hb.2 k hk;intro e;rw[e] at this;cases this
   obtain⟨s1,e1,Cv,Xp,h1⟩:=J7 h;obtain⟨ha,h2⟩:=Se hsm hi l (hw.keepsS ap Cv Xp) (fun k hk=>hl k (by simp[hk])) h1
   have Apz:I3 C P s1 o=I3 C P s o:=EQ (ops:=ops) (fun t ht=>Cv.1 t fun hd=>ap.xo t hd ht) fun hM hA y hy k hk=>ap.same Cv Xp hM hA (hw.1 y hy k hk)
   have ZF:U7 C P sm s1 i o=U7 C P sm s i o:=VZ fun _=>Apz
   rw[List.all_cons,Bool.and_eq_true] at ha
   have Al0:Nat.blt i j=false:=by
    cases hh:Nat.blt i j
    ·rfl
    ·have:=Nat.le_of_ble_eq_true hh;omega
   have hmi:Hl C P x o=true->j∈sm.getD i []:=fun hs=>by
    rw[hsm,X1 hi];exact M5.2 ⟨x,hj,hs,by rw[Km,Bool.and_false],by rw[Al0,Bool.false_and]⟩
   have hmj:Hl C P x o=true->i∈sm.getD j []:=fun hs=>by
    rw[hsm,X1 hj];exact M5.2 ⟨o,hi,by rw[Qr];exact hs,by rw[Al0,Bool.false_and],by rw[Km,Bool.and_false]⟩
   have Adm:Hl C P x o=true->PB (U7 C P sm s j x) (U7 C P sm s i o)=true:=by
    intro hs;have:=ha.1;unfold Yh at this;rw[LJ.2 (hmi hs),ZF] at this
    simpa using this
   have Kh:∀q,Yh C P sm s1 i o q=Yh C P sm s i o q:=fun q=>by unfold Yh;rw[ZF]
   have Ko:dn.all (Yh C P sm s i o)=true:=by
    refine List.all_eq_true.2 fun q hq=>?_
    rw[←Kh];exact List.all_eq_true.1 ha.2 q hq
   refine⟨Ko,?_⟩;rw[ZF] at h2
   have h3:=Alv hw (fun hs k hk=>hex k (by rw[Vn (hmj hs)];exact hk)) ap (fun hs=>by have:=Adm hs;rw[Vn (hmj hs),Vn (hmi hs)] at this;exact this)
    (O4 (K':=fun s1=>Cd C P N call ops o s1 (fun s2=>Fy C P N call ops sm ((i,o,U7 C P sm s i o)::(j,x,U7 C P sm s j x)::dn) (l++l') s2 K)) e1 h2)
   obtain⟨s2,e2,Dk,DD,h4⟩:=J7 h3;refine O4 e2 ?_
   have hr2:U7 C P sm s2 j x=U7 C P sm s j x:=VZ fun H7=>by
    obtain⟨q,hq⟩:=List.exists_mem_of_ne_nil _ H7;refine EQ (ops:=ops) (fun t ht=>Dk.1 t fun hd=>ap.ox t hd ht) fun hM hA y hy k hk=>ap.symm.same Dk DD hM hA (hex k ?_)
    rw[Vn hq];exact V0 (.inl hM) hy hk
   unfold Fy;rw[hj];simp only[Db]
   have hc:(((i,o,U7 C P sm s i o)::dn).all (Yh C P sm s2 j x)&&(U7 C P sm s2 j x).all fun k=>(s2.hp k).isSome)=true:=by
    simp only[List.all_cons,Bool.and_eq_true];refine⟨⟨?_,?_⟩,?_⟩
    ·unfold Yh;simp only[hr2];cases hs:(sm.getD j []).any (Nat.beq i)
     ·rfl
     ·have hm:=LJ.1 hs;rw[hsm,X1 hj] at hm;obtain⟨o',DV,LX,_⟩:=M5.1 hm;rw[hi] at DV;cases DV;rw[Qr] at LX;rw[NY (Adm LX)];rfl
    ·refine List.all_eq_true.2 fun q hq=>?_
     have:=List.all_eq_true.1 hb.1 q hq;unfold Yh at this ⊢;rw[hr2];exact this
    ·rw[hr2];refine List.all_eq_true.2 fun k hk=>?_
     have:=Dk.2.1 k (hex k hk);cases hh:s2.hp k with
     |none=>exact absurd hh this
     |some _=>rfl
   rw[hc,hr2];show Cd C P N call ops x s2 _=some r
   have:(fun s'=>Fy C P N call ops sm ((j,x,U7 C P sm s j x)::(i,o,U7 C P sm s i o)::dn) (l++l') s' K)=fun s2=>Fy C P N call ops sm ((i,o,U7 C P sm s i o)::(j,x,U7 C P sm s j x)::dn) (l++l') s2 K:=by
    funext s'
    exact Ue _ fun f=>UV _ _ _ f
   rw[this];exact h4
end
section
variable {R:Type} {r:R} {P:Program} {N:Nat} {w0:World} {X0:Fw} {Y:Nat->Prop} {β β':Bt} {s:St} {a:Act} {w w':World} {o:Oper} {ops:Array Oper} {C:Fd} {call:Aj} {K:St->Option R}
theorem P3 {bs:List Nat}:∀(l:List Oper)(n:Nat),Rl C P ops bs l n=true->∀(k:Nat) o,l[k]?=some o->∀(j:Nat) x,ops[j]?=some x->j<n+k->VF C P ops x o=true->(bs.getD (n+k) 0).testBit j=true
 |[],_,_,k,o,ho,_,_,_,_,_=>by simp at ho
 |o'::l,n,h,k,o,ho,j,x,hx,hj,Lc=>by
  simp only[Rl,Bool.and_eq_true] at h;cases k with
  |zero=>
   simp at ho;subst ho
   have:=List.all_eq_true.1 h.1 (x,j) (by
    rw[List.mem_zipIdx_iff_getElem?]
    simpa using hx)
   simp only[Lc,Bool.not_true,Bool.or_false,Bool.or_eq_true,Bool.not_eq_true'] at this;rcases this with h'|h'
   ·have:Nat.blt j n=true:=Nat.ble_eq_true_of_le (by omega)
    rw[this] at h';cases h'
   ·exact h'
  |succ k=>
   have:=P3 l (n+1) h.2 k o (by simpa using ho) j x hx (by omega) Lc
   rwa [show n+(k+1)=n+1+k by omega]
theorem BG {G:Glo}(H9:ET P G w0 X0)(Cr:∀f args res,call f args=some res->Dl G P f args res)(Kh:Xk C P ops=true){Q:Exit->Act->World->Prop}(hQ:∀s' a' w' β',K s'=some r->Bs N w0 X0 Y β' s' a' w'->Q .normal a' w'):
  ∀(fuel:Nat) {dn:List (Nat × Oper × List Nat)} {listed:Array Bool} {s:St} {a:Act} {w:World} {β:Bt},HeadInv .any ops ops.size listed->(Jb ops.size listed).length=fuel->Bs N w0 X0 Y β s a w->Fy C P N call ops (Ug C P ops (F5 ops.toList [])) dn (Jb ops.size listed) s K=some r->wpAny P .any ops Q fuel listed a w:=by
 unfold Xk at Kh;simp only[Bool.and_eq_true] at Kh;obtain⟨VG,Agv⟩:=Kh;intro fuel
 induction fuel with
 |zero=>
  intro dn listed s a w β inv hf h hk;have hp:=List.eq_nil_of_length_eq_zero hf;rw[hp] at hk;refine⟨?_,hQ s a w β hk h⟩;cases hr:Region.ready .any ops listed with
  |nil=>rfl
  |cons i l=>
   exfalso;have hi:i∈Region.ready .any ops listed:=by rw[hr];simp
   obtain⟨Hc,o,ho,_⟩:=mem_ready.1 hi;have:i∈Jb ops.size listed:=G2.2 ⟨(Array.getElem?_eq_some_iff.1 ho).1,Hc⟩;rw[hp] at this;simp at this
 |succ fuel ih=>
  intro dn listed s a w β inv hf h hk;refine⟨fun hr=>?_,fun i hi=>?_⟩
  ·rw[AB VG inv hr] at hf;cases hf
  ·obtain⟨Hc,o,ho,Ko⟩:=mem_ready.1 hi;have Bl:i<ops.size:=(Array.getElem?_eq_some_iff.1 ho).1;obtain⟨l1,l2,h1,h2,h3⟩:=Qx (G2.2 ⟨Bl,Hc⟩) inv.size;rw[h1] at hk
   have hnb:∀j∈l1,((F5 ops.toList []).getD i 0).testBit j=false:=by
    intro j hj;cases Km:((F5 ops.toList []).getD i 0).testBit j with
    |false=>rfl
    |true=>
     exfalso;have hjl:=M1 (listed:=listed) (fun j oj hj hl=>inv.closed j oj hj hl) ops.toList [] [] (by simp) rfl (by simp) i o ho Ko j Km
     have:j∈Jb ops.size listed:=by rw[h1];simp[hj]
     have:=getD_both (G2.1 this).2;rw[hjl] at this;cases this
   have Oy:∀j∈l1,j<i∧((F5 ops.toList []).getD i 0).testBit j=false∧∀x,ops[j]?=some x->I0 C P ops x o:=by
    intro j hj;refine⟨h3 j hj,hnb j hj,fun x hxj=>QF ?_⟩
    cases Lc:VF C P ops x o with
    |false=>rfl
    |true=>
     exfalso;have Km:=P3 ops.toList 0 Agv i o (by simpa using ho) j x hxj (by have:=h3 j hj;omega) Lc
     rw[Nat.zero_add,hnb j hj] at Km;cases Km
   obtain⟨s',hs',hn⟩:=Qb h H9 Cr ho (Se rfl ho l1 (UC h o) Oy hk).2;refine hn _ _ fun a' w' β' h'=>ih (dn:=(i,o,U7 C P (Ug C P ops (F5 ops.toList [])) s i o)::dn) (inv.set hi Bl) ?_ h' ?_
   ·rw[h2];rw[h1] at hf;simp at hf ⊢;omega
   ·rw[h2];exact hs'
theorem Vk (h:Bs N w0 X0 Y β s a w){G:Glo}(H9:ET P G w0 X0)(Cr:∀f args res,call f args=some res->Dl G P f args res)(hm:P.follows .mixedOrders=true)(Kh:Xk C P ops=true){Q:Exit->Act->World->Prop}
  (hk:Fy C P N call ops (Ug C P ops (F5 ops.toList [])) [] (List.range ops.size) s K=some r) (hQ:∀s' a' w' β',K s'=some r->Bs N w0 X0 Y β' s' a' w'->Q .normal a' w'):wpAny P .any ops Q ops.size (Array.replicate ops.size false) a { w with drawn:=w.drawn+1 }:=by
 have hp:Jb ops.size (Array.replicate ops.size false)=List.range ops.size:=by
  unfold Jb;refine List.filter_eq_self.2 fun i hi=>?_
  have:=List.mem_range.1 hi;simp[this]
 refine BG (C:=C) (dn:=[]) H9 Cr Kh hQ ops.size ⟨by simp,fun j oj _ hl=>(by rw[getD_replicate_false] at hl;cases hl),fun t ht ht'=>by omega⟩ (by rw[hp];simp) h.drew ?_
 rw[hp];exact hk
theorem DO (h:Bs N w0 X0 Y β s a w){G:Glo}(H9:ET P G w0 X0)(Cr:∀f args res,call f args=some res->Dl G P f args res)(hm:P.follows .mixedOrders=true)(Kh:Xk C P ops=true){id:Nat}{Q:Exit->Act->World->Prop}
  (hk:Fy C P N call ops (Ug C P ops (F5 ops.toList [])) [] (List.range ops.size) s K=some r) (hQ:∀s' a' w' β',K s'=some r->Bs N w0 X0 Y β' s' a' w'->Q .normal a' w'):(Code.region id ops true).wp P Q a w:=
 wp_region_any hm (Vk h H9 Cr hm Kh hk hQ)
end
open Go.RowKit
section
variable {R:Type} {r:R} {N:Nat} {w0:World} {X0:Fw} {Y:Nat->Prop} {β β':Bt} {s:St} {a:Act} {w w':World}
theorem SD {i:Nat}(hi:i<a.tmps.size):a.put (some i) (a.tmps.getD i undef)=a:=by
 obtain⟨tmps,dfr⟩:=a;change i<tmps.size at hi
 have:tmps.setIfInBounds i (tmps.getD i undef)=tmps:=by
  apply Array.ext_getElem?;intro k;by_cases e:i=k
  ·subst e;simp[hi]
  ·rw[Array.getElem?_setIfInBounds_ne e]
 simp only[Act.put,this]
theorem MS {A:Nat->Prop}{es:Nat}{v:Value}(h:Ap w A (.lst true es 0 []) v):v=.slice none 0 0:=by
 cases h;rfl
theorem LH {id:Nat}(Ay:s.hp id=none){v:PV}{val:Value}(hv:C4 w (B1 (Al s.hp [(id,.ar false [])]) (Bi β id none) Y) (Bi β id none) v val) (hr:∀i∈A8 v,s.hp i≠none∨i=id):
  Y3 Y β s w v [(id,.ar false [])] val w (Bi β id none):=by
 refine⟨rfl,rfl,rfl,Bd.refl _ _,fun j hj=>Ae _ _ (by rintro rfl;exact hj Ay),?_,?_,?_,?_,?_,hv,?_⟩
 ·intro j bx hm;simp at hm;rw[hm.2];trivial
 ·intro j bx hm;simp at hm;obtain⟨rfl,rfl⟩:=hm;exact .inl ⟨Ah _ _ _,rfl⟩
 ·intro j bx k q hm hq;simp at hm;obtain⟨rfl,rfl⟩:=hm;rw[Ah] at hq;cases hq
 ·intro j bx j' bx' k q q' hm Je _ _;simp at hm Je;rw[hm.1,Je.1]
 ·intro j cells hm;simp at hm
 ·intro j hj;rcases hr j hj with h|rfl
  ·exact .inl h
  ·exact .inr ⟨.ar false [],by simp⟩
theorem Yr (h:Bs N w0 X0 Y β s a w)(i:Nat):∃β',Bs N w0 X0 Y β' (Vx N s i) a w:=by
 unfold Vx;split
 ·rename_i es ht
  have Bl:i<N:=by
   rcases Nat.lt_or_ge i N with h'|h'
   ·exact h'
   ·rw[h.tmo i h'] at ht;cases ht
  have hv:=h.tms i Bl;rw[ht] at hv;have hv:=MS hv;have hd:Ej N (some i)=true:=by simp[Ej,Nat.blt];omega
  have go:∀j,s.hp j=none->∃β',Bs N w0 X0 Y β' ⟨Bi s.tm i (.view j es 0 0),Bi s.hp j (some (.ar false []))⟩ a w:=by
   intro j hn;have:=h.stepR (d:=some i) hd (by simp[A3,hn]) (LH (v:=.view j es 0 0) (val:=.slice none 0 0) hn (.inl ⟨Ah _ _ _,rfl,rfl,none,rfl⟩) (by simp[A8,Bh,Ak]))
   rw[←hv,SD (by rw[h.tsz];exact Bl)] at this
   exact⟨_,this⟩
  cases hn:(s.hp i).isNone
  ·cases XV:(s.hp (i+N*3000)).isNone
   ·exact⟨β,h⟩
   ·exact go _ (by simpa using XV)
  ·exact go _ (by simpa using hn)
 ·exact⟨β,h⟩
theorem Bs.recell (h:Bs N w0 X0 Y β s a w){id:Nat}{c c':List PV}(h0:s.hp id=some (.st c)) (hl:c'.length=c.length)
  (hc:∀(j:Nat) p,c'[j]?=some p->∃q,c[j]?=some q∧(∀v,A9 w (B1 s.hp β Y) β q v->A9 w (B1 s.hp β Y) β p v)∧∀i∈Ak p,s.hp i≠none):
  Bs N w0 X0 Y β ⟨s.tm,Bi s.hp id (some (.st c'))⟩ a w:=by
 have Ez:∀i,B0 (Bi s.hp id (some (.st c')) i)↔B0 (s.hp i):=by
  intro i;by_cases e:i=id
  ·subst e;rw[Ah,h0];exact Iff.rfl
  ·rw[Ae _ _ e]
 have hX:CC (Bi s.hp id (some (.st c'))) β=CC s.hp β:=by
  funext b
  apply propext;constructor
  ·rintro⟨i,o,hl,hb⟩;exact⟨i,o,(Ez i).1 hl,hb⟩
  ·rintro⟨i,o,hl,hb⟩;exact⟨i,o,(Ez i).2 hl,hb⟩
 have hA:B1 (Bi s.hp id (some (.st c'))) β Y=B1 s.hp β Y:=by
  funext b;unfold B1;rw[hX]
 have H7:∀i,s.hp i≠none->Bi s.hp id (some (.st c')) i≠none:=by
  intro i hi;by_cases e:i=id
  ·subst e;rw[Ah];simp
  ·rw[Ae _ _ e];exact hi
 have Apa:∀i,Bi s.hp id (some (.st c')) i≠none->s.hp i≠none:=by
  intro i hi;by_cases e:i=id
  ·subst e;rw[h0];simp
  ·rw[Ae _ _ e] at hi;exact hi
 refine⟨h.dfr,h.tsz,h.tmo,?_,?_,?_,?_,?_,?_,?_,?_,fun i hi=>⟨H7 _ (h.pin i hi).1,(h.pin i hi).2⟩,?_,?_,h.Ylt,h.fr⟩
 ·intro i hi;show C4 w (B1 (Bi s.hp id _) β Y) β _ _;rw[hA];exact h.tms i hi
 ·intro i b hb;show M6 w (B1 (Bi s.hp id _) β Y) β i b;rw[hA];by_cases e:i=id
  ·subst e;change Bi s.hp i (some (.st c')) i=some b at hb;rw[Ah] at hb;cases hb;obtain⟨b,o,h1,h2,h3⟩:=h.box i _ h0;refine⟨b,o,h1,fun j p hj=>?_,fun j hj=>h3 j (by rw[←hl];exact hj)⟩
   obtain⟨q,hq,hqp,_⟩:=hc j p hj;obtain⟨v,hv,hr⟩:=h2 j q hq;exact⟨v,hv,hqp v hr⟩
  ·change Bi s.hp id (some (.st c')) i=some b at hb;rw[Ae _ _ e] at hb;exact h.box i b hb
 ·intro i i' b o o' hl G9 hb Fs;exact h.inj i i' b o o' ((Ez i).1 hl) ((Ez i').1 G9) hb Fs
 ·intro i b o hn hb;exact h.blt i b o (Apa i hn) hb
 ·intro i hi j hj;exact H7 j (h.wfT i hi j hj)
 ·intro i cells hb p hp j hj;change Bi s.hp id (some (.st c')) i=_ at hb;by_cases e:i=id
  ·subst e;rw[Ah] at hb;cases hb;obtain⟨k,hk⟩:=List.mem_iff_getElem?.1 hp;obtain⟨_,_,_,hr⟩:=hc k p hk;exact H7 j (hr j hj)
  ·rw[Ae _ _ e] at hb;exact H7 j (h.wfB i cells hb p hp j hj)
 ·intro b hb;exact h.ownd b (by rw[←hX];exact hb)
 ·intro i bx b o hb hlb hβ Bl j hj;change Bi s.hp id (some (.st c')) i=some bx at hb;by_cases e:i=id
  ·subst e;rw[Ah] at hb;cases hb;exact h.rngB i _ b o h0 trivial hβ Bl j (by unfold BR at hj ⊢;simp only[hl] at hj;exact hj)
  ·rw[Ae _ _ e] at hb;exact h.rngB i bx b o hb hlb hβ Bl j hj
 ·intro i c1 b o hb hβ Bl;change Bi s.hp id (some (.st c')) i=_ at hb;by_cases e:i=id
  ·subst e;exact h.stp i c b o h0 hβ Bl
  ·rw[Ae _ _ e] at hb;exact h.stp i c1 b o hb hβ Bl
 ·intro b hY hb;exact h.Yx b hY (by rw[←hX];exact hb)
theorem Yp (h:Bs N w0 X0 Y β s a w)(id j:Nat):∃β',Bs N w0 X0 Y β' (BF N id s j) a w:=by
 unfold BF;split
 ·rename_i c h0;split
  ·rename_i es hj;cases hn:(s.hp (id+N*(j+1))).isNone
   ·exact⟨β,h⟩
   ·have hn:s.hp (id+N*(j+1))=none:=by simpa using hn
    have H7:id≠id+N*(j+1):=by
     intro e;rw[←e,h0] at hn;cases hn
    have h1:=h.stepR (d:=none) (v:=.top) (val:=undef) rfl (by simp[A3,hn]) (LH hn (.top _) (by simp[A8,Bh,Ak]))
    change Bs N w0 X0 Y (Bi β (id+N*(j+1)) none) ⟨s.tm,Bi s.hp (id+N*(j+1)) (some (.ar false []))⟩ a w at h1
    have h2:=h1.recell (id:=id) (c:=c) (c':=c.set j (.view (id+N*(j+1)) es 0 0)) (by show Bi _ _ _ _=_;rw[Ae _ _ H7];exact h0) (by simp) (by
     intro k p hp;by_cases e:k=j
     ·subst e
      have Bl:k<c.length:=by
       rcases Nat.lt_or_ge k c.length with h'|h'
       ·exact h'
       ·rw[List.getElem?_eq_none h'] at hj;cases hj
      rw[List.getElem?_set_self Bl] at hp;cases hp;refine⟨_,hj,fun v hv=>.inl ⟨Ah _ _ _,rfl,rfl,none,MS hv⟩,fun i hi=>?_⟩
      simp[Ak] at hi;subst hi;show Bi _ _ _ _≠none;rw[Ah];simp
     ·rw[List.getElem?_set_ne (fun h=>e h.symm)] at hp
      refine⟨p,hp,fun _ hv=>hv,fun i hi=>?_⟩
      have:=h.wfB id c h0 p (List.mem_of_getElem? hp) i hi;show Bi _ _ _ _≠none;by_cases e':i=id+N*(j+1)
      ·subst e';rw[Ah];simp
      ·rw[Ae _ _ e'];exact this)
    refine⟨Bi β (id+N*(j+1)) none,?_⟩;have e3:Bi (Bi s.hp (id+N*(j+1)) (some (.ar false []))) id (some (.st (c.set j (.view (id+N*(j+1)) es 0 0))))=Bi (Bi s.hp id (some (.st (c.set j (.view (id+N*(j+1)) es 0 0))))) (id+N*(j+1)) (some (.ar false [])):=EF _ _ _ (fun h=>H7 h.symm)
    change Bs N w0 X0 Y (Bi β (id+N*(j+1)) none) ⟨s.tm,Bi (Bi s.hp (id+N*(j+1)) (some (.ar false []))) id (some (.st (c.set j (.view (id+N*(j+1)) es 0 0))))⟩ a w at h2;rw[e3] at h2;exact h2
  ·exact⟨β,h⟩
 ·exact⟨β,h⟩
theorem K1 {f:St->Nat->St}(hf:∀s β,Bs N w0 X0 Y β s a w->∀i,∃β',Bs N w0 X0 Y β' (f s i) a w):∀(l:List Nat){s:St}{β:Bt},Bs N w0 X0 Y β s a w->∃β',Bs N w0 X0 Y β' (l.foldl f s) a w
 |[],_,β,h=>⟨β,h⟩
 |i::l,s,β,h=>by
  obtain⟨β1,h1⟩:=hf s β h i;exact K1 hf l h1
theorem BU (h:Bs N w0 X0 Y β s a w)(i:Nat):∃β',Bs N w0 X0 Y β' (AS N s i) a w:=by
 unfold AS;split
 ·split
  ·exact K1 (fun s β h i=>Yp h _ i) _ h
  ·exact⟨β,h⟩
 ·exact⟨β,h⟩
theorem Zx:∀{m:List (Nat × Nat)},Cu (m.map (·.2))=true->∀{i i' j:Nat},(i,j)∈m->(i',j)∈m->i=i'
 |[],_,_,_,_,h,_=>by simp at h
 |(x,y)::m,hn,i,i',j,h,h'=>by
  simp only[List.map_cons,Cu,Bool.and_eq_true,Bool.not_eq_true'] at hn
  have hy:∀k,(k,y) ∉ m:=by
   intro k hk;exact M8 hn.1 (List.mem_map.2 ⟨(k,y),hk,rfl⟩)
  rcases List.mem_cons.1 h with e|h
  ·cases e;rcases List.mem_cons.1 h' with e|h'
   ·cases e;rfl
   ·exact absurd h' (hy _)
  ·rcases List.mem_cons.1 h' with e|h'
   ·cases e;exact absurd h (hy _)
   ·exact Zx hn.2 h h'
theorem S4:∀{m:List (Nat × Nat)},Cu (m.map (·.1))=true->∀{i j j':Nat},(i,j)∈m->(i,j')∈m->j=j'
 |[],_,_,_,_,h,_=>by simp at h
 |(x,y)::m,hn,i,j,j',h,h'=>by
  simp only[List.map_cons,Cu,Bool.and_eq_true,Bool.not_eq_true'] at hn
  have hx:∀k,(x,k) ∉ m:=by
   intro k hk;exact M8 hn.1 (List.mem_map.2 ⟨(x,k),hk,rfl⟩)
  rcases List.mem_cons.1 h with e|h
  ·cases e;rcases List.mem_cons.1 h' with e|h'
   ·cases e;rfl
   ·exact absurd h' (hx _)
  ·rcases List.mem_cons.1 h' with e|h'
   ·cases e;exact absurd h (hx _)
   ·exact S4 hn.2 h h'
theorem Jh {i j:Nat}(h:Nat.beq i j=false):i≠j:=by rintro rfl;rw[Nat.beq_refl] at h;cases h
theorem Rz:∀{m:List (Nat × Nat)} {i j:Nat},Pt m i=some j->(i,j)∈m
 |[],_,_,h=>by cases h
 |(x,y)::m,i,j,h=>by
  unfold Pt at h;cases hb:Nat.beq i x<;>rw[hb] at h
  ·exact List.mem_cons_of_mem _ (Rz h)
  ·have:=Nat.eq_of_beq_eq_true hb;cases h;rw[this];simp
theorem Th {m:List (Nat × Nat)} {hp:Nat->Option A2}:∀{l:List (Nat × Nat)} {j:Nat}{b:A2},Fo (I2 m hp l) j=some b->∃i b0,(i,j)∈l∧hp i=some b0∧b=Ack m b0
 |[],_,_,h=>by cases h
 |(x,y)::l,j,b,h=>by
  unfold I2 at h;cases hx:hp x with
  |none=>
   rw[hx] at h;obtain⟨i,b0,h1,h2⟩:=Th h;exact⟨i,b0,List.mem_cons_of_mem _ h1,h2⟩
  |some bx=>
   rw[hx] at h;simp only[Fo] at h;cases hb:Nat.beq j y<;>rw[hb] at h
   ·obtain⟨i,b0,h1,h2⟩:=Th h;exact⟨i,b0,List.mem_cons_of_mem _ h1,h2⟩
   ·have:=Nat.eq_of_beq_eq_true hb;subst this;cases h;exact⟨x,bx,by simp,hx,rfl⟩
theorem Ke {m:List (Nat × Nat)} {hp:Nat->Option A2}:∀{l:List (Nat × Nat)} {i j:Nat},(i,j)∈l->hp i≠none->Fo (I2 m hp l) j≠none
 |[],_,_,h,_=>by simp at h
 |(x,y)::l,i,j,h,hi=>by
  unfold I2;cases hx:hp x with
  |none=>
   rcases List.mem_cons.1 h with e|h
   ·cases e;exact absurd hx hi
   ·exact Ke h hi
  |some bx=>
   simp only[Fo];cases hb:Nat.beq j y
   ·rcases List.mem_cons.1 h with e|h
    ·cases e;exact absurd rfl (Jh hb)
    ·exact Ke h hi
   ·simp
def Ym (m:List (Nat × Nat)) (j:Nat):Option Nat:=
 match m with
 |[]=>none
 |(x,y)::r=>bif Nat.beq j y then some x else Ym r j
theorem LM:∀{m:List (Nat × Nat)} {i j:Nat},Ym m j=some i->(i,j)∈m
 |[],_,_,h=>by cases h
 |(x,y)::m,i,j,h=>by
  unfold Ym at h;cases hb:Nat.beq j y<;>rw[hb] at h
  ·exact List.mem_cons_of_mem _ (LM h)
  ·have:=Nat.eq_of_beq_eq_true hb;cases h;rw[this];simp
theorem ED:∀{m:List (Nat × Nat)} {i j:Nat},(i,j)∈m->∃k,Ym m j=some k
 |[],_,_,h=>by simp at h
 |(x,y)::m,i,j,h=>by
  unfold Ym;cases hb:Nat.beq j y
  ·rcases List.mem_cons.1 h with e|h
   ·cases e;exact absurd rfl (Jh hb)
   ·exact ED h
  ·exact⟨x,rfl⟩
theorem BD {f:Nat->PV}:∀{l:List Nat}{i:Nat},lk (l.map fun i=>(i,f i)) i=if i∈l then f i else .top
 |[],_=>rfl
 |x::l,i=>by
  simp only[List.map_cons,lk];cases hb:Nat.beq i x
  ·have:=Jh hb;simp only[cond_false,BD,List.mem_cons,this,false_or]
  ·have:=Nat.eq_of_beq_eq_true hb;subst this;simp
theorem AF {m:Nat}:∀{n i:Nat},i∈Iv m n->i<n
 |0,_,h=>by simp[Iv] at h
 |n+1,i,h=>by
  simp only[Iv,List.mem_append] at h;rcases h with h|h
  ·have:=AF h;omega
  ·cases hb:m.testBit n<;>rw[hb] at h
   ·simp at h
   ·simp at h;omega
theorem AW (h:Bs N w0 X0 Y β s a w){m:List (Nat × Nat)} (h1:Cu (m.map (·.1))=true) (h2:Cu (m.map (·.2))=true) {ls:List Nat}(hls:∀i∈ls,i<N)(hpn:∀i,X0.pn i->(B7 N i,B7 N i)∈m):
  ∃β',Bs N w0 X0 Y β' ⟨lk (ls.map fun i=>(i,QS m (s.tm i))),Fo (I2 m s.hp m)⟩ a w:=by
 refine⟨fun j=>(Ym m j).bind β,?_⟩
 have hβ:∀{i j:Nat},(i,j)∈m->(Ym m j).bind β=β i:=by
  intro i j hm;obtain⟨k,hk⟩:=ED hm;rw[hk];have:=Zx h2 (LM hk) hm;subst this;rfl
 have hold:∀{j:Nat} {b:A2},Fo (I2 m s.hp m) j=some b->∃i b0,(i,j)∈m∧s.hp i=some b0∧b=Ack m b0∧(Ym m j).bind β=β i:=by
  intro j b hb;obtain⟨i,b0,hm,h3,h4⟩:=Th hb;exact⟨i,b0,hm,h3,h4,hβ hm⟩
 have Ez:∀{j:Nat},B0 (Fo (I2 m s.hp m) j)->∃i,(i,j)∈m∧B0 (s.hp i)∧(Ym m j).bind β=β i:=by
  intro j hl;cases hb:Fo (I2 m s.hp m) j with
  |none=>rw[hb] at hl;exact hl.elim
  |some b=>
   obtain⟨i,b0,hm,h3,rfl,h5⟩:=hold hb;refine⟨i,hm,?_,h5⟩;rw[hb] at hl;rw[h3];cases b0<;>exact hl
 have hX:∀b,CC (Fo (I2 m s.hp m)) (fun j=>(Ym m j).bind β) b->CC s.hp β b:=by
  rintro b ⟨j,o,hl,hb⟩
  obtain⟨i,_,G9,e⟩:=Ez hl;exact⟨i,o,G9,by rw[←e];exact hb⟩
 have hA:∀b,B1 (Fo (I2 m s.hp m)) (fun j=>(Ym m j).bind β) Y b->B1 s.hp β Y b:=fun b hb=>hb.imp (hX b) id
 have hC:∀p v,A9 w (B1 s.hp β Y) β p v->A9 w (B1 (Fo (I2 m s.hp m)) (fun j=>(Ym m j).bind β) Y) (fun j=>(Ym m j).bind β) (IV m p) v:=by
  intro p v hp;cases p with
  |view id es off n=>
   show A9 _ _ _ (match Pt m id with|some j=>.view j es off n|none=>.top) v
   cases hj:Pt m id with
   |some j=>
    have e:=hβ (Rz hj);rcases hp with⟨e1,e2⟩|⟨b,o,x,cap,e1,e2⟩
    ·exact .inl ⟨by show (Ym m j).bind β=none;rw[e];exact e1,e2⟩
    ·exact .inr ⟨b,o,x,cap,by show (Ym m j).bind β=_;rw[e];exact e1,e2⟩
   |none=>exact Ap.top _
  |ptr id off=>
   show A9 _ _ _ (match Pt m id with|some j=>.ptr j off|none=>.top) v
   cases hj:Pt m id with
   |some j=>
    have e:=hβ (Rz hj);obtain⟨b,o,e1,e2⟩:=hp;exact⟨b,o,by show (Ym m j).bind β=_;rw[e];exact e1,e2⟩
   |none=>exact Ap.top _
  |sc v=>exact Ap.step (Bd.refl _ _) (fun b _=>hA b) hp
  |lst z es n c=>exact Ap.step (Bd.refl _ _) (fun b _=>hA b) hp
  |iptr c off=>exact A9.step (p:=.iptr c off) (Bd.refl _ _) (fun b _=>hA b) (by simp[Ak]) hp
  |_=>exact Ap.top _
 have hV:∀p v,C4 w (B1 s.hp β Y) β p v->C4 w (B1 (Fo (I2 m s.hp m)) (fun j=>(Ym m j).bind β) Y) (fun j=>(Ym m j).bind β) (QS m p) v:=by
  intro p v hp;cases p with
  |agg c=>
   obtain⟨vs,e1,e2⟩:=hp;refine⟨vs,e1,Av.of_at (by simp;exact e2.len) fun i q u hq hu=>?_⟩
   rw[List.getElem?_map] at hq;cases hc:c[i]? with
   |none=>rw[hc] at hq;cases hq
   |some q0=>
    rw[hc] at hq;cases hq;exact hC _ _ (e2.at_ hc hu)
  |view id es off n=>
   have:=hC (.view id es off n) v hp;change A9 _ _ _ (match Pt m id with|some j=>.view j es off n|none=>.top) v at this
   show C4 _ _ _ (match Pt m id with|some j=>.view j es off n|none=>.top) v
   cases hj:Pt m id<;>rw[hj] at this<;>exact this
  |ptr id off=>
   have:=hC (.ptr id off) v hp;change A9 _ _ _ (match Pt m id with|some j=>.ptr j off|none=>.top) v at this
   show C4 _ _ _ (match Pt m id with|some j=>.ptr j off|none=>.top) v
   cases hj:Pt m id<;>rw[hj] at this<;>exact this
  |sc v'=>exact hC (.sc v') v hp
  |lst z es n c=>exact hC (.lst z es n c) v hp
  |iptr c off=>exact hC (.iptr c off) v hp
  |_=>exact Ap.top _
 have hrC:∀p i,i∈Ak (IV m p)->∃k∈Ak p,(k,i)∈m:=by
  intro p i hi;cases p with
  |view id es off n=>
   change i∈Ak (match Pt m id with|some j=>.view j es off n|none=>.top) at hi
   cases hj:Pt m id<;>rw[hj] at hi
   ·simp[Ak] at hi
   ·simp[Ak] at hi;subst hi;exact⟨id,by simp[Ak],Rz hj⟩
  |ptr id off=>
   change i∈Ak (match Pt m id with|some j=>.ptr j off|none=>.top) at hi
   cases hj:Pt m id<;>rw[hj] at hi
   ·simp[Ak] at hi
   ·simp[Ak] at hi;subst hi;exact⟨id,by simp[Ak],Rz hj⟩
  |_=>simp[IV,Ak] at hi
 have hrV:∀p i,i∈A8 (QS m p)->∃k∈A8 p,(k,i)∈m:=by
  intro p i hi;cases p with
  |agg c=>
   simp only[QS,A8,Bh,List.mem_flatMap,List.mem_map] at hi;obtain⟨_,⟨q,hq,rfl⟩,hi⟩:=hi;obtain⟨k,hk,hm⟩:=hrC q i hi;exact⟨k,by simp only[A8,Bh,List.mem_flatMap];exact⟨q,hq,hk⟩,hm⟩
  |view id es off n=>
   refine (hrC (.view id es off n) i ?_).imp fun k hk=>hk
   change i∈A8 (match Pt m id with|some j=>.view j es off n|none=>.top) at hi
   show i∈Ak (match Pt m id with|some j=>.view j es off n|none=>.top)
   cases hj:Pt m id<;>rw[hj] at hi<;>exact hi
  |ptr id off=>
   refine (hrC (.ptr id off) i ?_).imp fun k hk=>hk
   change i∈A8 (match Pt m id with|some j=>.ptr j off|none=>.top) at hi
   show i∈Ak (match Pt m id with|some j=>.ptr j off|none=>.top)
   cases hj:Pt m id<;>rw[hj] at hi<;>exact hi
  |_=>simp[QS,IV,A8,Bh,Ak] at hi
 refine⟨h.dfr,h.tsz,?_,?_,?_,?_,?_,?_,?_,?_,?_,?_,?_,?_,h.Ylt,h.fr⟩
 ·intro i hi;show lk _ i=_;rw[BD,if_neg (fun hm=>by have:=hls i hm;omega)]
 ·intro i hi;show C4 w _ _ (lk _ i) _;rw[BD];split
  ·exact hV _ _ (h.tms i hi)
  ·exact Ap.top _
 ·intro j b hb;obtain⟨i,b0,hm,h3,rfl,e⟩:=hold hb;have I1:=h.box i b0 h3;cases b0 with
  |st c=>
   obtain⟨b,o,e1,e2,e3⟩:=I1;refine⟨b,o,by show (Ym m j).bind β=_;rw[e];exact e1,fun k p hp=>?_,fun k hk=>e3 k (by simpa using hk)⟩
   rw[List.getElem?_map] at hp;cases hc:c[k]? with
   |none=>rw[hc] at hp;cases hp
   |some q=>
    rw[hc] at hp;cases hp;obtain⟨v,hv,hr⟩:=e2 k q hc;exact⟨v,hv,hC _ _ hr⟩
  |ar fz c=>
   have:=M6.step' hA I1;show M6 _ _ _ _ (.ar fz c);rcases this with⟨e1,e2⟩|⟨b,o,e1,e2⟩
   ·exact .inl ⟨by show (Ym m j).bind β=_;rw[e];exact e1,e2⟩
   ·exact .inr ⟨b,o,by show (Ym m j).bind β=_;rw[e];exact e1,e2⟩
  |mv=>exact trivial
 ·intro j j' b o o' hl G9 hb Fs;obtain⟨i,hm,Xp,e⟩:=Ez hl;obtain⟨i',Je,Aty,e'⟩:=Ez G9;have:=h.inj i i' b o o' Xp Aty (by rw[←e];exact hb) (by rw[←e'];exact Fs)
  subst this;exact S4 h1 hm Je
 ·intro j b o hn hb;cases hj:Fo (I2 m s.hp m) j with
  |none=>exact absurd hj hn
  |some bx=>
   obtain⟨i,b0,_,h3,_,e⟩:=hold hj;exact h.blt i b o (by rw[h3];simp) (by rw[←e];exact hb)
 ·intro i hi j hj;change j∈A8 (lk _ i) at hj;rw[BD] at hj;split at hj
  ·obtain⟨k,hk,hm⟩:=hrV _ j hj;exact Ke hm (h.wfT i hi k hk)
  ·simp[A8,Bh,Ak] at hj
 ·intro j cells hb p hp k hk;obtain⟨i,b0,_,h3,h4,_⟩:=hold hb;cases b0 with
  |st c=>
   cases h4;obtain⟨q,hq,rfl⟩:=List.mem_map.1 hp;obtain⟨k',Fc,hm⟩:=hrC q k hk;exact Ke hm (h.wfB i c h3 q hq k' Fc)
  |ar fz c=>cases h4
  |mv=>cases h4
 ·intro b hb;exact h.ownd b (hX b hb)
 ·intro j bx b o hb hlb hβ1 Bl k hk;obtain⟨i,b0,_,h3,h4,e⟩:=hold hb;subst h4;refine h.rngB i b0 b o h3 ?_ (by rw[←e];exact hβ1) Bl k ?_
  ·cases b0<;>exact hlb
  ·cases b0 with
   |st c=>simpa [BR,Ack] using hk
   |ar fz c=>exact hk
   |mv=>exact hk
 ·intro i hi;exact⟨Ke (hpn i hi) (h.pin i hi).1,(hβ (hpn i hi)).trans (h.pin i hi).2⟩
 ·intro j c b o hb hβ1 Bl;obtain⟨i,b0,hm,h3,h4,e⟩:=hold hb;cases b0 with
  |st c0=>
   obtain⟨k,rfl,hk⟩:=h.stp i c0 b o h3 (by rw[←e];exact hβ1) Bl
   exact⟨k,S4 h1 hm (hpn k hk),hk⟩
  |ar fz c0=>cases h4
  |mv=>cases h4
 ·intro b hY hb;exact h.Yx b hY (hX b hb)
theorem O8 {m:List (Nat × Nat)} {q:Nat × Nat}{o n:Nat}(h:q∈m):q∈Zy m o n:=by
 unfold Zy;split
 ·exact h
 ·exact List.mem_append.2 (.inl h)
theorem Im {q:Nat × Nat}{new:Nat}:∀{c:List PV}{j:Nat}{m:List (Nat × Nat)},q∈m->q∈My N new c j m
 |[],_,_,h=>h
 |p::c,j,m,h=>by
  unfold My;split
  ·rename_i e;cases e
  ·rename_i e;cases e;exact Im (O8 h)
  ·rename_i e;cases e;exact Im h
theorem FK {q:Nat × Nat}{m:List (Nat × Nat)} {i:Nat}(h:q∈m):q∈Vt N s m i:=by
 unfold Vt;split
 ·exact O8 h
 ·split
  ·exact h
  ·split
   ·exact Im (O8 h)
   ·exact O8 h
 ·exact Im h
 ·exact h
theorem R5 {q:Nat × Nat}:∀{l:List Nat}{m:List (Nat × Nat)},q∈m->q∈l.foldl (Vt N s) m
 |[],_,h=>h
 |_::l,_,h=>R5 (l:=l) (FK h)
theorem Ms {q:Nat × Nat}{m:List (Nat × Nat)} (h:q∈m):∀k,q∈Ox N s.hp k m
 |0=>h
 |k+1=>by
  unfold Ox;split
  ·exact Im (Ms h k)
  ·exact Ms h k
theorem Zf:∀{k i:Nat},i<k->s.hp (B7 N i)≠none->(B7 N i,B7 N i)∈GZ N s.hp k
 |0,_,h,_=>by omega
 |k+1,i,h,hn=>by
  unfold GZ;by_cases e:i=k
  ·subst e
   have:(s.hp (B7 N i)).isSome=true:=by
    cases hq:s.hp (B7 N i) with
    |none=>exact absurd hq hn
    |some b=>rfl
   rw[this];simp
  ·have:=Zf (k:=k) (i:=i) (by omega) hn
   cases (s.hp (B7 N k)).isSome
   ·exact this
   ·exact List.mem_append.2 (.inl this)
theorem Uu (h:Bs N w0 X0 Y β s a w){L:Nat}{q:Bool}{K:St->Option R}(hk:MG N (Iv L N) q s K=some r):∃β' s',K s'=some r∧Bs N w0 X0 Y β' s' a w:=by
 unfold MG at hk;obtain⟨hb,Cv⟩:=Ag hk;simp only[Bool.and_eq_true] at hb
 obtain⟨β2,h2⟩:∃β2,Bs N w0 X0 Y β2 (bif q then s else (Iv L N).foldl (AS N) ((Iv L N).foldl (Vx N) s)) a w:=by
  cases q
  ·obtain⟨β1,h1⟩:=K1 (fun s β h i=>Yr h i) (Iv L N) h
   obtain⟨β2,h2⟩:=K1 (fun s β h i=>BU h i) (Iv L N) h1
   exact⟨β2,h2⟩
  ·exact⟨β,h⟩
 obtain⟨β3,h3⟩:=AW h2 hb.1 hb.2 (ls:=Iv L N) (fun i hi=>AF hi) (fun i hi=>R5 (Ms (Zf (X0.p8 i hi) (h2.pin i hi).1) 8))
 exact⟨β3,_,Cv,h3⟩
theorem N8 (h:Bs N w0 X0 Y β s a w){L:Nat}{K:St->Option R}(hk:Re N L s K=some r):∃β' s',K s'=some r∧Bs N w0 X0 Y β' s' a w:=Uu h hk
theorem EB (h:Bs N w0 X0 Y β s a w){L:Nat}{K:St->Option R}(hk:LG N L s K=some r):∃β' s',K s'=some r∧Bs N w0 X0 Y β' s' a w:=Uu h hk
end
open Go.RowKit
section
variable {R:Type} {r:R} {P:Program} {N:Nat} {w0:World} {X0:Fw} {Y:Nat->Prop} {C:Fd} {call:Aj}
theorem AH {n:Nat}{F:St->Option R}{s:St}(h:Xe n F s=some r):F s=some r:=by
 unfold Xe at h;split at h
 ·cases h
 ·exact h
theorem HD {β:Bt}{s:St}{a:Act}{w:World}(h:Bs N w0 X0 Y β s a w){c:Operand}{kt kf:St->Option R}(hk:TA s c kt kf=some r):(a.eval c=.bool true∧kt s=some r)∨(a.eval c=.bool false∧kf s=some r):=by
 unfold TA at hk;split at hk
 ·rename_i d;split at hk
  ·rename_i b ht;have hv:a.eval (.tmp d)=.bool b:=Bk h (x:=.tmp d) ht;cases b
   ·change kf ⟨Bi s.tm d (.sc (.bool false)),s.hp⟩=some r at hk;rw[R0 s.tm ht] at hk;exact .inr ⟨hv,hk⟩
   ·change kt ⟨Bi s.tm d (.sc (.bool true)),s.hp⟩=some r at hk;rw[R0 s.tm ht] at hk;exact .inl ⟨hv,hk⟩
  ·rename_i ht;have hu:=Bx h (.tmp d);change C4 _ _ _ (s.tm d) _ at hu;rw[ht] at hu;have Gs:Ap w _ .ub (a.eval (.tmp d)):=hu
   obtain⟨b,hv⟩:∃b,a.eval (.tmp d)=.bool b:=by
    generalize a.eval (.tmp d)=x at Gs;cases Gs with
    |ub b=>exact⟨b,rfl⟩
   obtain⟨h1,h2⟩:=Y7 hk;cases b
   ·exact .inr ⟨hv,h2⟩
   ·exact .inl ⟨hv,h1⟩
  ·cases hk
 ·exact .inl ⟨rfl,hk⟩
 ·exact .inr ⟨rfl,hk⟩
 ·cases hk
theorem Xz {c:Code}{Q:Exit->Act->World->Prop}{F:(St->Option R)->St->Option R} {nm:St->(St->Option R)->Option R}
  (DF:∀{β s a w} {K:St->Option R},Bs N w0 X0 Y β s a w->nm s K=some r->∃β' s',K s'=some r∧Bs N w0 X0 Y β' s' a w)
  (hF:∀{β s a w} {K:St->Option R}{Q':Act->World->Prop},Bs N w0 X0 Y β s a w->F K s=some r->(∀s' a' w' β',K s'=some r->Bs N w0 X0 Y β' s' a' w'->Q' a' w')->c.wp P (Exit.then Q' Q) a w):
  ∀(n:Nat) {β s a w},Bs N w0 X0 Y β s a w->WP F nm n s=some r->Code.rounds P c Q n a w
 |0,_,_,_,_,_,hk=>by cases hk
 |n+1,β,s,a,w,h,hk=>by
  rw[rounds_succ];refine hF h hk fun s' a' w' β' Fc h'=>?_
  obtain⟨β1,s1,Cv,h1⟩:=DF h' Fc;exact Xz DF hF n h1 Cv
theorem JJ {G:Glo}(H9:ET P G w0 X0)(Cr:∀f args res,call f args=some res->Dl G P f args res)(hm:P.follows .mixedOrders=true){fu:Nat}:
  ∀(c:Code) {ln:Nat} {lx:Nat->Nat} {lr:Nat} {kn:St->Option R} {kx:Nat->St->Option R} {kr:St->Option R} {β:Bt} {s:St} {a:Act} {w:World} {Q:Exit->Act->World->Prop},Bs N w0 X0 Y β s a w ->
   Ld C P fu N call c ln lx lr kn kx kr s=some r->(∀s' a' w' β',kn s'=some r->Bs N w0 X0 Y β' s' a' w'->Q .normal a' w') ->
   (∀id s' a' w' β',kx id s'=some r->Bs N w0 X0 Y β' s' a' w'->Q (.exit id) a' w')->(∀s' a' w' β',kr s'=some r->Bs N w0 X0 Y β' s' a' w'->Q .ret a' w')->c.wp P Q a w:=by
 intro c
 induction c with
 |skip=>intro ln lx lr kn kx kr β s a w Q h hk hn hx hr;exact wp_skip (hn s a w β hk h)
 |region id ops draw=>
  intro ln lx lr kn kx kr β s a w Q h hk hn hx hr;unfold Ld at hk;cases draw
  ·simp only[EJ,Bool.false_and,cond_false] at hk;exact BN h H9 Cr hk hn
  ·simp only[EJ,Acu,Bool.true_and,cond_true] at hk;cases hb:Yy C P ops<;>rw[hb] at hk
   ·obtain⟨Fs,Cv⟩:=Ag (show Ar _ _=some r from hk)
    exact DO h H9 Cr hm Fs Cv hn
   ·exact AZ h H9 Cr hm hb hk hn
 |seq c1 c2 ih1 ih2=>
  intro ln lx lr kn kx kr β s a w Q h hk hn hx hr;unfold Ld at hk
  refine wp_seq (ih1 h hk (fun s' a' w' β' Fc h'=>by
    cases hc:WU P c1 c2
    ·rw[hc] at Fc;exact ih2 h' Fc hn hx hr
    ·rw[hc] at Fc;cases hq:Vw c1 c2
     ·rw[hq] at Fc;obtain⟨β1,s1,Cv,h1⟩:=N8 h' (show Re _ _ _ _=some r from Fc)
      exact ih2 h1 (AH Cv) hn hx hr
     ·rw[hq] at Fc;obtain⟨β1,s1,Cv,h1⟩:=EB h' (show LG _ _ _ _=some r from Fc)
      exact ih2 h1 (AH Cv) hn hx hr) (fun id s' a' w' β' Fc h'=>hx id s' a' w' β' Fc h') (fun s' a' w' β' Fc h'=>hr s' a' w' β' Fc h'))
 |cond c c1 c2 ih1 ih2=>
  intro ln lx lr kn kx kr β s a w Q h hk hn hx hr;unfold Ld at hk;rcases HD h hk with⟨hc,Cv⟩|⟨hc,Cv⟩
  ·exact wp_cond_true hc (ih1 h Cv hn hx hr)
  ·exact wp_cond_false hc (ih2 h Cv hn hx hr)
 |block id c ih=>
  intro ln lx lr kn kx kr β s a w Q h hk hn hx hr;unfold Ld at hk;refine wp_block (ih h hk (fun s' a' w' β' Fc h'=>hn s' a' w' β' Fc h') (fun j s' a' w' β' Fc h'=>?_) (fun s' a' w' β' Fc h'=>hr s' a' w' β' Fc h'))
  show (if j=id then _ else _)
  by_cases e:j=id
  ·subst e;rw[if_pos rfl];rw[Nat.beq_refl] at Fc;exact hn s' a' w' β' Fc h'
  ·rw[if_neg e]
   have:Nat.beq j id=false:=by
    cases hb:Nat.beq j id
    ·rfl
    ·exact absurd (Nat.eq_of_beq_eq_true hb) e
   rw[this] at Fc;exact hx j s' a' w' β' Fc h'
 |loop c ih=>
  intro ln lx lr kn kx kr β s a w Q h hk hn hx hr;unfold Ld at hk;obtain⟨β1,s1,Cv,h1⟩:=N8 h hk;refine wp_loop_rounds fu (Xz (fun h hk=>N8 h hk) (fun h hk hQ=>?_) fu h1 Cv)
  exact ih h hk hQ (fun id s' a' w' β' Fc h'=>hx id s' a' w' β' Fc h') (fun s' a' w' β' Fc h'=>hr s' a' w' β' Fc h')
 |«exit» id=>intro ln lx lr kn kx kr β s a w Q h hk hn hx hr;exact wp_exit (hx id s a w β hk h)
 |ret=>intro ln lx lr kn kx kr β s a w Q h hk hn hx hr;exact wp_ret (hr s a w β hk h)
 |_=>intro ln lx lr kn kx kr β s a w Q h hk hn hx hr;cases hk
end
open Go.RowKit
theorem Jf:∀{l:List (Nat × A2)} {i:Nat}{b:A2},Fo l i=some b->(i,b)∈l
 |[],_,_,h=>by cases h
 |(j,c)::l,i,b,h=>by
  unfold Fo at h;cases hb:Nat.beq i j<;>rw[hb] at h
  ·exact List.mem_cons_of_mem _ (Jf h)
  ·have:=Nat.eq_of_beq_eq_true hb;cases h;rw[this];simp
theorem CS:∀{l:List (Nat × A2)},(l.map (·.1)).Nodup->∀{i b},(i,b)∈l->Fo l i=some b
 |[],_,_,_,h=>by cases h
 |(j,c)::l,hn,i,b,h=>by
  simp only[List.map_cons,List.nodup_cons] at hn;unfold Fo;rcases List.mem_cons.1 h with e|h
  ·cases e;simp only[Nat.beq_refl,cond_true]
  ·have:Nat.beq i j=false:=by
    cases hb:Nat.beq i j
    ·rfl
    ·exact absurd (Nat.eq_of_beq_eq_true hb ▸ List.mem_map.2 ⟨_,h,rfl⟩) hn.1
   simp only[this,cond_false];exact CS hn.2 h
section
variable {R:Type} {r:R} {P:Program} {N:Nat} {w0:World} {X0:Fw} {Y:Nat->Prop} {β β':Bt} {s:St} {a:Act} {w w':World} {A:Nat->Prop}
theorem VV {id:Nat}{t:CT}{p:PV}{K:PV->List (Nat × A2)->Option R} (hk:UA id t p K=some r):
  (∃c,K c []=some r∧Py c∧∀w A q u,E7 w A q p u->Ap w A c u)∨∃es n cc,p=.own es n cc∧K (.view id es 0 n) [(id,.ar false cc)]=some r:=by
 have tree:∀t',(Sz t' p fun c=>K c [])=some r->∃c,K c []=some r∧Py c∧∀w A q u,E7 w A q p u->Ap w A c u:=by
  intro t' hk;obtain⟨c,hk,hT,Xn,hv⟩:=Jc hk;refine⟨c,hk,hT,fun w A q u h=>(hv w A (fun _=>none) u ?_).1⟩
  cases p<;>first|exact h|exact Xn.elim
 unfold UA at hk;cases t with
 |sl es=>
  dsimp only at hk;split at hk
  ·rename_i es' n c;cases hb:Nat.beq es' es<;>rw[hb] at hk
   ·cases hk
   ·have:=Nat.eq_of_beq_eq_true hb;subst this;exact .inr ⟨_,_,_,rfl,hk⟩
  ·exact .inl (tree (.sl es) hk)
 |int k=>exact .inl (tree _ hk)
 |bool=>exact .inl (tree _ hk)
 |str=>exact .inl (tree _ hk)
 |any=>exact .inl (tree _ hk)
theorem Ls:∀{ts:List CT}{id:Nat}{ps:List PV}{K:List PV->List (Nat × A2)->Option R},Ux N id ts ps K=some r ->
  ∃cs bs,∃qs:List (Nat × Nat),K cs bs=some r∧cs.length=ps.length∧ps.length=ts.length∧bs.map (·.1)=qs.map (·.1)∧(∀q∈qs,∀q'∈qs,q.2=q'.2->q.1=q'.1) ∧
   (∀i bx,(i,bx)∈bs->∃c,bx=.ar false c)∧(∀c∈cs,Yq c)∧(∀c∈cs,∀i∈Ak c,∃bx,(i,bx)∈bs) ∧
   ∀(w:World) (A:Nat->Prop) (own β':Bt) (j0:Nat) (us:List Value),(∀q∈qs,β' q.1=own (j0+q.2))->Dm w A own j0 ps us->Av (A9 w A β') cs us∧∀i bx,(i,bx)∈bs->M6 w A β' i bx
 |[],id,ps,K,hk=>by
  obtain⟨rfl,hk⟩:=Cb hk;refine⟨[],[],[],hk,rfl,rfl,rfl,by simp,by simp,by simp,by simp,fun w A own β' j0 us _ h=>⟨?_,by simp⟩⟩
  cases us with
  |nil=>trivial
  |cons u us=>exact h.elim
 |t::ts,id,ps,K,hk=>by
  unfold Ux at hk;obtain⟨p,ps',X6,Cv⟩:=Aq hk;subst X6;rcases VV Cv with⟨c,Dk,hT,hv⟩|⟨es,n,cc,rfl,Dk⟩
  ·obtain⟨cs,bs,qs,Mk,hl,DD,hb,Vz,D7,hF,It,G8⟩:=Ls Dk;refine⟨c::cs,bs,qs.map (fun q=>(q.1,q.2+1)),Mk,by simp[hl],by simp[DD],by rw[hb];simp,?_,D7,?_,?_,fun w A own β' j0 us hβ ho=>?_⟩
   ·intro q hq q' D5 e;obtain⟨q0,Qv,rfl⟩:=List.mem_map.1 hq;obtain⟨q1,G3,rfl⟩:=List.mem_map.1 D5;exact Vz q0 Qv q1 G3 (by simp only at e;omega)
   ·intro y hy;rcases List.mem_cons.1 hy with rfl|hy
    ·exact M9 hT
    ·exact hF y hy
   ·intro y hy i hi;rcases List.mem_cons.1 hy with rfl|hy
    ·rw[Fl hT] at hi;cases hi
    ·exact It y hy i hi
   ·cases us with
    |nil=>exact ho.elim
    |cons u us=>
     obtain⟨h1,h2⟩:=G8 w A own β' (j0+1) us (fun q hq=>by rw[hβ _ (List.mem_map_of_mem hq)];congr 1;simp only;omega) ho.2
     exact⟨⟨UM (hv w A _ u ho.1),h1⟩,h2⟩
  ·obtain⟨cs,bs,qs,Mk,hl,DD,hb,Vz,D7,hF,It,G8⟩:=Ls Dk;refine⟨_::cs,(id,.ar false cc)::bs,(id,0)::qs.map (fun q=>(q.1,q.2+1)),Mk,by simp[hl],by simp[DD],by simp only[List.map_cons,hb];simp,?_,?_,?_,?_,fun w A own β' j0 us hβ ho=>?_⟩
   ·intro q hq q' D5 e;rcases List.mem_cons.1 hq with rfl|hq
    ·rcases List.mem_cons.1 D5 with rfl|D5
     ·rfl
     ·obtain⟨q0,Qv,rfl⟩:=List.mem_map.1 D5;simp only at e;omega
    ·obtain⟨q0,Qv,rfl⟩:=List.mem_map.1 hq;rcases List.mem_cons.1 D5 with rfl|D5
     ·simp only at e;omega
     ·obtain⟨q1,G3,rfl⟩:=List.mem_map.1 D5;exact Vz q0 Qv q1 G3 (by simp only at e;omega)
   ·intro i bx hm;rcases List.mem_cons.1 hm with e|hm
    ·cases e;exact⟨cc,rfl⟩
    ·exact D7 i bx hm
   ·intro y hy;rcases List.mem_cons.1 hy with rfl|hy
    ·trivial
    ·exact hF y hy
   ·intro y hy i hi;rcases List.mem_cons.1 hy with rfl|hy
    ·simp only[Ak,List.mem_singleton] at hi;subst hi;exact⟨_,List.mem_cons_self⟩
    ·obtain⟨bx,I1⟩:=It y hy i hi;exact⟨bx,List.mem_cons_of_mem _ I1⟩
   ·cases us with
    |nil=>exact ho.elim
    |cons u us=>
     obtain⟨h1,h2⟩:=G8 w A own β' (j0+1) us (fun q hq=>by rw[hβ _ (List.mem_cons_of_mem _ (List.mem_map_of_mem hq))];congr 1;simp only;omega) ho.2
     have h0:=hβ (id,0) List.mem_cons_self;simp only[Nat.add_zero] at h0;refine⟨⟨?_,h1⟩,fun i bx hm=>?_⟩
     ·rcases ho.1 with⟨h3,rfl,_,h5⟩|⟨b,ob,cap,h3,h4,h5,h6,h7,_⟩
      ·exact .inl ⟨h0.trans h3,rfl,rfl,h5⟩
      ·exact .inr ⟨b,ob,ob,cap,h0.trans h3,h4,.inl rfl,h5,h6,h7⟩
     ·rcases List.mem_cons.1 hm with e|hm
      ·cases e;exact Rn ho.1 h0
      ·exact h2 i bx hm
theorem Aao {i:Nat}{t:TypeId}{p:PV}{K:PV->List (Nat × A2)->Option R} (hk:inK P N i t p K=some r):
  ∃v bs,∃qs:List (Nat × Nat),K v bs=some r∧bs.map (·.1)=qs.map (·.1)∧(∀q∈qs,∀q'∈qs,q.2=q'.2->q.1=q'.1)∧(Ss p=true->(B7 N i,0)∈qs∧i<8) ∧
   (∀id bx,(id,bx)∈bs->B0 (some bx)∧∀c,bx=.st c->id=B7 N i∧Ss p=true)∧(∀id∈A8 v,∃bx,(id,bx)∈bs)∧Tp bs ∧
   ∀(w:World) (A:Nat->Prop) (bt β':Bt) (u:Value),(∀q∈qs,β' q.1=bt q.2)->GR w A bt p u->C4 w A β' v u∧(∀id bx,(id,bx)∈bs->M6 w A β' id bx) ∧
    ∀id bx b o,(id,bx)∈bs->β' id=some (b,o)->∀j,BR bx o j->Ahs bt p b j:=by
 have owns:∀{bs:List (Nat × A2)} {qs:List (Nat × Nat)},bs.map (·.1)=qs.map (·.1)->(∀i bx,(i,bx)∈bs->∃c,bx=.ar false c)->∀{bt β':Bt},(∀q∈qs,β' q.1=bt (1+q.2))->∀id bx b o,(id,bx)∈bs->β' id=some (b,o)->∀j,BR bx o j->∃k o',bt (k+1)=some (b,o')∧o'<=j:=by
  intro bs qs hb D7 bt β' hβ id bx b o hm CG j hj;have:id∈qs.map (·.1):=by rw[←hb];exact List.mem_map.2 ⟨_,hm,rfl⟩
  obtain⟨q,hq,rfl⟩:=List.mem_map.1 this;obtain⟨c,rfl⟩:=D7 _ _ hm;rw[hβ q hq,Nat.add_comm] at CG;exact⟨q.2,o,CG,hj⟩
 have nost:∀{bs:List (Nat × A2)},(∀i bx,(i,bx)∈bs->∃c,bx=.ar false c)->Tp bs:=by
  intro bs D7 id cells hm;obtain⟨c,e⟩:=D7 id _ hm;cases e
 unfold inK at hk;split at hk
 ·rename_i e he;obtain⟨ps,rfl,Cv⟩:=Yz hk;obtain⟨hi8,Dk⟩:=Ag Cv;have hi8:i<8:=Nat.lt_of_succ_le (Nat.le_of_ble_eq_true hi8);obtain⟨cs,bs,qs,Mk,hl,DD,hb,Vz,D7,hF,It,hv⟩:=Ls Dk;refine⟨_,_,(B7 N i,0)::qs.map (fun q=>(q.1,q.2+1)),Mk,by simp only[List.map_cons,hb];simp,?_,fun _=>⟨List.mem_cons_self,hi8⟩,?_,?_,?_,fun w A bt β' u hβ hp=>?_⟩
  ·intro q hq q' D5 e;rcases List.mem_cons.1 hq with rfl|hq
   ·rcases List.mem_cons.1 D5 with rfl|D5
    ·rfl
    ·obtain⟨q0,Qv,rfl⟩:=List.mem_map.1 D5;simp only at e;omega
   ·obtain⟨q0,Qv,rfl⟩:=List.mem_map.1 hq;rcases List.mem_cons.1 D5 with rfl|D5
    ·simp only at e;omega
    ·obtain⟨q1,G3,rfl⟩:=List.mem_map.1 D5;exact Vz q0 Qv q1 G3 (by simp only at e;omega)
  ·intro id bx hm;rcases List.mem_cons.1 hm with e|hm
   ·cases e;exact⟨trivial,fun _ _=>⟨rfl,rfl⟩⟩
   ·obtain⟨c,rfl⟩:=D7 id bx hm;exact⟨trivial,fun _ e=>by cases e⟩
  ·intro id Ay;simp only[A8,Bh,Ak,List.mem_singleton] at Ay;subst Ay;exact⟨_,List.mem_cons_self⟩
  ·intro id cells hm c hc k hk;rcases List.mem_cons.1 hm with e|hm
   ·cases e;obtain⟨bx,I1⟩:=It c hc k hk;exact⟨bx,List.mem_cons_of_mem _ I1⟩
   ·obtain⟨c,e⟩:=D7 id _ hm;cases e
  ·obtain⟨b,o,h1,rfl,_,vs,h3,h4,h5⟩:=hp;have h0:=hβ (B7 N i,0) List.mem_cons_self;simp only at h0;have hβ1:∀q∈qs,β' q.1=bt (1+q.2):=fun q hq=>by rw[hβ _ (List.mem_cons_of_mem _ (List.mem_map_of_mem hq)),Nat.add_comm]
   obtain⟨h6,h7⟩:=hv w A bt β' 1 vs hβ1 h3;refine⟨⟨b,o,h0.trans h1,by simp⟩,fun id bx hm=>?_,fun id bx b' o' hm Fs j hj=>?_⟩
   ·rcases List.mem_cons.1 hm with e|hm
    ·cases e;refine⟨b,o,h0.trans h1,fun k c hk=>?_,fun k hk=>h5 k (by omega)⟩
     obtain⟨v,hv,DG⟩:=h6.get hk;exact⟨v,h4 k v hv,DG⟩
    ·exact h7 id bx hm
   ·rcases List.mem_cons.1 hm with e|hm
    ·cases e;rw[h0] at Fs;have hj:o'<=j∧j<o'+cs.length:=hj;exact .inr ⟨o',ps,Fs,hj.1,.inl ⟨rfl,by omega⟩⟩
    ·exact .inl (owns hb D7 hβ1 id bx b' o' hm Fs j hj)
 ·split at hk
  ·rename_i ps;obtain⟨e,he,Cv⟩:=Bp hk;obtain⟨hi8,Dk⟩:=Ag Cv;have hi8:i<8:=Nat.lt_of_succ_le (Nat.le_of_ble_eq_true hi8);obtain⟨q,qr,hq,Mk⟩:=Aq Dk;subst hq;obtain⟨Tc,V8⟩:=Cb Mk;subst Tc;unfold Ov at V8;split at V8
   ·rename_i es' n c;cases hb:Nat.beq es' (As P e)<;>rw[hb] at V8
    ·cases V8
    ·have Rs:=Nat.eq_of_beq_eq_true hb;subst Rs;refine⟨_,_,[(B7 N i,0)],V8,rfl,by simp,fun _=>⟨by simp,hi8⟩,?_,?_,?_,fun w A bt β' u hβ hp=>?_⟩
     ·intro id bx hm;simp only[List.mem_singleton] at hm;cases hm;exact⟨trivial,fun _ e=>by cases e⟩
     ·intro id Ay;simp only[A8,Bh,Ak,List.mem_singleton] at Ay;subst Ay;exact⟨_,List.mem_cons_self⟩
     ·intro id cells hm;simp only[List.mem_singleton] at hm;cases hm
     ·obtain⟨es,n',c',h1,h2⟩:=hp;cases h1;have h0:=hβ (B7 N i,0) List.mem_cons_self;simp only at h0;refine⟨?_,fun id bx hm=>?_,fun id bx b' o' hm Fs j hj=>?_⟩
      ·rcases h2 with⟨h3,rfl,_,h5⟩|⟨b,ob,cap,h3,h4,h5,h6,h7,_⟩
       ·exact .inl ⟨h0.trans h3,rfl,rfl,h5⟩
       ·exact .inr ⟨b,ob,ob,cap,h0.trans h3,h4,.inl rfl,h5,h6,h7⟩
      ·simp only[List.mem_singleton] at hm;cases hm;exact Rn h2 h0
      ·simp only[List.mem_singleton] at hm;cases hm;rw[h0] at Fs;exact .inr ⟨o',_,Fs,hj,.inr rfl⟩
   ·cases V8
  ·rename_i XL;cases Ef:Ba P t<;>rw[Ef] at hk
   ·simp only[cond_false] at hk;obtain⟨cs,bs,qs,Mk,hl,DD,hb,Vz,D7,hF,It,hv⟩:=Ls hk;obtain⟨c,cs',P6,V8⟩:=Aq Mk;subst P6;obtain⟨Tc,YB⟩:=Cb V8;subst Tc;have hFc:=hF c (by simp)
    have TE:Ss p=false∨∃ps,p=.pbox ps:=by
     cases p<;>first|exact .inl rfl|exact .inr ⟨_,rfl⟩|exact absurd rfl (XL _)
    have hpb:∀ps,p ≠ .pbox ps:=by
     rintro ps rfl
     cases hts:Fz P t with
     |nil=>rw[hts] at DD;simp at DD
     |cons t' ts=>
      rw[hts] at hk;unfold Ux UA at hk;obtain⟨q,qs1,hq,Cv⟩:=Aq hk;cases hq;cases t'<;>simp[Sz,Eu,Ad,A0,Fx,RT] at Cv
    have hpa:∀ps,p ≠ .agg ps:=by
     rintro ps rfl
     cases hts:Fz P t with
     |nil=>rw[hts] at DD;simp at DD
     |cons t' ts=>
      rw[hts] at hk;unfold Ux UA at hk;obtain⟨q,qs1,hq,Cv⟩:=Aq hk;cases hq;cases t'<;>simp[Sz,Eu,Ad,A0,Fx,RT] at Cv
    have TE:Ss p=false:=TE.elim id (fun ⟨ps,e⟩=>absurd e (hpb ps))
    have P1:A8 c=Ak c:=by cases c<;>first|rfl|exact hFc.elim
    refine⟨c,bs,qs.map (fun q=>(q.1,q.2+1)),YB,by rw[hb];simp,?_,(fun h=>by rw[TE] at h;cases h),?_,fun id Ay=>It c (by simp) id (by rw[←P1];exact Ay),nost D7,fun w A bt β' u hβ hp=>?_⟩
    ·intro q hq q' D5 e;obtain⟨q0,Qv,rfl⟩:=List.mem_map.1 hq;obtain⟨q1,G3,rfl⟩:=List.mem_map.1 D5;exact Vz q0 Qv q1 G3 (by simp only at e;omega)
    ·intro id bx hm;obtain⟨c,rfl⟩:=D7 id bx hm;exact⟨trivial,fun _ e=>by cases e⟩
    ·have Br:E7 w A (bt 1) p u:=by cases p<;>first|exact hp.2|exact absurd rfl (hpa _)|exact absurd rfl (hpb _)|exact absurd rfl (XL _)
     have hβ1:∀q∈qs,β' q.1=bt (1+q.2):=fun q hq=>by rw[hβ _ (List.mem_map_of_mem hq),Nat.add_comm]
     obtain⟨h6,h7⟩:=hv w A bt β' 1 [u] hβ1 ⟨Br,trivial⟩;refine⟨?_,h7,fun id bx b' o' hm Fs j hj=>.inl (owns hb D7 hβ1 id bx b' o' hm Fs j hj)⟩
     have h8:=h6.1;cases c<;>first|exact h8|exact hFc.elim
   ·simp only[cond_true] at hk;obtain⟨ps,hp0,Cv⟩:=Ff hk;subst hp0;obtain⟨cs,bs,qs,Mk,hl,DD,hb,Vz,D7,hF,It,hv⟩:=Ls Cv;refine⟨_,bs,qs.map (fun q=>(q.1,q.2+1)),Mk,by rw[hb];simp,?_,(fun h=>by cases h),?_,fun id Ay=>?_,nost D7,fun w A bt β' u hβ hp=>?_⟩
    ·intro q hq q' D5 e;obtain⟨q0,Qv,rfl⟩:=List.mem_map.1 hq;obtain⟨q1,G3,rfl⟩:=List.mem_map.1 D5;exact Vz q0 Qv q1 G3 (by simp only at e;omega)
    ·intro id bx hm;obtain⟨c,rfl⟩:=D7 id bx hm;exact⟨trivial,fun _ e=>by cases e⟩
    ·obtain⟨c,hc,hi⟩:=List.mem_flatMap.1 (show id∈cs.flatMap Ak from Ay)
     exact It c hc id hi
    ·obtain⟨vs,h1,_,h3⟩:=hp;have hβ1:∀q∈qs,β' q.1=bt (1+q.2):=fun q hq=>by rw[hβ _ (List.mem_map_of_mem hq),Nat.add_comm]
     obtain⟨h6,h7⟩:=hv w A bt β' 1 vs hβ1 h3;exact⟨⟨vs,h1,h6⟩,h7,fun id bx b' o' hm Fs j hj=>.inl (owns hb D7 hβ1 id bx b' o' hm Fs j hj)⟩
theorem FQ:∀{ts:List TypeId}{i:Nat}{ps:List PV}{K:List (Nat × PV)->List (Nat × A2)->Option R},XF P N i ts ps K=some r ->
  ∃tms bs,∃qs:List (Nat × Nat × Nat),K tms bs=some r∧bs.map (·.1)=qs.map (·.1)∧(∀q∈qs,i<=q.2.1)∧(∀q∈qs,∀q'∈qs,q.2=q'.2->q.1=q'.1) ∧
   (∀k p,ps[k]?=some p->Ss p=true->(B7 N (i+k),i+k,0)∈qs∧i+k<8)∧(∀id bx,(id,bx)∈bs->B0 (some bx)∧∀c,bx=.st c->∃k p,ps[k]?=some p∧Ss p=true∧id=B7 N (i+k)) ∧
   (∀j,∀id∈A8 (lk tms j),∃bx,(id,bx)∈bs)∧Tp bs ∧
   ∀(w:World) (A:Nat->Prop) (bt:Va) (β':Bt) (us:List Value),(∀q∈qs,β' q.1=bt q.2.1 q.2.2)->I5 w A bt i ps us ->
    (∀j,(∃u,i<=j∧us[j-i]?=some u∧C4 w A β' (lk tms j) u)∨(lk tms j=.top∧(i<=j->us[j-i]?=none)))∧(∀id bx,(id,bx)∈bs->M6 w A β' id bx) ∧
    ∀id bx b o,(id,bx)∈bs->β' id=some (b,o)->∀j,BR bx o j->∃k p,ps[k]?=some p∧Ahs (bt (i+k)) p b j
 |[],i,ps,K,hk=>by
  obtain⟨X6,hk⟩:=Cb hk;subst X6;refine⟨[],[],[],hk,rfl,by simp,by simp,by simp,by simp,(fun j id Ay=>by cases Ay),(by intro i cells hm;cases hm),fun w A bt β' us _ h=>?_⟩
  cases us with
  |nil=>exact⟨fun j=>.inr ⟨rfl,fun _=>by simp⟩,by simp,by simp⟩
  |cons u us=>exact h.elim
 |t::ts,i,ps,K,hk=>by
  unfold XF at hk;obtain⟨p,ps',X6,Cv⟩:=Aq hk;subst X6;obtain⟨v,bs,qs,Dk,hb,hqi,Xa,I1,hr,JN,hv⟩:=Aao Cv;obtain⟨tms,bs',qs',Mk,Fs,Afr,An7,Aj2,Ap9,MZ,Apy,Kt⟩:=FQ Dk;refine⟨(i,v)::tms,bs++bs',qs.map (fun q=>(q.1,i,q.2))++qs',Mk,by simp only[List.map_append,hb,Fs];simp,?_,?_,?_,?_,?_,?_,fun w A bt β' us hβ hp=>?_⟩
  ·intro q hq;rcases List.mem_append.1 hq with hq|hq
   ·obtain⟨q0,Qv,rfl⟩:=List.mem_map.1 hq;exact Nat.le_refl _
   ·have:=Afr q hq;omega
  ·intro q hq q' D5 e;rcases List.mem_append.1 hq with hq|hq
   ·obtain⟨q0,Qv,rfl⟩:=List.mem_map.1 hq;rcases List.mem_append.1 D5 with D5|D5
    ·obtain⟨q1,G3,rfl⟩:=List.mem_map.1 D5;simp only[Prod.mk.injEq,true_and] at e;exact hqi q0 Qv q1 G3 e
    ·have:=Afr q' D5;rw[←e] at this;simp only at this;omega
   ·have h5:=Afr q hq;rcases List.mem_append.1 D5 with D5|D5
    ·obtain⟨q1,G3,rfl⟩:=List.mem_map.1 D5;rw[e] at h5;simp only at h5;omega
    ·exact An7 q hq q' D5 e
  ·intro k p' Fc hL;cases k with
   |zero=>
    simp only[List.getElem?_cons_zero,Option.some.injEq] at Fc;subst Fc;obtain⟨h1,h2⟩:=Xa hL;exact⟨List.mem_append.2 (.inl (List.mem_map.2 ⟨_,h1,rfl⟩)),h2⟩
   |succ k=>
    obtain⟨h1,h2⟩:=Aj2 k p' (by simpa using Fc) hL
    rw[show i+1+k=i+(k+1) by omega] at h1 h2
    exact⟨List.mem_append.2 (.inr h1),h2⟩
  ·intro id bx hm;rcases List.mem_append.1 hm with hm|hm
   ·obtain⟨h1,h2⟩:=I1 id bx hm;exact⟨h1,fun c hc=>⟨0,p,rfl,(h2 c hc).2,(h2 c hc).1⟩⟩
   ·obtain⟨h1,h2⟩:=Ap9 id bx hm;refine⟨h1,fun c hc=>?_⟩
    obtain⟨k,p',h3,h4,h5⟩:=h2 c hc;exact⟨k+1,p',by simpa using h3,h4,by rw[h5,show i+1+k=i+(k+1) by omega]⟩
  ·intro j id Ay;unfold lk at Ay;cases hbq:Nat.beq j i<;>rw[hbq] at Ay
   ·obtain⟨bx,h1⟩:=MZ j id Ay;exact⟨bx,List.mem_append.2 (.inr h1)⟩
   ·obtain⟨bx,h1⟩:=hr id Ay;exact⟨bx,List.mem_append.2 (.inl h1)⟩
  ·intro id cells hm c hc k hk;rcases List.mem_append.1 hm with hm|hm
   ·obtain⟨bx,h1⟩:=JN id cells hm c hc k hk;exact⟨bx,List.mem_append.2 (.inl h1)⟩
   ·obtain⟨bx,h1⟩:=Apy id cells hm c hc k hk;exact⟨bx,List.mem_append.2 (.inr h1)⟩
  ·cases us with
   |nil=>exact hp.elim
   |cons u us=>
    obtain⟨h1,h2,h3⟩:=hv w A (bt i) β' u (fun q hq=>hβ _ (List.mem_append.2 (.inl (List.mem_map_of_mem hq)))) hp.1
    obtain⟨U6,h2',h3'⟩:=Kt w A bt β' us (fun q hq=>hβ q (List.mem_append.2 (.inr hq))) hp.2
    refine⟨fun j=>?_,fun id bx hm=>?_,fun id bx b o hm CG j hj=>?_⟩
    ·unfold lk;cases hbq:Nat.beq j i
     ·have H7:=Jh hbq;simp only[cond_false];rcases U6 j with⟨u',h4,h5,h6⟩|⟨h4,h5⟩
      ·refine .inl ⟨u',by omega,?_,h6⟩
       rw[show j-i=(j-(i+1))+1 by omega]
       simpa using h5
      ·refine .inr ⟨h4,fun hij=>?_⟩
       rw[show j-i=(j-(i+1))+1 by omega]
       simpa using h5 (by omega)
     ·have:=Nat.eq_of_beq_eq_true hbq;subst this;exact .inl ⟨u,Nat.le_refl _,by simp,h1⟩
    ·rcases List.mem_append.1 hm with hm|hm
     ·exact h2 id bx hm
     ·exact h2' id bx hm
    ·rcases List.mem_append.1 hm with hm|hm
     ·exact⟨0,p,rfl,h3 id bx b o hm CG j hj⟩
     ·obtain⟨k,p',h4,h5⟩:=h3' id bx b o hm CG j hj;exact⟨k+1,p',by simpa using h4,by rw[show i+(k+1)=i+1+k by omega];exact h5⟩
def KD (bt:Va)(args:List PV)(h8:∀k p,args[k]?=some p->Ss p=true->k<8):Fw:=
 ⟨RO bt,AG bt args,fun i=>∃p,args[i]?=some p∧Ss p=true,fun i=>bt i 0,fun i ⟨p,h1,h2⟩=>h8 i p h1 h2⟩
theorem OR {ts:List TypeId}{args:List PV}{us:List Value}{bt:Va}{K:List (Nat × PV)->List (Nat × A2)->Option R} (DB:Ins w Y bt args us)(hk:XF P N 0 ts args K=some r):
  ∃tms bs,K tms bs=some r∧(A3 (fun _=>none) bs=true->us.length<=N->∃(h8:∀k p,args[k]?=some p->Ss p=true->k<8),∃β0,
   Bs N w (KD bt args h8) Y β0 ⟨lk tms,Fo bs⟩ { tmps:=us.toArray++Array.replicate (N-us.toArray.size) undef,defers:=[] } w):=by
 obtain⟨tms,bs,qs,Cv,hb,Qv,hqi,Xa,I1,hr,JN,hv⟩:=FQ hk;refine⟨tms,bs,Cv,fun Lm hN=>?_⟩
 have KN:=Mp Lm
 have h8:∀k p,args[k]?=some p->Ss p=true->k<8:=fun k p h1 h2=>by
  have:=(Xa k p h1 h2).2;omega
 have Yd:(qs.map (·.1)).Nodup:=by rw[←hb];exact KN
 obtain⟨β0,hβ0⟩:∃β0:Bt,∀q∈qs,β0 q.1=bt q.2.1 q.2.2:=by
  have:∀(l:List (Nat × Nat × Nat)),(l.map (·.1)).Nodup->∃β0:Bt,∀q∈l,β0 q.1=bt q.2.1 q.2.2:=by
   intro l
   induction l with
   |nil=>intro _;exact⟨fun _=>none,by simp⟩
   |cons q l ih=>
    intro hn;simp only[List.map_cons,List.nodup_cons] at hn;obtain⟨b1,h1⟩:=ih hn.2;refine⟨Bi b1 q.1 (bt q.2.1 q.2.2),fun q' D5=>?_⟩
    rcases List.mem_cons.1 D5 with rfl|D5
    ·exact Ah _ _ _
    ·have H7:q'.1≠q.1:=fun e=>hn.1 (by rw[←e];exact List.mem_map.2 ⟨q',D5,rfl⟩)
     rw[Ae _ _ H7];exact h1 q' D5
  exact this qs Yd
 refine⟨h8,β0,?_⟩;obtain⟨hs,DJ,hL⟩:=hv w _ bt β0 us hβ0 DB.args
 have hqm:∀id bx,(id,bx)∈bs->∃ik,(id,ik)∈qs∧β0 id=bt ik.1 ik.2:=by
  intro id bx hm;have:id∈qs.map (·.1):=by rw[←hb];exact List.mem_map.2 ⟨_,hm,rfl⟩
  obtain⟨q,hq,rfl⟩:=List.mem_map.1 this;exact⟨q.2,hq,hβ0 q hq⟩
 have hX:∀b,CC (Fo bs) β0 b->RO bt b:=by
  rintro b ⟨id,o,hl,hβ⟩
  cases hq:Fo bs id with
  |none=>rw[hq] at hl;exact hl.elim
  |some bx=>
   obtain⟨ik,_,h2⟩:=hqm id bx (Jf hq);rw[h2] at hβ;exact⟨_,_,_,hβ⟩
 have hA:∀b,B1 (Fo bs) β0 Y b->RO bt b∨Y b:=fun b hb=>hb.imp (hX b) id
 have ZI:∀{p:PV} {u:Value},C4 w (fun b=>RO bt b∨Y b) β0 p u->C4 w (B1 (Fo bs) β0 Y) β0 p u:=fun h=>h.step (Bd.refl _ _) (fun b _=>hA b) (fun _ _=>rfl)
 refine⟨rfl,by simp;omega,fun i hi=>?_,fun i hi=>?_,?_,?_,?_,fun i hi id Ay=>?_,?_,fun b hb=>.inl (hX b hb),?_,?_,?_,fun b hY hXb=>DB.Yx b hY (hX b hXb),DB.Ylt,⟨rfl,rfl,rfl,Bd.refl _ _,fun _ _ _ _=>⟨rfl,rfl⟩⟩⟩
 ·rcases hs i with⟨u,_,h,_⟩|⟨h,_⟩
  ·rw[Nat.sub_zero,List.getElem?_eq_none (by omega)] at h;cases h
  ·exact h
 ·rcases hs i with⟨u,_,h,hv⟩|⟨h,h'⟩
  ·rw[Nat.sub_zero] at h
   have Bl:i<us.length:=by
    rcases Nat.lt_or_ge i us.length with h'|h'
    ·exact h'
    ·rw[List.getElem?_eq_none h'] at h;cases h
   have:(us.toArray++Array.replicate (N-us.toArray.size) undef).getD i undef=u:=by
    rw[Array.getD_eq_getD_getElem?,Array.getElem?_append_left (by simpa using Bl)]
    simp[h]
   show C4 w _ _ _ ((us.toArray++Array.replicate (N-us.toArray.size) undef).getD i undef);rw[this];exact ZI hv
  ·show C4 w _ _ (lk tms i) _;rw[h];exact Ap.top _
 ·intro id bx hq;exact (DJ id bx (Jf hq)).step' hA
 ·intro id id' b o o' hl G9 hβ hβ';cases hq:Fo bs id with
  |none=>change B0 (Fo bs id) at hl;rw[hq] at hl;exact hl.elim
  |some bx=>
   cases D5:Fo bs id' with
   |none=>change B0 (Fo bs id') at G9;rw[D5] at G9;exact G9.elim
   |some bx'=>
    obtain⟨ik,h1,h2⟩:=hqm id bx (Jf hq);obtain⟨ik',U6,h2'⟩:=hqm id' bx' (Jf D5);rw[h2] at hβ;rw[h2'] at hβ';obtain⟨h3,h4⟩:=DB.inj _ _ _ _ b o o' hβ hβ';exact hqi _ h1 _ U6 (Prod.ext h3 h4)
 ·intro id b o hn hβ;cases hq:Fo bs id with
  |none=>exact absurd hq hn
  |some bx=>
   obtain⟨ik,h1,h2⟩:=hqm id bx (Jf hq);rw[h2] at hβ;exact DB.lt b ⟨_,_,_,hβ⟩
 ·obtain⟨bx,hm⟩:=hr i id Ay;show Fo bs id≠none;rw[CS KN hm];simp
 ·intro id cells hq c hc k hk;obtain⟨bx,hm⟩:=JN id cells (Jf hq) c hc k hk;show Fo bs k≠none;rw[CS KN hm];simp
 ·intro id bx b o hq hl hβ _ j hj;obtain⟨k,p,h1,h2⟩:=hL id bx b o (Jf hq) hβ j hj;rw[Nat.zero_add] at h2;exact⟨k,p,h1,h2⟩
 ·rintro i ⟨p,h1,h2⟩
  have h3:=(Xa i p h1 h2).1;rw[Nat.zero_add] at h3;refine⟨?_,hβ0 _ h3⟩;have:B7 N i∈bs.map (·.1):=by rw[hb];exact List.mem_map.2 ⟨_,h3,rfl⟩
  obtain⟨⟨id,bx⟩,hm,e⟩:=List.mem_map.1 this;show Fo bs (B7 N i)≠none;rw[←e,CS KN hm];simp
 ·intro id c b o hq _ _;obtain⟨k,p,h1,h2,h3⟩:=(I1 id _ (Jf hq)).2 c rfl;rw[Nat.zero_add] at h3;exact⟨k,h3,p,h1,h2⟩
end
open Go.RowKit
def Ik (β:Bt)(l:List (Option Nat)) (j:Nat):Option (Nat × Nat):=((l[j]?).bind id).bind β
section
variable {R:Type} {r:R} {P:Program} {N:Nat} {w0:World} {X0:Fw} {Y:Nat->Prop} {β β':Bt} {s:St} {a:Act} {w w':World} {A:Nat->Prop}
def VJ (s:St)(l:List (Option Nat)):Prop:=∀id,some id∈l->B0 (s.hp id)
def I4 (s:St)(z:List Nat):Prop:=∀id∈z,∃f c,s.hp id=some (.ar f c)
theorem Z1 (h : Bs N w0 X0 Y β s a w) {shr : Bool} {t : CT} {p : PV} {K : PV -> List Nat -> List Nat -> Option R} (hk : LY shr s.hp t p K = some r) :
    ∃ c q z, K c (Option.toList q) z = some r ∧ (∀ x, c ≠ .agg x ∧ c ≠ .pbox x) ∧ Yq p ∧ (∀ id, q = some id -> ∃ c, s.hp id = some (.ar false c)) ∧ I4 s z ∧
      ∀ (fz : List Nat) A u, (∀ i ∈ z, i ∈ fz) -> I4 s fz -> (∀ b, A b -> B1 (Ac s.hp fz) β Y b) -> A9 w (B1 s.hp β Y) β p u -> E7 w A (q.bind β) c u := by
  have notree : ∀ {c : PV}, Py c -> ∀ x, c ≠ .agg x ∧ c ≠ .pbox x := fun hT x => ⟨Ra hT x, by rintro rfl; exact hT⟩
  unfold LY at hk
  cases shr <;> simp only[cond_true, cond_false] at hk
  · have tree : ∀ t', (∀ es, t' ≠ .sl es) -> (Sz t' p fun c => K c [] []) = some r -> ∃ c q z, K c (Option.toList q) z = some r ∧ (∀ x, c ≠ .agg x ∧ c ≠ .pbox x) ∧ Yq p ∧ (∀ id, q = some id -> ∃ c, s.hp id = some (.ar false c)) ∧ I4 s z ∧
        ∀ (fz : List Nat) A u, (∀ i ∈ z, i ∈ fz) -> I4 s fz -> (∀ b, A b -> B1 (Ac s.hp fz) β Y b) -> A9 w (B1 s.hp β Y) β p u -> E7 w A (q.bind β) c u := by
      intro t' H7 hk
      obtain⟨c, Cv, hT, Xn, hv⟩ := Jc hk
      refine⟨c, none, [], Cv, notree hT, M9 Xn, by simp, (by intro i hi; cases hi), fun fz A u _ _ hA hc => Hv hT ?_⟩
      exact (hv w _ β u hc).1.step (Bd.refl _ _) (fun b _ hb => J1 (hA b hb))
    unfold Adq at hk
    cases t with
    | sl es =>
      dsimp only at hk
      split at hk
      · rename_i id es' off n
        cases hb : (Nat.beq es' es && Nat.beq off 0) <;> rw[hb] at hk
        · cases hk
        · simp only[Bool.and_eq_true] at hb
          have he := Nat.eq_of_beq_eq_true hb.1
          have ho := Nat.eq_of_beq_eq_true hb.2
          subst he ho
          simp only[cond_true] at hk
          split at hk
          · rename_i c h0
            obtain⟨hl, Cv⟩ := Ag hk
            refine⟨_, some id, [], Cv, by simp, trivial, fun i hi => by cases hi; exact⟨c, h0⟩, (by intro i hi; cases hi), fun fz A u _ _ hA hc => ?_⟩
            rcases hc with⟨h1, _, rfl, h4⟩ | ⟨b, o, x, cap, h1, h2, hx, h3, h4, h5⟩
            · exact .inl ⟨h1, rfl, by simp, h4⟩
            · have hx : x = o := by rcases hx with e | ⟨_, e⟩ <;> omega
              subst hx
              rcases h.box id _ h0 with⟨h6, _⟩ | ⟨b', o', h6, h7, h8, _⟩
              · rw[h1] at h6; cases h6
              · rw[h1] at h6
                cases h6
                refine .inr ⟨b, x, cap, h1, h2, h3, h4, h5, fun j q hq => ?_, fun j hj Kk => h8 rfl j hj Kk⟩
                rw[List.getElem?_take] at hq
                split at hq
                · obtain⟨v, hv, h9, ht⟩ := h7 j q hq
                  exact⟨v, hv, h9, ht.step (Bd.refl _ _) (fun b _ hb => J1 (hA b hb))⟩
                · cases hq
          · cases hk
      · obtain⟨z, n, c, Cv, hp⟩ := Dp hk
        obtain⟨hz, Dk⟩ := Ag Cv
        subst hz
        have hpF : Yq p := by rcases hp with e | ⟨e, _⟩ <;> (rw[e]; trivial)
        refine⟨_, none, [], Dk, by simp, hpF, by simp, (by intro i hi; cases hi), fun fz A u _ _ _ hc => ?_⟩
        have hu : u = .slice none 0 0 := by
          rcases hp with rfl | ⟨rfl, _⟩
          · cases hc; rfl
          · exact Ap.val hc
        exact .inl ⟨rfl, rfl, rfl, none, hu⟩
    | int k => exact tree _ (by simp) hk
    | bool => exact tree _ (by simp) hk
    | str => exact tree _ (by simp) hk
    | any => exact tree _ (by simp) hk
  · obtain⟨c, m, Cv, hT, hF, hm, hv⟩ := Wn h hk
    exact⟨c, none, m, Cv, notree hT, hF, by simp, hm, fun fz A u h1 h2 hA hc => Hv hT ((hv fz h1 h2 u hc).1.step (Bd.refl _ _) (fun b _ hb => hA b hb))⟩
structure Vb (s:St) (β:Bt) (Y:Nat->Prop) (w:World) (cs:List PV) (l:List (Option Nat)) (z:List Nat) (ps:List PV):Prop where
 len:l.length=cs.length
 pl:cs.length=ps.length
 na:∀c∈cs,∀x,c ≠ .agg x∧c ≠ .pbox x
 fr:∀p∈ps,Yq p
 own:∀id,some id∈l->∃c,s.hp id=some (.ar false c)
 row:I4 s z
 sem:∀(fz:List Nat) A us,(∀i∈z,i∈fz)->I4 s fz->(∀b,A b->B1 (Ac s.hp fz) β Y b)->Av (A9 w (B1 s.hp β Y) β) ps us->∀own j0,(∀j,j<l.length->own (j0+j)=Ik β l j)->Dm w A own j0 cs us
theorem Vb.nil:Vb s β Y w [] [] [] []:=⟨rfl,rfl,by simp,by simp,by simp,(by intro i hi;cases hi),fun fz A us _ _ _ hu own j0 _=>by
 cases us with
 |nil=>trivial
 |cons u us=>exact hu.elim⟩
theorem Vb.cons {c p:PV}{q:Option Nat}{z zs:List Nat}{cs ps:List PV}{l:List (Option Nat)} (Tn:∀x,c ≠ .agg x∧c ≠ .pbox x)(hF:Yq p)(hq:∀id,q=some id->∃c,s.hp id=some (.ar false c)) (hz:I4 s z)
  (hv:∀(fz:List Nat) A u,(∀i∈z,i∈fz)->I4 s fz->(∀b,A b->B1 (Ac s.hp fz) β Y b)->A9 w (B1 s.hp β Y) β p u->E7 w A (q.bind β) c u) (H:Vb s β Y w cs l zs ps):Vb s β Y w (c::cs) (q::l) (z++zs) (p::ps):=by
 refine⟨by simp[H.len],by simp[H.pl],?_,?_,?_,?_,fun fz A us hz1 hz2 hA hu own j0 Fv=>?_⟩
 ·intro x hx;rcases List.mem_cons.1 hx with rfl|hx
  ·exact Tn
  ·exact H.na x hx
 ·intro x hx;rcases List.mem_cons.1 hx with rfl|hx
  ·exact hF
  ·exact H.fr x hx
 ·intro id Ay;rcases List.mem_cons.1 Ay with e|Ay
  ·exact hq id e.symm
  ·exact H.own id Ay
 ·intro i hi;rcases List.mem_append.1 hi with hi|hi
  ·exact hz i hi
  ·exact H.row i hi
 ·cases us with
  |nil=>exact hu.elim
  |cons u us=>
   have h0:=Fv 0 (by simp)
   rw[Nat.add_zero] at h0;refine⟨?_,H.sem fz A us (fun i hi=>hz1 i (by simp[hi])) hz2 hA hu.2 own (j0+1) fun j hj=>?_⟩
   ·rw[h0];exact hv fz A u (fun i hi=>hz1 i (by simp[hi])) hz2 hA hu.1
   ·have:=Fv (j+1) (by simp;omega)
    rw[show j0+1+j=j0+(j+1) by omega,this]
    simp[Ik]
theorem M4 (h:Bs N w0 X0 Y β s a w){shr:Bool}:∀{ts:List CT}{ps:List PV}{K:List PV->List Nat->List Nat->Option R},Tz shr s.hp ts ps K=some r ->
  ∃cs l z,K cs (l.filterMap id) z=some r∧Vb s β Y w cs l z ps
 |[],[],K,hk=>⟨[],[],[],hk,Vb.nil⟩
 |[],_::_,K,hk=>by cases hk
 |_::_,[],K,hk=>by cases hk
 |t::ts,p::ps,K,hk=>by
  unfold Tz at hk;obtain⟨c,q,z,Cv,Tn,hF,hq,hz,hv⟩:=Z1 h hk;obtain⟨cs,l,zs,Dk,H⟩:=M4 h Cv;refine⟨c::cs,q::l,z++zs,?_,Vb.cons Tn hF hq hz hv H⟩;cases q<;>exact Dk
theorem Ud (h:Bs N w0 X0 Y β s a w):∀{ts:List CT}{ws ps:List PV}{K:List PV->List Nat->List Nat->Option R},Vl s.hp ts ws ps K=some r ->
  ∃cs l z,K cs (l.filterMap id) z=some r∧cs.length=ws.length∧Vb s β Y w cs l z ps
 |[],[],[],K,hk=>⟨[],[],[],hk,rfl,Vb.nil⟩
 |[],_::_,_,K,hk=>by cases hk
 |[],[],_::_,K,hk=>by cases hk
 |_::_,[],_,K,hk=>by cases hk
 |_::_,_::_,[],K,hk=>by cases hk
 |t::ts,x::ws,p::ps,K,hk=>by
  unfold Vl at hk;obtain⟨c,q,z,Cv,Tn,hF,hq,hz,hv⟩:=Z1 h hk;obtain⟨cs,l,zs,Dk,hl,H⟩:=Ud h Cv;refine⟨c::cs,q::l,z++zs,?_,by simp[hl],Vb.cons Tn hF hq hz hv H⟩
  cases q<;>exact Dk
theorem KT {own:Bt}{zz j:Nat}{p:PV}{u:Value}(hp:∀x,p ≠ .agg x∧p ≠ .pbox x)(h:Dm w A own j [p] [u]):Aaa w A own zz j p u:=by
 cases p<;>first|exact h.1|exact absurd rfl (hp _).1|exact absurd rfl (hp _).2
theorem LF (h:Bs N w0 X0 Y β s a w){id b o:Nat}{c cs:List PV}{l:List (Option Nat)} {z:List Nat}(h0:s.hp id=some (.st c)) (hβ:β id=some (b,o)) (H:Vb s β Y w cs l z c){fz:List Nat}{A:Nat->Prop}(h1:∀i∈z,i∈fz)(h2:I4 s fz)(hA:∀b,A b->B1 (Ac s.hp fz) β Y b)
  {own:Bt} {j0:Nat} (Fv:∀j,j<l.length->own (j0+j)=Ik β l j):Aau w A own j0 b o cs:=by
 obtain⟨b',o',D7,It,CY⟩:=h.box id _ h0;rw[hβ] at D7;cases D7;refine⟨c.mapIdx (fun j _=>(w.cell? ⟨b,o+j,none⟩).getD undef),H.sem fz A _ h1 h2 hA ?_ own j0 Fv,?_,fun k hk=>CY k (by have:=H.pl;omega)⟩
 ·refine Av.of_at (by simp) fun j p v hp hv=>?_
  obtain⟨u,hu,DG⟩:=It j p hp;rw[List.getElem?_mapIdx,hp,Option.map_some,hu] at hv;simp at hv;subst hv;exact DG
 ·intro k v QQ;rw[List.getElem?_mapIdx] at QQ;cases hp:c[k]? with
  |none=>rw[hp] at QQ;cases QQ
  |some p=>
   obtain⟨u,hu,DG⟩:=It k p hp;rw[hp,Option.map_some,hu] at QQ;simp at QQ;subst QQ;exact hu
theorem PK (h:Bs N w0 X0 Y β s a w){shr:Bool}{t:TypeId}{p:PV}{u:Value}(hp:C4 w (B1 s.hp β Y) β p u) {K:PV->List Nat->List Nat->Option R}(hk:XB P shr s.hp t p K=some r):
  ∃v l z,K v (l.filterMap id) z=some r∧l.length=QH v∧VJ s l∧I4 s z ∧
   ∀(fz:List Nat) A zz,(∀i∈z,i∈fz)->I4 s fz->(∀b,A b->B1 (Ac s.hp fz) β Y b)->(∀id c b o,some id∈l->s.hp id=some (.st c)->β id=some (b,o)->zz<=b) ->
    ∀own j0,(∀j,j<l.length->own (j0+j)=Ik β l j)->Aaa w A own zz j0 v u:=by
 unfold XB at hk;split at hk
 ·rename_i e he;split at hk
  ·rename_i id off;split at hk
   ·rename_i c h0;obtain⟨hof,Cv⟩:=Ag hk;have hof:=Nat.eq_of_beq_eq_true hof;subst hof;obtain⟨cs,l,z,Dk,H⟩:=M4 h Cv;obtain⟨b,o,hβ,hu⟩:=hp;refine⟨.pbox cs,some id::l,z,Dk,by simp only[QH,List.length_cons,H.len];omega,?_,H.row,fun fz A zz h1 h2 hA hz own j0 Fv=>?_⟩
    ·intro i hi;rcases List.mem_cons.1 hi with e|hi
     ·cases e;rw[h0];trivial
     ·obtain⟨c',Mr⟩:=H.own i hi;rw[Mr];trivial
    ·have h3:=Fv 0 (by simp)
     rw[Nat.add_zero] at h3;refine⟨b,o,by rw[h3];exact hβ,hz id c b o (by simp) h0 hβ,by rw[hu,Nat.add_zero],LF h h0 hβ H h1 h2 hA fun j hj=>?_⟩
     have:=Fv (j+1) (by simp;omega)
     rw[show j0+1+j=j0+(j+1) by omega,this]
     simp[Ik]
   ·cases hk
  ·cases hk
 ·cases Ef:Ba P t<;>rw[Ef] at hk<;>simp only[cond_true,cond_false] at hk
  ·obtain⟨cs,l,z,Cv,H⟩:=M4 h hk;obtain⟨c,cs',P6,Dk⟩:=Aq Cv;subst P6;obtain⟨Tc,Mk⟩:=Cb Dk;subst Tc;have Tn:=H.na c (by simp)
   have AL:QH c=1:=by cases c<;>first|rfl|exact absurd rfl (Tn _).1|exact absurd rfl (Tn _).2
   have hF:=H.fr p (by simp)
   refine⟨c,l,z,Mk,by rw[AL];exact H.len,fun i hi=>?_,H.row,fun fz A zz h1 h2 hA _ own j0 Fv=>KT Tn (H.sem fz A [u] h1 h2 hA ⟨?_,trivial⟩ own j0 Fv)⟩
   ·obtain⟨c',Mr⟩:=H.own i hi;rw[Mr];trivial
   ·cases p<;>first|exact hp|exact hF.elim
  ·obtain⟨ps,X6,Cv⟩:=Ff hk;subst X6;obtain⟨cs,l,z,Dk,H⟩:=M4 h Cv;obtain⟨vs,hu,G8⟩:=hp;refine⟨.agg cs,l,z,Dk,H.len,fun i hi=>?_,H.row,fun fz A zz h1 h2 hA _ own j0 Fv=>⟨vs,hu,H.sem fz A vs h1 h2 hA G8 own j0 Fv⟩⟩
   obtain⟨c',Mr⟩:=H.own i hi;rw[Mr];trivial
def CD (P:Program)(tmps:Array Value)(w:World)(rv:ResultVar)(u:Value):Prop:=
  (match rv with
   |.tmp t=>(pure (tmps.getD t undef):Sem Value)
   |.cell a t=>do loadVar t (←asAddr (tmps.getD a undef))).run P w=.ok u w
theorem VE (h:Bs N w0 X0 Y β s a w)(t:Nat):C4 w (B1 s.hp β Y) β (s.tm t) (a.tmps.getD t undef):=by
 rcases Nat.lt_or_ge t N with h'|h'
 ·exact h.tms t h'
 ·rw[h.tmo t h'];exact Ap.top _
theorem QA (h:Bs N w0 X0 Y β s a w){rv:ResultVar}{K:PV->Option R}(hk:WZ P s rv K=some r):∃p u,K p=some r∧CD P a.tmps w rv u∧C4 w (B1 s.hp β Y) β p u:=by
 unfold WZ at hk;split at hk
 ·rename_i t;exact⟨_,_,hk,rfl,VE h t⟩
 ·rename_i x t;obtain⟨v,ad,val,Cv,B4,hl,hv,_⟩:=DQ h (VE h x) hk;refine⟨v,val,Cv,?_,hv⟩;unfold CD;simp[B4,asAddr,hl]
theorem Qu {l l':List (Option Nat)} {j:Nat}(h:j<l.length):Ik β (l++l') j=Ik β l j:=by
 unfold Ik;rw[List.getElem?_append_left h]
theorem Qh {l l':List (Option Nat)} {j:Nat}:Ik β (l++l') (l.length+j)=Ik β l' j:=by
 unfold Ik;rw[List.getElem?_append_right (by omega),Nat.add_sub_cancel_left]
theorem Wk (h:Bs N w0 X0 Y β s a w){shr:Bool}:∀{rs:List ResultVar}{ts:List TypeId}{K:List PV->List Nat->List Nat->Option R},CI P shr s rs ts K=some r ->
  ∃vs l z us,K vs (l.filterMap id) z=some r∧Av (CD P a.tmps w) rs us∧l.length=Le vs∧VJ s l∧I4 s z ∧
   ∀(fz:List Nat) A zz,(∀i∈z,i∈fz)->I4 s fz->(∀b,A b->B1 (Ac s.hp fz) β Y b)->(∀id c b o,some id∈l->s.hp id=some (.st c)->β id=some (b,o)->zz<=b) ->
    ∀own j0,(∀j,j<l.length->own (j0+j)=Ik β l j)->LN w A own zz j0 vs us
 |[],[],K,hk=>⟨[],[],[],[],hk,trivial,rfl,(by intro id Ay;cases Ay),(by intro id Ay;cases Ay),fun _ _ _ _ _ _ _ _ _ _=>trivial⟩
 |[],_::_,K,hk=>by cases hk
 |_::_,[],K,hk=>by cases hk
 |rv::rs,t::ts,K,hk=>by
  unfold CI at hk;obtain⟨p,u,Cv,hu,hp⟩:=QA h hk;obtain⟨v,l,z,Dk,hl,hL,hz,hv⟩:=PK h hp Cv;obtain⟨vs,l',z',us,Mk,RK,G9,QN,QO,G8⟩:=Wk h Dk;refine⟨v::vs,l++l',z++z',u::us,?_,⟨hu,RK⟩,by simp only[List.length_append,Le,List.map_cons,List.sum_cons,hl];rw[G9];rfl,?_,?_,fun fz A zz h1 h2 hA Kf own j0 Fv=>⟨?_,?_⟩⟩
  ·rw[List.filterMap_append];exact Mk
  ·intro id Ay;rcases List.mem_append.1 Ay with Ay|Ay
   ·exact hL id Ay
   ·exact QN id Ay
  ·intro id Ay;rcases List.mem_append.1 Ay with Ay|Ay
   ·exact hz id Ay
   ·exact QO id Ay
  ·exact hv fz A zz (fun i hi=>h1 i (by simp[hi])) h2 hA (fun id c b o hi=>Kf id c b o (by simp[hi])) own j0 fun j hj=>by rw[Fv j (by simp;omega),Qu hj]
  ·refine G8 fz A zz (fun i hi=>h1 i (by simp[hi])) h2 hA (fun id c b o hi=>Kf id c b o (by simp[hi])) own (j0+QH v) fun j hj=>?_
   rw[←hl,Nat.add_assoc,Fv (l.length+j) (by simp;omega),Qh]
theorem M3 (h:Bs N w0 X0 Y β s a w){bt:Va}(hpt:∀i,X0.pt i=bt i 0):∀{ts:List TypeId}{i:Nat}{ps:List PV}{K:List (List PV)->List Nat->List Nat->List Nat->Option R},Tf P N s.hp i ts ps K=some r ->
  (∀k p,ps[k]?=some p->Ss p=true->X0.pn (i+k)) ->
  ∃os l z q,K os (l.filterMap id) z q=some r∧(∀id,some id∈l->∃c,s.hp id=some (.ar false c))∧I4 s z∧(∀id∈q,B0 (s.hp id))∧(∀k p,ps[k]?=some p->Ss p=true->B7 N (i+k)∈q) ∧
   ∀(fz:List Nat) A,(∀i∈z,i∈fz)->I4 s fz->(∀i∈q,i ∉ fz)->(∀b,A b->B1 (Ac s.hp fz) β Y b) ->
    ∀own j0,(∀j,j<l.length->own (j0+j)=Ik β l j)->Gy w A own bt j0 i ps os
 |[],i,ps,K,hk,_=>by
  obtain⟨X6,hk⟩:=Cb hk;subst X6;exact⟨[],[],[],[],hk,by simp,(by intro id Ay;cases Ay),by simp,by simp,fun _ _ _ _ _ _ _ _ _=>rfl⟩
 |t::ts,i,ps,K,hk,hpn=>by
  unfold Tf at hk;obtain⟨p,ps',X6,Cv⟩:=Aq hk;subst X6
  have Afo:∀k p,ps'[k]?=some p->Ss p=true->X0.pn (i+1+k):=fun k p' h1 h2=>by
   have:=hpn (k+1) p' (by simpa using h1) h2
   rw[show i+1+k=i+(k+1) by omega]
   exact this
  have hpq:∀{q:List Nat},(Ss p=true->B7 N i∈q)->(∀k p,ps'[k]?=some p->Ss p=true->B7 N (i+1+k)∈q)->∀k p',(p::ps')[k]?=some p'->Ss p'=true->B7 N (i+k)∈q:=by
   intro q h1 h2 k p' h3 h4;cases k with
   |zero=>
    simp only[List.getElem?_cons_zero,Option.some.injEq] at h3;subst h3;exact h1 h4
   |succ k=>
    have:=h2 k p' (by simpa using h3) h4
    rw[show i+1+k=i+(k+1) by omega] at this
    exact this
  split at Cv
  ·rename_i ws;obtain⟨e,he,Dk⟩:=Bp Cv;split at Dk
   ·rename_i c h0;obtain⟨cs,l,z,Mk,Lc,H⟩:=Ud h Dk;obtain⟨os,l',z',q,V8,QN,QO,D5,ZL,hv⟩:=M3 h hpt Mk Afo;refine⟨cs::os,l++l',z++z',B7 N i::q,by rw[List.filterMap_append];exact V8,?_,?_,?_,hpq (fun _=>List.mem_cons_self) (fun k p h1 h2=>List.mem_cons_of_mem _ (ZL k p h1 h2)),fun fz A h1 h2 h3 hA own j0 Fv=>?_⟩
    ·intro id Ay;rcases List.mem_append.1 Ay with Ay|Ay
     ·exact H.own id Ay
     ·exact QN id Ay
    ·intro id Ay;rcases List.mem_append.1 Ay with Ay|Ay
     ·exact H.row id Ay
     ·exact QO id Ay
    ·intro id Ay;rcases List.mem_cons.1 Ay with rfl|Ay
     ·rw[h0];trivial
     ·exact D5 id Ay
    ·have Xa:=(h.pin i (by have:=hpn 0 _ rfl rfl;rwa [Nat.add_zero] at this)).2
     obtain⟨b,o,D7,_,_⟩:=h.box _ _ h0;rw[D7,hpt] at Xa;refine⟨⟨b,o,Xa.symm,Lc,LF h h0 D7 H (fun i hi=>h1 i (by simp[hi])) h2 hA fun j hj=>by rw[Fv j (by simp;omega),Qu hj]⟩,?_⟩
     refine hv fz A (fun i hi=>h1 i (by simp[hi])) h2 (fun i hi=>h3 i (by simp[hi])) hA own (j0+cs.length) fun j hj=>?_
     rw[←H.len,Nat.add_assoc,Fv (l.length+j) (by simp;omega),Qh]
   ·cases Dk
  ·split at Cv
   ·rename_i c h0;obtain⟨os,l',z',q,V8,QN,QO,D5,ZL,hv⟩:=M3 h hpt Cv Afo;refine⟨c::os,l',z',B7 N i::q,V8,QN,QO,?_,hpq (fun _=>List.mem_cons_self) (fun k p h1 h2=>List.mem_cons_of_mem _ (ZL k p h1 h2)),fun fz A h1 h2 h3 hA own j0 Fv=>⟨?_,hv fz A h1 h2 (fun i hi=>h3 i (by simp[hi])) hA own j0 Fv⟩⟩
    ·intro id Ay;rcases List.mem_cons.1 Ay with rfl|Ay
     ·rw[h0];trivial
     ·exact D5 id Ay
    ·have Xa:=(h.pin i (by have:=hpn 0 _ rfl rfl;rwa [Nat.add_zero] at this)).2
     rw[hpt] at Xa;rcases h.box _ _ h0 with⟨h4,h5⟩|⟨b,o,h4,h5,h6,_⟩
     ·exact .inl ⟨by rw[←Xa];exact h4,h5⟩
     ·exact .inr ⟨b,o,by rw[←Xa];exact h4,h5.weak (fun b _ hb=>J1 (hA b hb)),h6 rfl⟩
   ·cases Cv
  ·rename_i FH XV;have TE:Ss p=false:=by cases p<;>first|rfl|exact absurd rfl (FH _)|exact absurd rfl (XV _)
   obtain⟨os,l',z',q,V8,QN,QO,D5,ZL,hv⟩:=M3 h hpt Cv Afo;refine⟨os,l',z',q,V8,QN,QO,D5,hpq (fun e=>by rw[TE] at e;cases e) ZL,fun fz A h1 h2 h3 hA own j0 Fv=>?_⟩
   have:=hv fz A h1 h2 h3 hA own j0 Fv;cases p<;>first|exact this|cases TE
theorem FC {f:ResultVar->Sem Value}:∀{rs:List ResultVar}{us:List Value},Av (fun rv u=>(f rv).run P w=.ok u w) rs us->(rs.mapM f).run P w=.ok us w
 |[],[],_=>by simp
 |[],_::_,h=>h.elim
 |_::_,[],h=>h.elim
 |rv::rs,u::us,h=>by
  rw[List.mapM_cons];simp[h.1,FC h.2]
theorem GD {fn:Func}{us:List Value}(h:Av (CD P a.tmps w) fn.results.toList us):(results fn a.tmps).run P w=.ok (F8 us) w:=by
 unfold results;rw[Array.mapM_eq_mapM_toList];simp only[map_eq_pure_bind,bind_assoc,pure_bind,Sem.run_bind];refine Eq.trans (congrArg (fun x=>Result.andThen x _) (FC h)) ?_
 simp only[Result.andThen_ok,Sem.run_pure]
 congr 1
 clear h
 match us with
 |[]=>rfl
 |[u]=>rfl
 |u::v::us=>exact dif_neg (by simp)
theorem HB:∀{l:List (Option Nat)},Cu (l.filterMap id)=true->∀{j j' i:Nat},l[j]?=some (some i)->l[j']?=some (some i)->j=j'
 |[],_,j,j',i,h,_=>by simp at h
 |q::l,hn,j,j',i,h,h'=>by
  have hn':Cu (l.filterMap id)=true:=by
   cases q with
   |none=>exact hn
   |some x=>
    simp only[List.filterMap_cons,id_eq,Cu,Bool.and_eq_true] at hn;exact hn.2
  have hq:∀(x k:Nat),q=some x->l[k]?≠some (some x):=by
   intro x k e hk;subst e;simp only[List.filterMap_cons,id_eq,Cu,Bool.and_eq_true,Bool.not_eq_true'] at hn;exact M8 hn.1 (List.mem_filterMap.2 ⟨some x,List.mem_of_getElem? hk,rfl⟩)
  cases j with
  |zero=>
   cases j' with
   |zero=>rfl
   |succ k'=>
    simp at h h';exact absurd h' (hq i k' h)
  |succ k=>
   cases j' with
   |zero=>
    simp at h h';exact absurd h (hq i k h')
   |succ k'=>
    simp at h h';rw[HB hn' h h']
theorem AJ {C:Fd}{f:FuncId}{fn:Func}{args:List PV}{res:A7}{w:World}{Y:Nat->Prop}{bt:Va}{us:List Value}(DB:Ins w Y bt args us){h8:∀k p,args[k]?=some p->Ss p=true->k<8}
  {s':St} {a':Act} {w':World} {β':Bt} (hr:NQ C P f fn args s'=some res) (h:Bs fn.ntmps w (KD bt args h8) Y β' s' a' w'):
  a'.defers=[]∧∃v,(results fn a'.tmps).run P w'=.ok v w'∧∃vs own,Ending.returned v=.returned (F8 vs)∧Out w w' Y bt args own res vs:=by
 unfold NQ at hr;obtain⟨vs,l,z,us',ZF,RK,hll,hL,hz,hv⟩:=Wk h hr;obtain⟨os,l',z',q,hr2,QN,QO,hq,ZL,Kt⟩:=M3 h (bt:=bt) (fun _=>rfl) ZF (fun k p h1 h2=>by rw[Nat.zero_add];exact⟨p,h1,h2⟩)
 obtain⟨hnd,hr3⟩:=Ag hr2;cases hr3;simp only[Bool.and_eq_true] at hnd;obtain⟨hnd,Aeq⟩:=hnd;obtain⟨FH,XV,hn3⟩:=Gf hnd
 have Nk:∀i∈z++z',i ∉ (l.filterMap id++l'.filterMap id)++q:=by
  intro i hi Je;have:=List.all_eq_true.1 Aeq i hi;have h2:((l.filterMap id++l'.filterMap id)++q).any (Nat.beq i)=true:=List.any_eq_true.2 ⟨i,Je,Nat.beq_refl i⟩;rw[h2] at this;cases this
 have PO:I4 s' (z++z'):=by
  intro i hi;rcases List.mem_append.1 hi with hi|hi
  ·exact hz i hi
  ·exact QO i hi
 refine⟨h.dfr,F8 us',GD RK,us',Ik β' (l++l'),rfl,?_⟩;have Amx:Cu ((l++l').filterMap id)=true:=by rw[List.filterMap_append];exact FH
 have Fv:∀j b o,Ik β' (l++l') j=some (b,o)->∃id,(l++l')[j]?=some (some id)∧β' id=some (b,o):=by
  intro j b o hj;unfold Ik at hj;cases XW:(l++l')[j]? with
  |none=>rw[XW] at hj;cases hj
  |some q=>
   cases q with
   |none=>rw[XW] at hj;cases hj
   |some id=>
    rw[XW] at hj;exact⟨id,rfl,hj⟩
 have H5:∀(j i:Nat),(l++l')[j]?=some (some i)->i∈l.filterMap id++l'.filterMap id:=by
  intro j i hj;rw[←List.filterMap_append];exact List.mem_filterMap.2 ⟨some i,List.mem_of_getElem? hj,rfl⟩
 have Ez:∀(j i:Nat),(l++l')[j]?=some (some i)->B0 (s'.hp i):=by
  intro j i hj;rcases List.mem_append.1 (List.mem_of_getElem? hj) with Je|Je
  ·exact hL i Je
  ·obtain⟨c,hc⟩:=QN i Je;rw[hc];trivial
 have Ac9:∀i,i∈(l.filterMap id++l'.filterMap id)++q->Ac s'.hp (z++z') i=s'.hp i:=by
  intro i hi;rw[A6,if_neg (fun Je=>Nk i Je hi)]
 have Adu:∀i b o,bt i 0=some (b,o)->B7 fn.ntmps i∈q∧B0 (s'.hp (B7 fn.ntmps i))∧β' (B7 fn.ntmps i)=some (b,o):=by
  intro i b o DN;obtain⟨p,h1,h2⟩:=DB.l0 i _ DN;have h3:=ZL i p h1 h2;rw[Nat.zero_add] at h3;exact⟨h3,hq _ h3,(h.pin i ⟨p,h1,h2⟩).2.trans DN⟩
 have hAO:∀b,T7 bt (Ik β' (l++l')) Y b->B1 (Ac s'.hp (z++z')) β' Y b:=by
  rintro b (⟨j,o,hj⟩|⟨i,o,DN⟩|hY)
  ·obtain⟨id,h1,h2⟩:=Fv j b o hj;refine .inl ⟨id,o,?_,h2⟩;rw[Ac9 id (List.mem_append.2 (.inl (H5 j id h1)))];exact Ez j id h1
  ·obtain⟨h1,h2,h3⟩:=Adu i b o DN;refine .inl ⟨_,o,?_,h3⟩;rw[Ac9 _ (List.mem_append.2 (.inr h1))];exact h2
  ·exact .inr hY
 have Qw:∀(j id b o:Nat),(l++l')[j]?=some (some id)->β' id=some (b,o)->b<w.heap.size->∃i k o',bt i (k+1)=some (b,o'):=by
  intro j id b o hj hβ Bl;rcases h.ownd b ⟨id,o,Ez j id hj,hβ⟩ with⟨i,k,o',DN⟩|RL
  ·cases k with
   |zero=>
    obtain⟨h1,h2,h3⟩:=Adu i b o' DN;have:=h.inj id _ b o o' (Ez j id hj) h2 hβ h3;subst this;exact absurd h1 (hn3 _ (H5 j _ hj))
   |succ k=>exact⟨i,k,o',DN⟩
  ·omega
 refine⟨h.fr.os,h.fr.tape,h.fr.output,h.fr.step,h.fr.rng,?_,?_,?_,?_⟩
 ·refine hv (z++z') _ _ (fun i hi=>List.mem_append.2 (.inl hi)) PO hAO (fun id c b o hi hc hβ=>?_) _ 0 (fun j hj=>by rw[Nat.zero_add,Qu hj])
  rcases Nat.lt_or_ge b w.heap.size with Bl|RL
  ·obtain⟨k,Fc,p,h1,h2⟩:=h.stp id c b o hc hβ Bl;have h3:=ZL k p h1 h2;rw[Nat.zero_add,←Fc] at h3;obtain⟨j,hj⟩:=List.mem_iff_getElem?.1 hi;refine absurd h3 (hn3 id ?_);exact List.mem_append.2 (.inl (List.mem_filterMap.2 ⟨some id,hi,rfl⟩))
  ·exact RL
 ·refine Kt (z++z') _ (fun i hi=>List.mem_append.2 (.inr hi)) PO (fun i hi Je=>Nk i Je (List.mem_append.2 (.inr hi))) hAO _ _ (fun j hj=>?_)
  rw[←hll,Qh]
 ·intro j b o hj;obtain⟨id,h1,h2⟩:=Fv j b o hj;refine⟨h.blt id b o (Bw (Ez j id h1)) h2,fun Bl=>⟨Qw j id b o h1 h2 Bl,fun x hx=>?_⟩⟩
  cases I1:s'.hp id with
  |none=>have:=Ez j id h1;rw[I1] at this;exact this.elim
  |some bx=>
   have Xp:=Ez j id h1;rw[I1] at Xp;cases bx with
   |st c=>
    obtain⟨k,Fc,p,h3,h4⟩:=h.stp id c b o I1 h2 Bl;have h5:=ZL k p h3 h4;rw[Nat.zero_add,←Fc] at h5;exact absurd h5 (hn3 _ (H5 j _ h1))
   |ar fz c=>exact h.rngB id _ b o I1 Xp h2 Bl x hx
   |mv=>exact Xp.elim
 ·intro j j' b o o' hj Kk;obtain⟨id,h1,h2⟩:=Fv j b o hj;obtain⟨id',U6,h2'⟩:=Fv j' b o' Kk;have:=h.inj id id' b o o' (Ez j id h1) (Ez j' id' U6) h2 h2';subst this;exact HB Amx h1 U6
theorem KG {G:Glo}(H9:NoNG P)(hm:P.follows .mixedOrders=true){C:Fd}{fu:Nat}{call:Aj}(Cr:∀f args res,call f args=some res->Dl G P f args res){f:FuncId}{fn:Func}{c:Code}(hf:P.funcs[f]?=some fn) (hb:fn.body=some c)
  {args:List PV} {res:A7} (hk:Ae4 C P fu call f fn c args=some res):Dl G P f args res:=by
 refine⟨⟨fn,hf,by rw[hb];rfl⟩,fun w Y bt us DB hG hGY=>?_⟩
 unfold Ae4 at hk;obtain⟨tms,bs,Cv,Kf⟩:=OR DB hk;obtain⟨D7,Dk⟩:=Ag Cv;simp only[Bool.and_eq_true] at D7
 have Dc:us.length<=fn.ntmps:=by
  rw[←DB.args.len];exact Nat.le_of_ble_eq_true D7.1
 obtain⟨h8,β0,hs⟩:=Kf D7.2 Dc;refine calls_of_wp hf hb ?_;have hE:ET P G w (KD bt args h8):=⟨H9,fun w' XZ=>G.stable w w' (fun b hb Bl=>XZ.step.keep b Bl (hGY b hb).2) hG,hGY⟩
 refine JJ hE Cr hm c hs Dk (fun s' a' w' β' hr h=>AJ DB hr h) (fun id s' a' w' β' hr h=>by cases hr) (fun s' a' w' β' hr h=>AJ DB hr h)
def ExtOk (G:Glo)(P:Program)(C:Fd):Prop:=∀f g args res,C.ext f=some g->g args=some res->Dl G P f args res
theorem Ub {G:Glo}(H9:NoNG P)(hm:P.follows .mixedOrders=true){C:Fd}(hx:ExtOk G P C){fu:Nat}:∀(d:Nat)(f:FuncId)(args:List PV)(res:A7),Ai C P fu d f args=some res->Dl G P f args res
 |0,_,_,_,h=>by cases h
 |d+1,f,args,res,h=>by
  unfold Ai at h;split at h
  ·rename_i g hg;exact hx f g args res hg h
  ·split at h
   ·cases h
   ·rename_i fn hf;split at h
    ·cases h
    ·rename_i c hb;exact KG H9 hm (Ub H9 hm hx d) hf hb h
end
open Go.ChangeShapes Go.WideShapes Go.ChangeAt Go.RowKit Go.Deep
def CH (P:Program):List Field->Nat->Nat->Bool
 |[],i,n=>Nat.beq i n
 |f::r,i,n=>Nat.beq f.offset i&&CH P r (i+P.cellsOf f.type) n
def Jg (P:Program):Nat->TypeId->Bool
 |0,_=>false
 |d+1,t=>
  match P.underlying t with
  |some .bool=>true
  |some (.int _)=>true
  |some .string=>true
  |some (.slice e)=>Jg P d e&&Nat.blt 0 (P.cellsOf e)
  |some (.struct fs)=>CH P fs.toList 0 (P.cellsOf t)&&fs.toList.all fun f=>Jg P d f.type
  |some (.array n e)=>Nat.beq (P.cellsOf t) (n*P.cellsOf e)&&Jg P d e
  |_=>false
def WT (P:Program):Nat->TypeId->List PV->Prop
 |0,_,_=>False
 |d+1,t,ps=>
  match P.underlying t with
  |some .bool=>∃b,ps=[.sc (.bool b)]
  |some (.int k)=>∃n,ps=[.sc (.int k n)]∧(Lit.int k n).wf=true
  |some .string=>∃s:ByteArray,ps=[.sc (.string s)]∧s.size<=maxLen
  |some (.slice e)=>∃rows:List (List PV),ps=[.lst false (P.cellsOf e) rows.length rows.flatten]∧rows.length<=maxLen∧∀r∈rows,r.length=P.cellsOf e∧WT P d e r
  |some (.struct fs)=>∃rows:List (List PV),ps=rows.flatten∧Av (fun f r=>WT P d f.type r) fs.toList rows
  |some (.array n e)=>∃rows:List (List PV),ps=rows.flatten∧rows.length=n∧∀r∈rows,r.length=P.cellsOf e∧WT P d e r
  |_=>False
def WTv (P:Program)(t:TypeId)(p:PV):Prop:=
 match Ba P t with
 |true=>∃ps,p=.agg ps∧WT P 12 t ps
 |false=>WT P 12 t [p]
section
variable {P:Program} {d:Nat} {t e:TypeId} {ps:List PV}
theorem Aaj (hu:P.underlying t=some .bool):WT P (d+1) t ps↔∃b,ps=[.sc (.bool b)]:=by
 show (match P.underlying t with|some .bool=>_|some (.int k)=>_|some .string=>_|some (.slice e)=>_|some (.struct fs)=>_|some (.array n e)=>_|_=>_)↔_
 rw[hu]
theorem SE {k:IntKind}(hu:P.underlying t=some (.int k)):WT P (d+1) t ps↔∃n,ps=[.sc (.int k n)]∧(Lit.int k n).wf=true:=by
 show (match P.underlying t with|some .bool=>_|some (.int k)=>_|some .string=>_|some (.slice e)=>_|some (.struct fs)=>_|some (.array n e)=>_|_=>_)↔_
 rw[hu]
theorem NW (hu:P.underlying t=some .string):WT P (d+1) t ps↔∃s:ByteArray,ps=[.sc (.string s)]∧s.size<=maxLen:=by
 show (match P.underlying t with|some .bool=>_|some (.int k)=>_|some .string=>_|some (.slice e)=>_|some (.struct fs)=>_|some (.array n e)=>_|_=>_)↔_
 rw[hu]
theorem FS (hu:P.underlying t=some (.slice e)):WT P (d+1) t ps↔∃rows:List (List PV),ps=[.lst false (P.cellsOf e) rows.length rows.flatten]∧rows.length<=maxLen∧∀r∈rows,r.length=P.cellsOf e∧WT P d e r:=by
 show (match P.underlying t with|some .bool=>_|some (.int k)=>_|some .string=>_|some (.slice e)=>_|some (.struct fs)=>_|some (.array n e)=>_|_=>_)↔_
 rw[hu]
theorem PR {fs:Array Field}(hu:P.underlying t=some (.struct fs)):WT P (d+1) t ps↔∃rows:List (List PV),ps=rows.flatten∧Av (fun f r=>WT P d f.type r) fs.toList rows:=by
 show (match P.underlying t with|some .bool=>_|some (.int k)=>_|some .string=>_|some (.slice e)=>_|some (.struct fs)=>_|some (.array n e)=>_|_=>_)↔_
 rw[hu]
theorem SL {n:Nat}(hu:P.underlying t=some (.array n e)):WT P (d+1) t ps↔∃rows:List (List PV),ps=rows.flatten∧rows.length=n∧∀r∈rows,r.length=P.cellsOf e∧WT P d e r:=by
 show (match P.underlying t with|some .bool=>_|some (.int k)=>_|some .string=>_|some (.slice e)=>_|some (.struct fs)=>_|some (.array n e)=>_|_=>_)↔_
 rw[hu]
end
inductive Ki where
 |bool
 |int (k:IntKind)
 |str
 |sl (e:TypeId)
 |st (ts:List TypeId)
 |ar (n:Nat) (e:TypeId)
 |no
def Nf (P:Program)(t:TypeId):Ki:=
 match P.underlying t with
 |some .bool=>.bool
 |some (.int k)=>.int k
 |some .string=>.str
 |some (.slice e)=>.sl e
 |some (.struct fs)=>.st (fs.toList.map (·.type))
 |some (.array n e)=>.ar n e
 |_=>.no
section
variable {P:Program} {d:Nat} {t e:TypeId} {ps:List PV} {p:PV}
theorem Av.cons_inv {α β:Type}{R:α->β->Prop}{a:α}{zs:List α}:∀{rs:List β},Av R (a::zs) rs->∃r rs',rs=r::rs'∧R a r∧Av R zs rs'
 |[],h=>h.elim
 |r::rs,h=>⟨r,rs,rfl,h.1,h.2⟩
theorem Av.nil_inv {α β:Type}{R:α->β->Prop}:∀{rs:List β},Av R ([]:List α) rs->rs=[]
 |[],_=>rfl
 |_::_,h=>h.elim
theorem WV {k:IntKind}(hk:Nf P t=.int k)(h:WT P d t ps):∃n,ps=[.sc (.int k n)]∧(Lit.int k n).wf=true:=by
 cases d with
 |zero=>exact h.elim
 |succ d=>
 unfold Nf at hk;split at hk<;>first|cases hk|skip
 rename_i hu;exact (SE hu).1 h
theorem Aku (hk:Nf P t=.sl e)(h:WT P d t ps):∃rows:List (List PV),ps=[.lst false (P.cellsOf e) rows.length rows.flatten]∧rows.length<=maxLen∧∀r∈rows,r.length=P.cellsOf e∧WT P (d-1) e r:=by
 cases d with
 |zero=>exact h.elim
 |succ d=>
 rw[Nat.add_sub_cancel];unfold Nf at hk;split at hk<;>first|cases hk|skip
 rename_i hu;exact (FS hu).1 h
theorem MB (hk:Ba P t=false)(h:WTv P t p):WT P 12 t [p]:=by
 unfold WTv at h;rw[hk] at h;exact h
theorem Vv {k:IntKind}(ha:Ba P t=false)(hk:Nf P t=.int k)(h:WTv P t p):∃n,p=.sc (.int k n)∧(Lit.int k n).wf=true:=by
 obtain⟨b,e,h⟩:=WV hk (MB ha h);exact⟨b,by injection e,h⟩
theorem T9 {α:Type}(f:α->List PV)(Q:α->Prop):∀{rows:List (List PV)},(∀r∈rows,∃x,r=f x∧Q x)->∃xs:List α,rows.flatten=xs.flatMap f∧rows.length=xs.length∧∀x∈xs,Q x
 |[],_=>⟨[],rfl,rfl,by simp⟩
 |r::rows,h=>by
  obtain⟨x,h1,h2⟩:=h r (by simp)
  obtain⟨xs,h3,h4,h5⟩:=T9 (rows:=rows) f Q fun r hr=>h r (by simp[hr])
  refine⟨x::xs,by simp[h1,h3],by simp[h4],fun y hy=>?_⟩
  rcases List.mem_cons.1 hy with rfl|hy
  ·exact h2
  ·exact h5 y hy
end
abbrev No:Nat->Prop:=fun _=>False
section
variable {H:Type} {enc:TypeId × Value->H} {P:Program} {w:World} {base:Nat} {held:Bool}
theorem Av.flat {α β:Type}{R:α->β->Prop}:∀{l:List Nat}{f:Nat->List α}{g:Nat->List β},(∀i∈l,Av R (f i) (g i))->Av R (l.map f).flatten (l.map g).flatten
 |[],_,_,_=>trivial
 |i::l,f,g,h=>by
  simp only[List.map_cons,List.flatten_cons];exact (h i (by simp)).app (Av.flat fun j hj=>h j (by simp[hj]))
theorem PH {a:Addr}{v:Value}(h:w.cell? a=some v):a.spot=none∧a.block<w.heap.size:=by
 unfold World.cell? at h;split at h
 ·rename_i c t f e;refine⟨?_,?_⟩
  ·cases hs:a.spot with
   |none=>rfl
   |some x=>rw[hs] at h;simp at h
  ·rcases Nat.lt_or_ge a.block w.heap.size with h1|h1
   ·exact h1
   ·rw[Array.getElem?_eq_none h1] at e;cases e
 ·cases h
theorem Wd {α:Type}{g:Nat->List α}{es:Nat}:∀{n:Nat},(∀i,i<n->(g i).length=es)->((List.range n).map g).flatten.length=n*es
 |0,_=>by simp
 |n+1,h=>by
  rw[List.range_succ,List.map_append,List.flatten_append,List.length_append,Wd (fun i hi=>h i (by omega))]
  simp[h n (by omega),Nat.succ_mul]
theorem W6 {a:Addr}{g:Nat->List Value}{es:Nat}:∀{n:Nat},(∀i,i<n->(g i).length=es)->(∀i,i<n->∀k,k<es->w.cell? (a.add (i*es+k))=(g i)[k]?) ->
  ∀j,j<n*es->w.cell? (a.add j)=(((List.range n).map g).flatten)[j]?
 |0,_,_,j,hj=>by omega
 |n+1,hl,hc,j,hj=>by
  have AD:=Wd (fun i (hi:i<n)=>hl i (by omega))
  rw[List.range_succ,List.map_append,List.flatten_append,List.getElem?_append,AD];rw[Nat.succ_mul] at hj;split
  ·rename_i h1;exact W6 (fun i hi=>hl i (by omega)) (fun i hi=>hc i (by omega)) j h1
  ·rename_i h1;have:=hc n (by omega) (j-n*es) (by omega)
   rw[show n*es+(j-n*es)=j by omega] at this
   simpa using this
abbrev TR (w:World)(c:PV)(v:Value):Prop:=(Py c∧Ap w No c v)∧v.oneCell'=true
theorem Uc {d:Nat}{cs:List Value}{n:Nat}(hn:cs.length=n):∀(l:List Field)(i:Nat),CH P l i n=true ->
  (∀f∈l,∃ps,WT P d f.type ps∧Av (TR w) ps ((cs.drop f.offset).take (P.cellsOf f.type)))->∃rows:List (List PV),Av (fun f r=>WT P d f.type r) l rows∧Av (TR w) rows.flatten (cs.drop i)
 |[],i,ho,_=>by
  have:=Nat.eq_of_beq_eq_true ho;refine⟨[],trivial,?_⟩;rw[List.drop_of_length_le (by omega)]
  trivial
 |f::l,i,ho,h=>by
  simp only[CH,Bool.and_eq_true] at ho;have ho1:=Nat.eq_of_beq_eq_true ho.1;obtain⟨ps,h1,h2⟩:=h f (by simp)
  obtain⟨rows,h3,h4⟩:=Uc hn l _ ho.2 fun g hg=>h g (by simp[hg])
  refine⟨ps::rows,⟨h1,h3⟩,?_⟩;rw[ho1] at h2;have:cs.drop i=(cs.drop i).take (P.cellsOf f.type)++cs.drop (i+P.cellsOf f.type):=by rw[←List.drop_drop];exact (List.take_append_drop _ _).symm
  rw[this,List.flatten_cons];exact h2.app h4
theorem Xh {d:Nat}{e:TypeId}{cs:List Value}{k:Nat}:∀(n:Nat),n*k<=cs.length ->
  (∀i,i<n->∃ps,(ps.length=k∧WT P d e ps)∧Av (TR w) ps ((cs.drop (i*k)).take k))->∃rows:List (List PV),rows.length=n∧(∀r∈rows,r.length=k∧WT P d e r)∧Av (TR w) rows.flatten (cs.take (n*k))
 |0,_,_=>⟨[],rfl,by simp,by simp[Av]⟩
 |n+1,hl,h=>by
  rw[Nat.succ_mul] at hl;obtain⟨rows,h1,h2,h3⟩:=Xh n (by omega) fun i hi=>h i (by omega)
  obtain⟨ps,h4,h5⟩:=h n (by omega)
  refine⟨rows++[ps],by simp[h1],?_,?_⟩
  ·intro r hr;rcases List.mem_append.1 hr with hr|hr
   ·exact h2 r hr
   ·rw[List.mem_singleton.1 hr];exact h4
  ·rw[List.flatten_append,Nat.succ_mul,List.take_add];refine h3.app ?_
   simpa using h5
theorem Pf:∀(d:Nat)(t:TypeId),Jg P d t=true->∀(fuel:Nat)(cs:List Value)(x:DataW H × List MemPlace),DataW.trod enc P w base (fun _=>true) held fuel t cs=some x ->
  ∃ps,WT P d t ps∧Av (TR w) ps cs
 |0,_,h,_,_,_,_=>by cases h
 |d+1,t,hp,fuel,cs,x,h=>by
  unfold Jg at hp;split at hp
  ·rename_i hu;obtain⟨b,rfl,_⟩:=DataW.trod_bool hu h;simp only[Aaj hu];exact⟨[.sc (.bool b)],⟨b,rfl⟩,⟨⟨trivial,Ap.sc _⟩,rfl⟩,trivial⟩
  ·rename_i k hu;obtain⟨n,rfl,_,hw⟩:=DataW.trod_int hu h;simp only[SE hu];exact⟨[.sc (.int k n)],⟨n,rfl,hw⟩,⟨⟨trivial,Ap.sc _⟩,rfl⟩,trivial⟩
  ·rename_i hu;obtain⟨s,rfl,_,hw⟩:=DataW.trod_string hu h;simp only[NW hu];exact⟨[.sc (.string s)],⟨s,rfl,hw⟩,⟨⟨trivial,Ap.sc _⟩,rfl⟩,trivial⟩
  ·rename_i e hu;simp only[Bool.and_eq_true] at hp;have Rs:0<P.cellsOf e:=Nat.lt_of_succ_le (Nat.le_of_ble_eq_true hp.2);simp only[FS hu];rcases open_slice hu h with⟨rfl,_⟩|⟨a,len,cap,m,n,D,Pl,rfl,_,hl,hm,RS,_,hi⟩
   ·exact⟨[.lst false (P.cellsOf e) 0 []],⟨[],by simp,by simp,by simp⟩,⟨⟨trivial,Ap.lnil _ _⟩,rfl⟩,trivial⟩
   ·simp only[if_true] at RS;subst RS
    have X9:∀i,i<len->∃q:List PV × List Value,(q.2.length=P.cellsOf e∧(∀k,k<P.cellsOf e->w.cell? (a.add (i*P.cellsOf e+k))=q.2[k]?))∧WT P d e q.1∧Av (TR w) q.1 q.2:=by
     intro i Bl;obtain⟨cs',hc,ht⟩:=hi i (by omega)
     obtain⟨_,Lc,hat⟩:=World.cells?_some hc;obtain⟨ps,h1,h2⟩:=Pf d e hp.1 _ _ _ ht;exact⟨(ps,cs'),⟨Lc,fun k hk=>by rw[←Pv.add_add];exact hat k hk⟩,h1,h2⟩
    obtain⟨F,hF⟩:=choose_lt X9;refine⟨[.lst false (P.cellsOf e) len ((List.range len).map fun i=>(F i).1).flatten],⟨(List.range len).map fun i=>(F i).1,by simp,by simp;omega,?_⟩,⟨⟨trivial,?_⟩,rfl⟩,trivial⟩
    ·intro r hr;obtain⟨i,hi1,rfl⟩:=List.mem_map.1 hr;have hi2:=List.mem_range.1 hi1;exact⟨by rw[(hF i hi2).2.2.len];exact (hF i hi2).1.1,(hF i hi2).2.1⟩
    ·rcases Nat.eq_zero_or_pos len with h0|h0
     ·subst h0;exact Ap.lemp _ _ _
     ·have Ko:Av (TR w) ((List.range len).map fun i=>(F i).1).flatten ((List.range len).map fun i=>(F i).2).flatten:=Av.flat fun i hi=>(hF i (List.mem_range.1 hi)).2.2
      have hcell:=W6 (w:=w) (a:=a) (g:=fun i=>(F i).2) (fun i hi=>(hF i hi).1.1) (fun i hi=>(hF i hi).1.2)
      have Dc:=Wd (g:=fun i=>(F i).2) (fun i (hi:i<len)=>(hF i hi).1.1)
      have h00:w.cell? a≠none:=by
       have:=hcell 0 (Nat.mul_pos h0 Rs);rw[show a.add 0=a by unfold Addr.add;simp] at this
       rw[this,List.getElem?_eq_getElem (by rw[Dc];exact Nat.mul_pos h0 Rs)]
       simp
      obtain⟨v0,hv0⟩:=Option.ne_none_iff_exists'.1 h00;obtain⟨hs,hb⟩:=PH hv0
      have key:∀j c,(((List.range len).map fun i=>(F i).1).flatten)[j]?=some c->∃v,w.cell? (a.add j)=some v∧TR w c v:=by
       intro j c hj
       have XW:j<len*P.cellsOf e:=by
        rw[←Dc,←Ko.len];rcases Nat.lt_or_ge j (((List.range len).map fun i=>(F i).1).flatten).length with h1|h1
        ·exact h1
        ·rw[List.getElem?_eq_none h1] at hj;cases hj
       have h1:=hcell j XW;rw[List.getElem?_eq_getElem (by rw[Dc];exact XW)] at h1
       exact⟨_,h1,Ko.at_ hj (List.getElem?_eq_getElem (by rw[Dc];exact XW))⟩
      refine Ap.lst _ _ _ a _ (fun j=>(w.cell? (a.add j)).getD undef) hs hb (fun h=>h) hl (fun j c hj=>?_) (fun j c hj=>?_) (fun j c hj=>?_)
      ·obtain⟨v,hv,_⟩:=key j c hj;rw[hv];rfl
      ·obtain⟨v,hv,ht⟩:=key j c hj;rw[hv];exact ht.2
      ·obtain⟨v,hv,ht⟩:=key j c hj;rw[hv];exact ht.1.2
  ·rename_i fs hu;simp only[Bool.and_eq_true] at hp;simp only[PR hu];obtain⟨xs,n,_,_,Dc,hxl,hf⟩:=DataW.trod_struct hu h
   obtain⟨rows,h1,h2⟩:=Uc (P:=P) (w:=w) (d:=d) Dc fs.toList 0 hp.1 fun f NN=>by
    obtain⟨i,hi⟩:=List.mem_iff_getElem?.1 NN;have X9:fs[i]?=some f:=by simpa using hi
    have Bl:i<fs.size:=(Array.getElem?_eq_some_iff.1 X9).1;have h3:=hf i f X9;rw[List.getElem?_eq_getElem (by omega)] at h3
    exact Pf d f.type (List.all_eq_true.1 hp.2 f NN) _ _ _ h3
   exact⟨_,⟨rows,rfl,h1⟩,by simpa using h2⟩
  ·rename_i n e hu;simp only[Bool.and_eq_true] at hp;simp only[SL hu];obtain⟨xs,m,_,_,Dc,hxl,hf⟩:=DataW.trod_array hu h;have Jl:=Nat.eq_of_beq_eq_true hp.1
   obtain⟨rows,h1,h2,h3⟩:=Xh (P:=P) (w:=w) (d:=d) (e:=e) (cs:=cs) (k:=P.cellsOf e) n (by omega) fun i hi=>by
    have h3:=hf i hi;rw[List.getElem?_eq_getElem (by omega)] at h3
    obtain⟨ps,h4,h5⟩:=Pf d e hp.2 _ _ _ h3;refine⟨ps,⟨?_,h4⟩,h5⟩;rw[h5.len,List.length_take,List.length_drop,Dc,Jl];have:(i+1)*P.cellsOf e<=n*P.cellsOf e:=Nat.mul_le_mul_right _ hi;rw[Nat.succ_mul] at this;omega
   refine⟨_,⟨rows,rfl,h1,h2⟩,?_⟩;rw[List.take_of_length_le (by omega)] at h3
   exact h3
  ·cases hp
theorem WM {r:Reach}{b0:Nat}{t:TypeId}{v:Value}{dd:DataW H}{p:List MemPlace}(hp:Jg P 12 t=true)(hv:Value.okWide P w r b0 t v)(h:DataW.Trod enc P w base (fun _=>true) held t v dd p):
  ∃q,WTv P t q∧M2 w No q v:=by
 obtain⟨fuel,hf⟩:=h;obtain⟨ps,h1,h2⟩:=Pf 12 t hp fuel _ _ hf;unfold WTv Ba
 have two:∀{cs:Array Value},v=.agg cs->∃q,(∃ps,q=.agg ps∧WT P 12 t ps)∧M2 w No q v:=by
  intro cs e;subst e;exact⟨.agg ps,⟨ps,rfl,h1⟩,cs.toList,by simp,h2.mono fun c v h=>h.1⟩
 have one:v.cells.toList=[v]->∃q,WT P 12 t [q]∧M2 w No q v:=by
  intro e;rw[e] at h2
  match ps,h2 with
  |[q],h2=>
   refine⟨q,h1,?_⟩;have h3:=h2.1.1;cases q<;>first|exact h3|exact h3.1.elim
  |[],h2=>exact h2.elim
  |_::_::_,h2=>exact h2.2.elim
 unfold Jg at hp;split at hp
 ·rename_i hu;simp only[hu];obtain⟨b,rfl,_⟩:=open_bool hu hv ⟨fuel,hf⟩;exact one rfl
 ·rename_i k hu;simp only[hu];obtain⟨b,rfl,_⟩:=open_int hu hv ⟨fuel,hf⟩;exact one rfl
 ·rename_i hu;simp only[hu];obtain⟨b,rfl,_⟩:=ChangeMaps.open_string hu hv ⟨fuel,hf⟩;exact one rfl
 ·rename_i e hu;simp only[hu];obtain⟨a,len,cap,rfl⟩:=okWide_slice hu hv;exact one rfl
 ·rename_i fs hu;simp only[hu];obtain⟨cs,rfl,_⟩:=okWide_struct hu hv;exact two rfl
 ·rename_i n e hu;simp only[hu];unfold Value.okWide at hv;simp only[hu] at hv;obtain⟨cs,rfl,_⟩:=hv;exact two rfl
 ·cases hp
theorem Y1:∀{ts:List TypeId}{vs:List Value}{ds:List (DataW H)} {p:List MemPlace}{r:Reach}{b0:Nat},(ts.all fun t=>Jg P 12 t)=true->(∀(j:Nat) t v,ts[j]?=some t->vs[j]?=some v->Value.okWide P w r b0 t v) ->
  DataW.TrodAll enc P w base (fun _=>true) held ts vs ds p->∃qs,Av (WTv P) ts qs∧Av (M2 w No) qs vs
 |[],[],[],_,_,_,_,_,_=>⟨[],trivial,trivial⟩
 |t::ts,v::vs,d::ds,_,r,b0,hp,hv,⟨p,q,h1,h2,_⟩=>by
  simp only[List.all_cons,Bool.and_eq_true] at hp;obtain⟨x,h3,h4⟩:=WM hp.1 (hv 0 t v rfl rfl) h1;obtain⟨xs,h5,h6⟩:=Y1 hp.2 (fun j t v ht Kt=>hv (j+1) t v ht Kt) h2
  exact⟨x::xs,⟨h3,h5⟩,h4,h6⟩
 |[],_::_,_,_,_,_,_,_,h=>by cases h
 |[],[],_::_,_,_,_,_,_,h=>by cases h
 |_::_,[],_,_,_,_,_,_,h=>by cases h
 |_::_,_::_,[],_,_,_,_,_,h=>by cases h
theorem P0 (hl:laidOutB P=true){W W':World}{sp:Nat->Bool}:∀{ts:List TypeId}{vs:List Value}{ds:List (DataW H)} {p:List MemPlace},(ts.all fun t=>P.readableRec t&&Nat.blt t P.types.size)=true ->
  DataW.TrodAll enc P W 0 (fun _=>true) true ts vs ds p->(∀x∈p,W.sameAt W' x)->(∀x∈p,sp x.block=true)->DataW.TrodAll enc P W' 0 sp true ts vs ds p
 |[],[],[],_,_,h,_,_=>h
 |t::ts,v::vs,d::ds,_,hr,⟨p,q,h1,h2,e⟩,hs,RN=>by
  simp only[List.all_cons,Bool.and_eq_true] at hr;refine⟨p,q,WideElems.Trod_stays hl hr.1.1 (Nat.lt_of_succ_le (Nat.le_of_ble_eq_true hr.1.2)) h1 (fun x hx=>hs x ?_) (fun x hx=>RN x ?_),P0 hl hr.2 h2 (fun x hx=>hs x ?_) (fun x hx=>RN x ?_),e⟩
  all_goals rw[e,List.mem_append]
  ·exact .inl hx
  ·exact .inl hx
  ·exact .inr hx
  ·exact .inr hx
 |[],_::_,_,_,_,h,_,_=>by cases h
 |[],[],_::_,_,_,h,_,_=>by cases h
 |_::_,[],_,_,_,h,_,_=>by cases h
 |_::_,_::_,[],_,_,h,_,_=>by cases h
theorem Yi {f:Func}{s:ChangeSpec}{apart fresh BX again:Bool}{W W':World}{args:Array Value}{v:Value}{ds gs:List (DataW H)} {before pa pv:List MemPlace}
  (hW:DataW.Whole enc P f.params.toList s.vars apart W args.toList ds gs before)
  (Akt:∀(b:Nat)(sp:Nat->Bool)(hd:Bool),DataW.TrodAll enc P W' b sp hd f.resultTypes.toList (v.resultList f.resultTypes.size) (s.fn H (ds++gs)).results [])
  (Dh:∀sp:Nat->Bool,(∀p∈before,sp p.block=true)->DataW.TrodAll enc P W' 0 sp true f.params.toList args.toList (s.fn H (ds++gs)).args pa)
  (GP:∀sp:Nat->Bool,(∀p∈before,sp p.block=true)->DataW.TrodVars enc P W' sp s.vars (s.fn H (ds++gs)).vars pv)
  (X6:before=pa++pv)(hb:Below W.heap.size W W')
  (Kh:∀(j:Nat)(t:TypeId)(r:Value),f.resultTypes[j]?=some t->(v.resultList f.resultTypes.size)[j]?=some r->Value.okWide P W' .any 0 t r):
  s.post enc P f apart fresh BX again W args v W':=by
 have Bl:∀p∈before,p.block<W.heap.size:=fun p hp=>hW.lt p hp
 have hold:∀p∈before,(fun b=>decide (b<W.heap.size)) p.block=true:=fun p hp=>by simpa using Bl p hp
 refine⟨ds,gs,before,[],pa,pv,hW,Akt _ _ _,Dh _ hold,GP _ hold,World.keptBut_mono (fun p hp=>⟨hp,?_⟩) (hb.frame (· ∈ before)),fun _=>?_⟩
 ·rw[X6,List.mem_append] at hp;exact Or.inr hp
 ·obtain⟨_,_,_,_,_,hz,hn⟩:=hW;refine⟨Kh,_,_,([]++pa)++pv,⟨[]++pa,pv,trodAll_append (Dh _ (fun _ _=>rfl)) (Akt _ _ _),GP _ (fun _ _=>rfl),rfl,?_,?_⟩,?_⟩
  ·intro b off hp;have DB:MemPlace.cell b off∈before:=by rw[X6];simpa using hp
   rw[hb.frozen (Bl _ DB)];exact hz b off DB
  ·intro ha;have:=hn ha;rw[X6] at this
   simpa using this
  ·intro p hp _;rw[X6]
   simpa using hp
theorem law_contract {G:Glo}{C:Fd}(hx:ExtOk G P C)(H9:NoNG P)(hm:P.follows .mixedOrders=true)(hl:laidOutB P=true){f:FuncId}{fn:Func}{s:ChangeSpec}{tb:TypeId}(hfn:P.funcs[f]?=some fn)
  (GP:s.vars=[]) (Alr:∀ds:List (DataW H),ds.length=fn.params.size->s.fn H ds={ results:=[.lit (.bool true)],args:=ds }) (Afd:(fn.params.toList.all fun t=>Jg P 12 t)=true)
  (Ajb:(fn.params.toList.all fun t=>P.readableRec t&&Nat.blt t P.types.size)=true) (hrt:fn.resultTypes = #[tb]) (hub:P.underlying tb=some .bool)
  {apart fresh BX again:Bool} (W:World) (base:Nat) (args:Array Value) (ds gs:List (DataW H)) (before:List MemPlace)
  (hval:∀(j:Nat) t v,fn.params[j]?=some t->args[j]?=some v->Value.okWide P W .any base t v)
  (hW:DataW.Whole enc P fn.params.toList s.vars apart W args.toList ds gs before)
  (Apk:∀qs:List PV,Av (WTv P) fn.params.toList qs->∃fu d,Ai C P fu d f qs=some ⟨[.sc (.bool true)],[]⟩) (hG:G.ok W)(hGY:∀b,G.bl b->b<W.heap.size):
  Calls P f args W fun e W'=>∃v,e=.returned v∧s.post enc P fn apart fresh BX again W args v W':=by
 have hW':=hW;obtain⟨p,q,hA,hV,rfl,Nk,hnd⟩:=hW;rw[GP] at hV;obtain⟨rfl,rfl⟩:=trodVars_none hV;obtain⟨qs,h1,h2⟩:=Y1 Afd (fun j t v ht hv=>hval j t v (by simpa using ht) (by simpa using hv)) hA
 obtain⟨fu,d,hc⟩:=Apk qs h1;have hS:=(Ub H9 hm hx d f qs _ hc).2 W No SX args.toList (DU (fun b h=>h.elim) h2) hG (fun b hb=>⟨hGY b hb,Xl b⟩)
 rw[Array.toArray_toList] at hS;refine hS.mono fun e W' ⟨vs,own,he,ho⟩=>?_
 have hv:=ho.vals
 have G8:vs=[.bool true]:=by
  match vs,hv with
  |[u],hv=>
   have:Ap W' _ (.sc (.bool true)) u:=hv.1;rw[this.val]
  |[],hv=>exact hv.elim
  |_::_::_,hv=>exact hv.2.elim
 subst G8;subst he;have hb:Below W.heap.size W W':=⟨ho.os,ho.tape,ho.output,ho.ext.size,fun k hk=>ho.ext.keep k hk (Xl k)⟩
 have Bl:∀x∈p,x.block<W.heap.size:=fun x hx=>hW'.lt x (by simpa using hx)
 have Dc:ds.length=fn.params.size:=by
  have:∀{ts:List TypeId} {vs:List Value} {ds:List (DataW H)} {p:List MemPlace},DataW.TrodAll enc P W 0 (fun _=>true) true ts vs ds p->ds.length=ts.length:=by
   intro ts
   induction ts with
   |nil=>intro vs ds p h;cases vs<;>cases ds<;>first|rfl|cases h
   |cons t ts ih=>
    intro vs ds p h;cases vs with
    |nil=>cases h
    |cons v vs=>
     cases ds with
     |nil=>cases h
     |cons d ds=>obtain⟨_,_,_,h2,_⟩:=h;simp[ih h2]
  simpa using this hA
 have RN:=Alr (ds++[]) (by simpa using Dc)
 refine⟨_,rfl,Yi (pa:=p) (pv:=[]) hW' ?_ ?_ ?_ rfl hb ?_⟩
 ·intro b sp hd;rw[RN,hrt];exact trodAll_mk1 (shut_bool hub _)
 ·intro sp Anq;rw[RN];simp only[List.append_nil];exact P0 hl Ajb hA (fun x hx=>hb.same (Bl x hx)) (fun x hx=>Anq x (by simpa using hx))
 ·intro sp _;rw[RN,GP];rfl
 ·exact ok_one hrt rfl (okWide_bool_mk hub _)
end
end
section
open Go.Proofs.Try (prog)
set_option maxRecDepth 100000
theorem YU {d:Nat}{ps:List PV}{k:IntKind}{t e:TypeId}(hk:Nf prog t=.sl e)(hc:prog.cellsOf e=1)(he:Nf prog e=.int k)(h:WT prog d t ps):
  ∃l:List Int,ps=[.lst false 1 l.length (Au k l)]∧l.length<=maxLen∧∀n∈l,(Lit.int k n).wf=true:=by
 obtain⟨rows,rfl,hl,hr⟩:=Aku hk h;obtain⟨l,h1,h2,h3⟩:=T9 (Aid k) (fun n=>(Lit.int k n).wf=true) fun r hrr=>WV he (hr r hrr).2
 refine⟨l,?_,by omega,h3⟩
 rw[h1,h2,hc]
theorem WL {p:PV}{k:IntKind}{t e:TypeId}(ha:Ba prog t=false)(hk:Nf prog t=.sl e)(hc:prog.cellsOf e=1)(he:Nf prog e=.int k)(h:WTv prog t p):
  ∃l:List Int,p=.lst false 1 l.length (Au k l)∧l.length<=maxLen∧∀n∈l,(Lit.int k n).wf=true:=by
 have h':=MB (P:=prog) (t:=t) (p:=p) ha h;obtain⟨l,h1,h2,h3⟩:=YU hk hc he h';exact⟨l,by injection h1,h2,h3⟩
end
section
open Go.IntKind (wrap)
theorem O6:type_of% @Nat.mul_one:=@Nat.mul_one
theorem Vq:type_of% @Nat.zero_add:=@Nat.zero_add
theorem Sy:type_of% @List.drop_zero.{0}:=@List.drop_zero
theorem N1:type_of% @List.take_of_length_le.{0}:=@List.take_of_length_le
theorem UE:type_of% @List.length_append.{0}:=@List.length_append
theorem OW:type_of% @List.length_cons.{0}:=@List.length_cons
theorem AP:type_of% @Int.toNat_natCast:=@Int.toNat_natCast
theorem Om:type_of% @if_neg.{1}:=@if_neg
theorem Oj:type_of% @if_pos.{1}:=@if_pos
theorem Zzq:type_of% @List.nil_append.{0}:=@List.nil_append
theorem OK:type_of% @List.append_assoc.{0}:=@List.append_assoc
end
section
open Go.Proofs.Try (prog)
open Go.IntKind (wrap)
set_option maxRecDepth 100000
abbrev I6:FuncId:=82
theorem Pm {xs:FuncId->Option (List PV->Option A7)} (fu d:Nat)(a0 a1:Int):Ai (CX xs) prog fu (d+1) I6 [.sc (.int .u64 a0),.sc (.int .i64 a1)]=(fun (call:Aj)=>Ab (wrap .u64 a1) fun x1=>Ab (DW .u64 x1 63) fun x2=>Ar (decide (0<=x2))<|Ab (Fk .u64 a0 x2) fun x3=>Ab (wrap .u64 (64-x2)) fun x4=>Ar (decide (0<=x4))<|Ab (Te .u64 a0 x4) fun x5=>Ab (Sh .u64 x3 x5) fun x6=>some (A7.mk [.sc (.int .u64 x6)] [])) (Ai (CX xs) prog fu d):=by kernel_rfl
abbrev G4:FuncId:=59
noncomputable def Ew (fu:Nat)(call:Aj)(Bv:Nat)(a0:List PV)(nn y0 y1:Nat)(y2:List PV)(y3 y4:Int)(y5:List PV):Option A7:=C5 CB prog fu call 59 Try.f59 (Bz Try.f59) [.lst false 1 Bv a0] [.r,.r,.l,.r,.l] nn ⟨lk [(3,(.view 3 1 0 y0)),(11,(.lst false 1 y1 y2)),(12,(.sc (.int .i64 y3))),(13,(.sc (.int .i64 y4)))],Fo [(3,(.ar false y5))]⟩
noncomputable def F4 (fu:Nat)(call:Aj)(Bv:Nat)(a0:List PV)(m0 nn y0:Nat)(y1:Int)(y2:Nat)(y3:List PV)(y4 y5 y6:Int)(y7:List PV):Option A7:=C5 CB prog fu call 59 Try.f59 (Bz Try.f59) [.lst false 1 Bv a0] [.r,.r,.l,.r,.l,.i m0,.r,.r,.l,.l,.r,.r,.l] nn ⟨lk [(3,(.view 3 1 0 y0)),(5,(.sc (.int .u64 y1))),(11,(.lst false 1 y2 y3)),(12,(.sc (.int .i64 y4))),(13,(.sc (.int .i64 y5))),(17,(.sc (.int .i64 y6)))],Fo [(3,(.ar false y7))]⟩
theorem Ky (fu:Nat)(call:Aj)(Bv:Nat)(a0:List PV)(nn y0 y1:Nat)(y2:List PV)(y3 y4:Int)(y5:List PV):Ew fu call Bv a0 (nn+1) y0 y1 y2 y3 y4 y5=(Bu (decide (y4<y3)) (Ar (decide (0<=y4)&&decide (y4<(↑y1:Int)))<|Ad .u64 (List.getD y2 (Int.toNat y4*1) .top) fun x2=>F4 fu call Bv a0 nn (fu) (y0) x2 (y1) (y2) (y3) (y4) 0 (y5)) (Ar (decide (y0*1<=y5.length))<|some (A7.mk [.own 1 y0 (List.take (y0*1) y5)] []))):=by kernel_rfl
theorem K3 (fu:Nat)(call:Aj)(Bv:Nat)(a0:List PV)(m0 nn y0:Nat)(y1:Int)(y2:Nat)(y3:List PV)(y4 y5 y6:Int)(y7:List PV):F4 fu call Bv a0 m0 (nn+1) y0 y1 y2 y3 y4 y5 y6 y7=(Bu (decide (y6<8)) (Ab (wrap .i64 (8*y6)) fun x3=>Ab (wrap .i64 (56-x3)) fun x4=>Ar (decide (0<=x4))<|Ab (Te .u64 y1 x4) fun x5=>Ab (wrap .u8 x5) fun x6=>Ar (decide (y0*1<=y7.length)&&true&&decide ((y0+1)*1<=1099511627776)&&decide (y0+1<=1099511627776))<|Ab (y0+1) fun x7=>Ab (List.take (y0*1) y7++[.sc (.int .u8 x6)]) fun x8=>Ab (wrap .i64 (y6+1)) fun x9=>F4 fu call Bv a0 m0 (nn) x7 (y1) (y2) (y3) (y4) (y5) x9 x8) (Ab (wrap .i64 (y5+1)) fun Lj=>Ew fu call Bv a0 (m0) (y0) (y2) (y3) (y4) Lj (y7))):=by kernel_rfl
theorem Xv {xs:FuncId->Option (List PV->Option A7)} (fu d Bv:Nat)(a0:List PV):Ai (CX xs) prog fu (d+1) G4 [.lst false 1 Bv a0]=(fun (call:Aj)=>Ab (wrap .i64 (8*(↑Bv:Int))) fun x1=>Ar (decide (0<=x1)&&decide (x1*1<=1099511627776)&&decide (x1<=1099511627776))<|Ew fu call Bv a0 (fu) 0 (Bv) (a0) ((↑Bv:Int)) 0 ([])) (Ai (CX xs) prog fu d):=by kernel_rfl
abbrev Nh:FuncId:=68
noncomputable def Fi (fu:Nat)(call:Aj)(Bv:Nat)(a0:List PV)(nn:Nat)(y0:Int)(y1:Nat)(y2:List PV)(y3 y4:Int):Option A7:=C5 CB prog fu call 68 Try.f68 (Bz Try.f68) [.lst false 1 Bv a0] [.r,.r,.l,.r,.l] nn ⟨lk [(3,(.sc (.int .u64 y0))),(6,(.lst false 1 y1 y2)),(7,(.sc (.int .i64 y3))),(8,(.sc (.int .i64 y4)))],Fo []⟩
theorem J4 (fu:Nat)(call:Aj)(Bv:Nat)(a0:List PV)(nn:Nat)(y0:Int)(y1:Nat)(y2:List PV)(y3 y4:Int):Fi fu call Bv a0 (nn+1) y0 y1 y2 y3 y4=(Bu (decide (y4<y3)) (Ar (decide (0<=y4)&&decide (y4<(↑y1:Int)))<|Ad .u8 (List.getD y2 (Int.toNat y4*1) .top) fun x1=>Ab (wrap .u64 x1) fun x2=>Ab (wrap .i64 (8*y4)) fun x3=>Ar (decide (0<=x3))<|Ab (Fk .u64 x2 x3) fun x4=>Ab (Sh .u64 y0 x4) fun x5=>Ab (wrap .i64 (y4+1)) fun x6=>Fi fu call Bv a0 (nn) x5 (y1) (y2) (y3) x6) (some (A7.mk [.sc (.int .u64 y0)] []))):=by kernel_rfl
theorem U9 {xs:FuncId->Option (List PV->Option A7)} (fu d Bv:Nat)(a0:List PV):Ai (CX xs) prog fu (d+1) Nh [.lst false 1 Bv a0]=(fun (call:Aj)=>Fi fu call Bv a0 (fu) 0 (Bv) (a0) ((↑Bv:Int)) 0) (Ai (CX xs) prog fu d):=by kernel_rfl
abbrev Hg:FuncId:=69
noncomputable def Da (fu:Nat)(call:Aj)(B5 B2:Int)(Co Cm a1:Int)(nn:Nat)(y0 y1:Int)(y2 y3:Int)(y4 y5:Int):Option A7:=C5 CB prog fu call 69 Try.f69 (Bz Try.f69) [.pbox [.sc (.int .u64 B5),.sc (.int .u64 B2),.sc (.int .u64 Co),.sc (.int .u64 Cm)],.sc (.int .i64 a1)] [.r,.l] nn ⟨lk [(0,(.ptr 288000 0)),(4,(.sc (.int .i64 y0))),(5,(.sc (.int .i64 y1)))],Fo [(288000,(.st [(.sc (.int .u64 y2)),(.sc (.int .u64 y3)),(.sc (.int .u64 y4)),(.sc (.int .u64 y5))]))]⟩
theorem F0 (fu:Nat)(call:Aj)(B5 B2:Int)(Co Cm a1:Int)(nn:Nat)(y0 y1:Int)(y2 y3:Int)(y4 y5:Int):Da fu call B5 B2 Co Cm a1 (nn+1) y0 y1 y2 y3 y4 y5=(Bu (decide (y1<y0)) (Ab (wrap .u64 (y2+y3)) fun x1=>Ao (call 82 [.sc (.int .u64 y3),.sc (.int .i64 13)]) fun x2 x3=>Af x3<|Aa x2 fun x4 x5=>Ad .u64 x4 fun x6=>Af x5<|Ab (Ct .u64 x6 x1) fun x7=>Ao (call 82 [.sc (.int .u64 x1),.sc (.int .i64 32)]) fun x8 x9=>Af x9<|Aa x8 fun Lj Kg=>Ad .u64 Lj fun Ji=>Af Kg<|Ab (wrap .u64 (y4+y5)) fun Ph=>Ao (call 82 [.sc (.int .u64 y5),.sc (.int .i64 16)]) fun Mj Ns=>Af Ns<|Aa Mj fun Qm Sw=>Ad .u64 Qm fun Pe=>Af Sw<|Ab (Ct .u64 Pe Ph) fun Iu=>Ab (wrap .u64 (Ji+Iu)) fun Pi=>Ao (call 82 [.sc (.int .u64 Iu),.sc (.int .i64 21)]) fun Qz Sr=>Af Sr<|Aa Qz fun Q7 Iy=>Ad .u64 Q7 fun T8=>Af Iy<|Ab (Ct .u64 T8 Pi) fun Uo=>Ab (wrap .u64 (Ph+x7)) fun Qn=>Ao (call 82 [.sc (.int .u64 x7),.sc (.int .i64 17)]) fun Z3 CK=>Af CK<|Aa Z3 fun Nt P7=>Ad .u64 Nt fun Ya=>Af P7<|Ab (Ct .u64 Ya Qn) fun Vr=>Ao (call 82 [.sc (.int .u64 Qn),.sc (.int .i64 32)]) fun Tl Wo=>Af Wo<|Aa Tl fun Xw Su=>Ad .u64 Xw fun Yu=>Af Su<|Ab (wrap .i64 (y1+1)) fun DA=>Da fu call B5 B2 Co Cm a1 (nn) (y0) DA Pi Vr Yu Uo) (some (A7.mk [] [[.sc (.int .u64 y2),.sc (.int .u64 y3),.sc (.int .u64 y4),.sc (.int .u64 y5)]]))):=by kernel_rfl
theorem Nl {xs:FuncId->Option (List PV->Option A7)} (fu d:Nat)(B5 B2:Int)(Co Cm a1:Int):Ai (CX xs) prog fu (d+1) Hg [.pbox [.sc (.int .u64 B5),.sc (.int .u64 B2),.sc (.int .u64 Co),.sc (.int .u64 Cm)],.sc (.int .i64 a1)]=(fun (call:Aj)=>Da fu call B5 B2 Co Cm a1 (fu) (a1) 0 (B5) (B2) (Co) (Cm)) (Ai (CX xs) prog fu d):=by kernel_rfl
abbrev Hi:FuncId:=67
theorem Nn {xs:FuncId->Option (List PV->Option A7)} (fu d:Nat)(B5 B2:Int)(Co Cm a1:Int):Ai (CX xs) prog fu (d+1) Hi [.pbox [.sc (.int .u64 B5),.sc (.int .u64 B2),.sc (.int .u64 Co),.sc (.int .u64 Cm)],.sc (.int .u64 a1)]=(fun (call:Aj)=>Ab (Ct .u64 Cm a1) fun x1=>Ao (call 69 [.pbox [.sc (.int .u64 B5),.sc (.int .u64 B2),.sc (.int .u64 Co),.sc (.int .u64 x1)],.sc (.int .i64 2)]) fun x2 x3=>Af x2<|Aa x3 fun x4 x5=>Aa x4 fun x6 x7=>Ad .u64 x6 fun x8=>Aa x7 fun x9 Lj=>Ad .u64 x9 fun Kg=>Aa Lj fun Ji Ph=>Ad .u64 Ji fun Mj=>Aa Ph fun Ns Qm=>Ad .u64 Ns fun Sw=>Af Qm<|Af x5<|Ab (Ct .u64 x8 a1) fun Pe=>some (A7.mk [] [[.sc (.int .u64 Pe),.sc (.int .u64 Kg),.sc (.int .u64 Mj),.sc (.int .u64 Sw)]])) (Ai (CX xs) prog fu d):=by kernel_rfl
abbrev Rk:FuncId:=58
noncomputable def F2 (fu:Nat)(call:Aj)(a0 a1:Int)(Px:Nat)(a2:List PV)(nn y0:Nat)(y1:List PV)(y2 y3:Int)(y4 y5:Int)(y6 y7 y8:Int):Option A7:=C5 CB prog fu call 58 Try.f58 (Bz Try.f58) [.sc (.int .u64 a0),.sc (.int .u64 a1),.lst false 1 Px a2] [.r,.r,.r,.l,.r,.l] nn ⟨lk [(2,(.lst false 1 y0 y1)),(7,(.ptr 7 0)),(8,(.sc (.int .i64 y2))),(22,(.sc (.int .i64 y3))),(23,(.sc (.int .i64 y4)))],Fo [(7,(.st [(.sc (.int .u64 y5)),(.sc (.int .u64 y6)),(.sc (.int .u64 y7)),(.sc (.int .u64 y8))]))]⟩
theorem Ng (fu:Nat)(call:Aj)(a0 a1:Int)(Px:Nat)(a2:List PV)(nn y0:Nat)(y1:List PV)(y2 y3:Int)(y4 y5:Int)(y6 y7 y8:Int):F2 fu call a0 a1 Px a2 (nn+1) y0 y1 y2 y3 y4 y5 y6 y7 y8=(Bu (decide (y4<y3)) (Ab (wrap .i64 (8*y4)) fun x6=>Ab (wrap .i64 (8*y4)) fun x7=>Ab (wrap .i64 (x7+8)) fun x8=>Ar (decide (0<=x6))<|Ar (decide (0<=x8))<|Ar (decide (Int.toNat x6<=Int.toNat x8)&&decide (Int.toNat x8<=y0))<|Ab (Int.toNat x8-Int.toNat x6) fun x9=>Ab (List.take (x9*1) (List.drop (Int.toNat x6*1) y1)) fun Lj=>Ao (call 68 [.lst false 1 x9 Lj]) fun Kg Ji=>Af Ji<|Aa Kg fun Ph Mj=>Ad .u64 Ph fun Ns=>Af Mj<|Ao (call 67 [.pbox [.sc (.int .u64 y5),.sc (.int .u64 y6),.sc (.int .u64 y7),.sc (.int .u64 y8)],.sc (.int .u64 Ns)]) fun Qm Sw=>Af Qm<|Aa Sw fun Pe Iu=>Aa Pe fun Pi Qz=>Ad .u64 Pi fun Sr=>Aa Qz fun Q7 Iy=>Ad .u64 Q7 fun T8=>Aa Iy fun Uo Qn=>Ad .u64 Uo fun Z3=>Aa Qn fun CK Nt=>Ad .u64 CK fun P7=>Af Nt<|Af Iu<|Ab (wrap .i64 (y4+1)) fun Ya=>F2 fu call a0 a1 Px a2 (nn) (y0) (y1) (y2) (y3) Ya Sr T8 Z3 P7) (Ab (wrap .i64 (8*y2)) fun Vr=>Ar (decide (0<=Vr))<|Ar (decide (Int.toNat Vr<=y0)&&decide (y0<=y0))<|Ab (y0-Int.toNat Vr) fun Tl=>Ab (List.take (Tl*1) (List.drop (Int.toNat Vr*1) y1)) fun Wo=>Ao (call 68 [.lst false 1 Tl Wo]) fun Xw Su=>Af Su<|Aa Xw fun Yu DA=>Ad .u64 Yu fun Zu=>Af DA<|Ab (wrap .u64 (↑y0:Int)) fun KW=>Ab (Fk .u64 KW 56) fun HJ=>Ab (Sh .u64 Zu HJ) fun MT=>Ao (call 67 [.pbox [.sc (.int .u64 y5),.sc (.int .u64 y6),.sc (.int .u64 y7),.sc (.int .u64 y8)],.sc (.int .u64 MT)]) fun EK HW=>Af EK<|Aa HW fun KU JK=>Aa KU fun HR IB=>Ad .u64 HR fun Ys=>Aa IB fun FM LU=>Ad .u64 FM fun HS=>Aa LU fun Wc HN=>Ad .u64 Wc fun KQ=>Aa HN fun HK EX=>Ad .u64 HK fun IR=>Af EX<|Af JK<|Ab (Ct .u64 KQ 255) fun DL=>Ao (call 69 [.pbox [.sc (.int .u64 Ys),.sc (.int .u64 HS),.sc (.int .u64 DL),.sc (.int .u64 IR)],.sc (.int .i64 4)]) fun Zj DE=>Af Zj<|Aa DE fun OS NS=>Aa OS fun MI RI=>Ad .u64 MI fun LO=>Aa RI fun HL QX=>Ad .u64 HL fun OI=>Aa QX fun JE OP=>Ad .u64 JE fun UJ=>Aa OP fun HV JO=>Ad .u64 HV fun RU=>Af JO<|Af NS<|Ab (Ct .u64 LO OI) fun RP=>Ab (Ct .u64 RP UJ) fun RF=>Ab (Ct .u64 RF RU) fun XE=>some (A7.mk [.sc (.int .u64 XE)] []))):=by kernel_rfl
theorem AV {xs:FuncId->Option (List PV->Option A7)} (fu d:Nat)(a0 a1:Int)(Px:Nat)(a2:List PV):Ai (CX xs) prog fu (d+1) Rk [.sc (.int .u64 a0),.sc (.int .u64 a1),.lst false 1 Px a2]=(fun (call:Aj)=>Ab (Ct .u64 a0 8317987319222330741) fun x1=>Ab (Ct .u64 a1 7237128888997146477) fun x2=>Ab (Ct .u64 a0 7816392313619706465) fun x3=>Ab (Ct .u64 a1 8387220255154660723) fun x4=>Ab (wrap .i64 (Int.tdiv (↑Px:Int) 8)) fun x5=>F2 fu call a0 a1 Px a2 (fu) (Px) (a2) x5 x5 0 x1 x2 x3 x4) (Ai (CX xs) prog fu d):=by kernel_rfl
abbrev Rt:FuncId:=41
theorem CN {xs:FuncId->Option (List PV->Option A7)} (fu d:Nat)(a0 a1:Int)(Px:Nat)(a2:List PV):Ai (CX xs) prog fu (d+1) Rt [.sc (.int .u64 a0),.sc (.int .i64 a1),.lst false 1 Px a2]=(fun (call:Aj)=>Ab (wrap .u64 a1) fun x1=>Ab (wrap .u64 (1+x1)) fun x2=>Ao (call 58 [.sc (.int .u64 a0),.sc (.int .u64 x2),.lst false 1 Px a2]) fun x3 x4=>Af x4<|Aa x3 fun x5 x6=>Ad .u64 x5 fun x7=>Af x6<|some (A7.mk [.sc (.int .u64 x7)] [])) (Ai (CX xs) prog fu d):=by kernel_rfl
abbrev Ka:FuncId:=89
theorem Q0 {xs:FuncId->Option (List PV->Option A7)} (fu d:Nat)(a0 a1:Int):Ai (CX xs) prog fu (d+1) Ka [.sc (.int .u64 a0),.sc (.int .u64 a1)]=(fun (call:Aj)=>Ar (decide (0<=a1))<|Ab (Fk .u64 a0 a1) fun x1=>Ab (wrap .u64 (64-a1)) fun x2=>Ar (decide (0<=x2))<|Ab (Te .u64 a0 x2) fun x3=>Ab (Sh .u64 x1 x3) fun x4=>some (A7.mk [.sc (.int .u64 x4)] [])) (Ai (CX xs) prog fu d):=by kernel_rfl
abbrev I7:FuncId:=81
theorem Po {xs:FuncId->Option (List PV->Option A7)} (fu d:Nat)(B5 B2:Int)(Co Cm:Int):Ai (CX xs) prog fu (d+1) I7 [.agg [.sc (.int .u64 B5),.sc (.int .u64 B2),.sc (.int .u64 Co),.sc (.int .u64 Cm)]]=(fun (call:Aj)=>Ab (wrap .u64 (B5+B2)) fun x1=>Ao (call 89 [.sc (.int .u64 B2),.sc (.int .u64 13)]) fun x2 x3=>Af x3<|Aa x2 fun x4 x5=>Ad .u64 x4 fun x6=>Af x5<|Ab (Ct .u64 x6 x1) fun x7=>Ao (call 89 [.sc (.int .u64 x1),.sc (.int .u64 32)]) fun x8 x9=>Af x9<|Aa x8 fun Lj Kg=>Ad .u64 Lj fun Ji=>Af Kg<|Ab (wrap .u64 (Co+Cm)) fun Ph=>Ao (call 89 [.sc (.int .u64 Cm),.sc (.int .u64 16)]) fun Mj Ns=>Af Ns<|Aa Mj fun Qm Sw=>Ad .u64 Qm fun Pe=>Af Sw<|Ab (Ct .u64 Pe Ph) fun Iu=>Ab (wrap .u64 (Ji+Iu)) fun Pi=>Ao (call 89 [.sc (.int .u64 Iu),.sc (.int .u64 21)]) fun Qz Sr=>Af Sr<|Aa Qz fun Q7 Iy=>Ad .u64 Q7 fun T8=>Af Iy<|Ab (Ct .u64 T8 Pi) fun Uo=>Ab (wrap .u64 (Ph+x7)) fun Qn=>Ao (call 89 [.sc (.int .u64 x7),.sc (.int .u64 17)]) fun Z3 CK=>Af CK<|Aa Z3 fun Nt P7=>Ad .u64 Nt fun Ya=>Af P7<|Ab (Ct .u64 Ya Qn) fun Vr=>Ao (call 89 [.sc (.int .u64 Qn),.sc (.int .u64 32)]) fun Tl Wo=>Af Wo<|Aa Tl fun Xw Su=>Ad .u64 Xw fun Yu=>Af Su<|some (A7.mk [.agg [.sc (.int .u64 Pi),.sc (.int .u64 Vr),.sc (.int .u64 Yu),.sc (.int .u64 Uo)]] [])) (Ai (CX xs) prog fu d):=by kernel_rfl
abbrev K0:FuncId:=65
noncomputable def De (fu:Nat)(call:Aj)(a0 a1:Int)(Px:Nat)(a2:List PV)(nn y0:Nat)(y1:List PV)(y2:Int)(y3:List PV):Option A7:=C5 CB prog fu call 65 Try.f65 (Bz Try.f65) [.sc (.int .u64 a0),.sc (.int .u64 a1),.lst false 1 Px a2] [.r,.r,.l,.r,.l] nn ⟨lk [(2,(.lst false 1 y0 y1)),(7,(.ptr 7 0)),(8,(.sc (.int .i64 y2)))],Fo [(7,(.ar false y3))]⟩
noncomputable def Cx (fu:Nat)(call:Aj)(a0 a1:Int)(Px:Nat)(a2:List PV)(m0 nn y0:Nat)(y1:List PV)(y2 y3 y4:Int)(y5:List PV):Option A7:=C5 CB prog fu call 65 Try.f65 (Bz Try.f65) [.sc (.int .u64 a0),.sc (.int .u64 a1),.lst false 1 Px a2] [.r,.r,.l,.r,.l,.i m0,.r,.l,.l,.r,.l,.r,.l] nn ⟨lk [(2,(.lst false 1 y0 y1)),(7,(.ptr 7 0)),(8,(.sc (.int .i64 y2))),(9,(.sc (.int .u64 y3))),(10,(.sc (.int .i64 y4)))],Fo [(7,(.ar false y5))]⟩
theorem In (fu:Nat)(call:Aj)(a0 a1:Int)(Px:Nat)(a2:List PV)(nn y0:Nat)(y1:List PV)(y2:Int)(y3:List PV):De fu call a0 a1 Px a2 (nn+1) y0 y1 y2 y3=(Bu (decide (y2<=(↑y0:Int))) (Cx fu call a0 a1 Px a2 nn (fu) (y0) (y1) (y2) 0 7 (y3)) (Ad .u64 (List.getD y3 2 .top) fun x5=>Ab (Ct .u64 x5 255) fun x6=>Ar (decide (3<=y3.length))<|Ab (A4 y3 [.sc (.int .u64 x6)] 2) fun x7=>Ad .u64 (List.getD x7 0 .top) fun x8=>Ad .u64 (List.getD x7 1 .top) fun x9=>Ad .u64 (List.getD x7 2 .top) fun Lj=>Ad .u64 (List.getD x7 3 .top) fun Kg=>Ao (call 81 [.agg [.sc (.int .u64 x8),.sc (.int .u64 x9),.sc (.int .u64 Lj),.sc (.int .u64 Kg)]]) fun Ji Ph=>Af Ph<|Aa Ji fun Mj Ns=>Dv Mj fun Qm=>Aa Qm fun Sw Pe=>Ad .u64 Sw fun Iu=>Aa Pe fun Pi Qz=>Ad .u64 Pi fun Sr=>Aa Qz fun Q7 Iy=>Ad .u64 Q7 fun T8=>Aa Iy fun Uo Qn=>Ad .u64 Uo fun Z3=>Af Qn<|Af Ns<|Ao (call 81 [.agg [.sc (.int .u64 Iu),.sc (.int .u64 Sr),.sc (.int .u64 T8),.sc (.int .u64 Z3)]]) fun CK Nt=>Af Nt<|Aa CK fun P7 Ya=>Dv P7 fun Vr=>Aa Vr fun Tl Wo=>Ad .u64 Tl fun Xw=>Aa Wo fun Su Yu=>Ad .u64 Su fun DA=>Aa Yu fun Zu KW=>Ad .u64 Zu fun HJ=>Aa KW fun MT EK=>Ad .u64 MT fun HW=>Af EK<|Af Ya<|Ao (call 81 [.agg [.sc (.int .u64 Xw),.sc (.int .u64 DA),.sc (.int .u64 HJ),.sc (.int .u64 HW)]]) fun KU JK=>Af JK<|Aa KU fun HR IB=>Dv HR fun Ys=>Aa Ys fun FM LU=>Ad .u64 FM fun HS=>Aa LU fun Wc HN=>Ad .u64 Wc fun KQ=>Aa HN fun HK EX=>Ad .u64 HK fun IR=>Aa EX fun DL Zj=>Ad .u64 DL fun DE=>Af Zj<|Af IB<|Ao (call 81 [.agg [.sc (.int .u64 HS),.sc (.int .u64 KQ),.sc (.int .u64 IR),.sc (.int .u64 DE)]]) fun OS NS=>Af NS<|Aa OS fun MI RI=>Dv MI fun LO=>Aa LO fun HL QX=>Ad .u64 HL fun OI=>Aa QX fun JE OP=>Ad .u64 JE fun UJ=>Aa OP fun HV JO=>Ad .u64 HV fun RU=>Aa JO fun RP RF=>Ad .u64 RP fun XE=>Af RF<|Af RI<|Ar (decide (4<=x7.length))<|Ab (A4 x7 [.sc (.int .u64 OI),.sc (.int .u64 UJ),.sc (.int .u64 RU),.sc (.int .u64 XE)] 0) fun RM=>Ad .u64 (List.getD RM 0 .top) fun x81=>Ad .u64 (List.getD RM 1 .top) fun WO=>Ab (Ct .u64 x81 WO) fun XR=>Ad .u64 (List.getD RM 2 .top) fun x84=>Ab (Ct .u64 XR x84) fun TH=>Ad .u64 (List.getD RM 3 .top) fun UI=>Ab (Ct .u64 TH UI) fun x87=>some (A7.mk [.sc (.int .u64 x87)] []))):=by kernel_rfl
theorem Ir (fu:Nat)(call:Aj)(a0 a1:Int)(Px:Nat)(a2:List PV)(m0 nn y0:Nat)(y1:List PV)(y2 y3 y4:Int)(y5:List PV):Cx fu call a0 a1 Px a2 m0 (nn+1) y0 y1 y2 y3 y4 y5=(Bu (decide (y4>=0)) (Ab (wrap .i64 (y2+y4)) fun x88=>Bu (decide (x88<(↑y0:Int))) (Ab (wrap .i64 (y2+y4)) fun RE=>Ar (decide (0<=RE)&&decide (RE<(↑y0:Int)))<|Ad .u8 (List.getD y1 (Int.toNat RE*1) .top) fun XX=>Ab (Fk .u64 y3 8) fun YT=>Ab (wrap .u64 XX) fun XS=>Ab (Sh .u64 YT XS) fun XQ=>Ab (wrap .i64 (y4-1)) fun x94=>Cx fu call a0 a1 Px a2 m0 (nn) (y0) (y1) (y2) XQ x94 (y5)) (Bu (y4==7) (Ab (wrap .u8 (↑y0:Int)) fun x95=>Ab (Fk .u64 y3 8) fun x96=>Ab (wrap .u64 x95) fun x97=>Ab (Sh .u64 x96 x97) fun x98=>Ab (wrap .i64 (y4-1)) fun x99=>Cx fu call a0 a1 Px a2 m0 (nn) (y0) (y1) (y2) x98 x99 (y5)) (Ab (Fk .u64 y3 8) fun JI=>Ab (Sh .u64 JI 0) fun JF=>Ab (wrap .i64 (y4-1)) fun FV=>Cx fu call a0 a1 Px a2 m0 (nn) (y0) (y1) (y2) JF FV (y5)))) (Ad .u64 (List.getD y5 3 .top) fun KZ=>Ab (Ct .u64 KZ y3) fun BK=>Ar (decide (4<=y5.length))<|Ab (A4 y5 [.sc (.int .u64 BK)] 3) fun Rx=>Ad .u64 (List.getD Rx 0 .top) fun IZ=>Ad .u64 (List.getD Rx 1 .top) fun KL=>Ad .u64 (List.getD Rx 2 .top) fun OE=>Ad .u64 (List.getD Rx 3 .top) fun EH=>Ao (call 81 [.agg [.sc (.int .u64 IZ),.sc (.int .u64 KL),.sc (.int .u64 OE),.sc (.int .u64 EH)]]) fun GA IE=>Af IE<|Aa GA fun KJ GE=>Dv KJ fun KM=>Aa KM fun FW NV=>Ad .u64 FW fun RZ=>Aa NV fun Ach NK=>Ad .u64 Ach fun TJ=>Aa NK fun TU XH=>Ad .u64 TU fun UT=>Aa XH fun WD WG=>Ad .u64 WD fun SB=>Af WG<|Af GE<|Ao (call 81 [.agg [.sc (.int .u64 RZ),.sc (.int .u64 TJ),.sc (.int .u64 UT),.sc (.int .u64 SB)]]) fun ZB TV=>Af TV<|Aa ZB fun UB WK=>Dv UB fun SH=>Aa SH fun TN UD=>Ad .u64 TN fun TG=>Aa UD fun WA TM=>Ad .u64 WA fun VW=>Aa TM fun SW TO=>Ad .u64 SW fun Ab5=>Aa TO fun RX RY=>Ad .u64 RX fun WN=>Af RY<|Af WK<|Ar (decide (4<=Rx.length))<|Ab (A4 Rx [.sc (.int .u64 TG),.sc (.int .u64 VW),.sc (.int .u64 Ab5),.sc (.int .u64 WN)] 0) fun II=>Ad .u64 (List.getD II 0 .top) fun RV=>Ab (Ct .u64 RV y3) fun UQ=>Ar (decide (1<=II.length))<|Ab (A4 II [.sc (.int .u64 UQ)] 0) fun TX=>Ab (wrap .i64 (y2+8)) fun UZ=>De fu call a0 a1 Px a2 (m0) (y0) (y1) UZ TX)):=by kernel_rfl
theorem R6 {xs:FuncId->Option (List PV->Option A7)} (fu d:Nat)(a0 a1:Int)(Px:Nat)(a2:List PV):Ai (CX xs) prog fu (d+1) K0 [.sc (.int .u64 a0),.sc (.int .u64 a1),.lst false 1 Px a2]=(fun (call:Aj)=>Ab (Ct .u64 a0 8317987319222330741) fun x1=>Ab (Ct .u64 a1 7237128888997146477) fun x2=>Ab (Ct .u64 a0 7816392313619706465) fun x3=>Ab (Ct .u64 a1 8387220255154660723) fun x4=>De fu call a0 a1 Px a2 (fu) (Px) (a2) 0 ([.sc (.int .u64 x1),.sc (.int .u64 x2),.sc (.int .u64 x3),.sc (.int .u64 x4)])) (Ai (CX xs) prog fu d):=by kernel_rfl
abbrev La:FuncId:=48
theorem Rc {xs:FuncId->Option (List PV->Option A7)} (fu d:Nat)(a0 a1:Int)(Px:Nat)(a2:List PV):Ai (CX xs) prog fu (d+1) La [.sc (.int .u64 a0),.sc (.int .i64 a1),.lst false 1 Px a2]=(fun (call:Aj)=>Ab (wrap .u64 a1) fun x1=>Ab (wrap .u64 (1+x1)) fun x2=>Ao (call 65 [.sc (.int .u64 a0),.sc (.int .u64 x2),.lst false 1 Px a2]) fun x3 x4=>Af x4<|Aa x3 fun x5 x6=>Ad .u64 x5 fun x7=>Af x6<|some (A7.mk [.sc (.int .u64 x7)] [])) (Ai (CX xs) prog fu d):=by kernel_rfl
abbrev Ea:FuncId:=56
noncomputable def C6 (fu:Nat)(call:Aj)(Bv:Nat)(a0:List PV)(nn y0:Nat)(y1:List PV)(y2:Nat)(y3:Int)(y4:List PV):Option A7:=C5 CB prog fu call 56 Try.f56 (Bz Try.f56) [.lst false 1 Bv a0] [.r,.r,.l,.r,.l] nn ⟨lk [(0,(.lst false 1 y0 y1)),(3,(.view 3 1 0 y2)),(4,(.sc (.int .i64 y3)))],Fo [(3,(.ar false y4))]⟩
noncomputable def Du (fu:Nat)(call:Aj)(Bv:Nat)(a0:List PV)(m0 nn y0:Nat)(y1:List PV)(y2:Nat)(y3 y4:Int)(y5:List PV):Option A7:=C5 CB prog fu call 56 Try.f56 (Bz Try.f56) [.lst false 1 Bv a0] [.r,.r,.l,.r,.l,.i m0,.r,.l,.l,.r,.l] nn ⟨lk [(0,(.lst false 1 y0 y1)),(3,(.view 3 1 0 y2)),(4,(.sc (.int .i64 y3))),(5,(.sc (.int .i64 y4)))],Fo [(3,(.ar false y5))]⟩
theorem Gw (fu:Nat)(call:Aj)(Bv:Nat)(a0:List PV)(nn y0:Nat)(y1:List PV)(y2:Nat)(y3:Int)(y4:List PV):C6 fu call Bv a0 (nn+1) y0 y1 y2 y3 y4=(Bu (decide (y3<(↑y0:Int))) (Du fu call Bv a0 nn (fu) (y0) (y1) (y2) (y3) 7 (y4)) (Ar (decide (y2*1<=y4.length))<|some (A7.mk [.own 1 y2 (List.take (y2*1) y4)] []))):=by kernel_rfl
theorem G7 (fu:Nat)(call:Aj)(Bv:Nat)(a0:List PV)(m0 nn y0:Nat)(y1:List PV)(y2:Nat)(y3 y4:Int)(y5:List PV):Du fu call Bv a0 m0 (nn+1) y0 y1 y2 y3 y4 y5=(Bu (decide (y4>=0)) (Ar (decide (0<=y3)&&decide (y3<(↑y0:Int)))<|Ad .u64 (List.getD y1 (Int.toNat y3*1) .top) fun x1=>Ab (wrap .i64 (8*y4)) fun x2=>Ab (wrap .u64 x2) fun x3=>Ar (decide (0<=x3))<|Ab (Te .u64 x1 x3) fun x4=>Ab (wrap .u8 x4) fun x5=>Ar (decide (y2*1<=y5.length)&&true&&decide ((y2+1)*1<=1099511627776)&&decide (y2+1<=1099511627776))<|Ab (y2+1) fun x6=>Ab (List.take (y2*1) y5++[.sc (.int .u8 x5)]) fun x7=>Ab (wrap .i64 (y4-1)) fun x8=>Du fu call Bv a0 m0 (nn) (y0) (y1) x6 (y3) x8 x7) (Ab (wrap .i64 (y3+1)) fun x9=>C6 fu call Bv a0 (m0) (y0) (y1) (y2) x9 (y5))):=by kernel_rfl
theorem Pp {xs:FuncId->Option (List PV->Option A7)} (fu d Bv:Nat)(a0:List PV):Ai (CX xs) prog fu (d+1) Ea [.lst false 1 Bv a0]=(fun (call:Aj)=>C6 fu call Bv a0 (fu) (Bv) (a0) 0 0 ([])) (Ai (CX xs) prog fu d):=by kernel_rfl
end
section
open Go.IntKind (wrap)
def rot (x k:Int):Int:=Sh .u64 (Fk .u64 x k) (Te .u64 x (64-k))
structure W4 where
 a:Int
 b:Int
 c:Int
 d:Int
def W4.cells (v:W4):List PV:=[.sc (.int .u64 v.a),.sc (.int .u64 v.b),.sc (.int .u64 v.c),.sc (.int .u64 v.d)]
def Aqf (v:W4):W4:=⟨rot (wrap .u64 (v.a+v.b)) 32,Ct .u64 (rot v.b 13) (wrap .u64 (v.a+v.b)),wrap .u64 (v.c+v.d),Ct .u64 (rot v.d 16) (wrap .u64 (v.c+v.d))⟩
def Ank (v:W4):W4:=⟨wrap .u64 (v.a+v.d),Ct .u64 (rot v.b 17) (wrap .u64 (v.c+v.b)),rot (wrap .u64 (v.c+v.b)) 32,Ct .u64 (rot v.d 21) (wrap .u64 (v.a+v.d))⟩
def X8 (v:W4):W4:=Ank (Aqf v)
def KK:Nat->W4->W4
 |0,v=>v
 |n+1,v=>KK n (X8 v)
def Alp (r:W4)(m:Int):W4:=⟨Ct .u64 r.a m,r.b,r.c,r.d⟩
def Me (v:W4)(m:Int):W4:=Alp (KK 2 ⟨v.a,v.b,v.c,Ct .u64 v.d m⟩) m
def Md:List Int->Int
 |[]=>0
 |b::r=>b+256*Md r
def Yw:Nat->W4->List Int->W4
 |0,v,_=>v
 |n+1,v,l=>Yw n (Me v (Md (l.take 8))) (l.drop 8)
def Agb (k0 k1:Int):W4:=⟨Ct .u64 k0 8317987319222330741,Ct .u64 k1 7237128888997146477,Ct .u64 k0 7816392313619706465,Ct .u64 k1 8387220255154660723⟩
def PQ (v:W4):W4:=KK 4 ⟨v.a,v.b,Ct .u64 v.c 255,v.d⟩
def PP (v:W4):Int:=Ct .u64 (Ct .u64 (Ct .u64 v.a v.b) v.c) v.d
def I9 (l:List Int):Int:=Md (l.drop (8*(l.length / 8)))+72057594037927936*((l.length:Int) % 256)
def Ahu (k0 k1:Int)(l:List Int):Int:=PP (PQ (Me (Yw (l.length / 8) (Agb k0 k1) l) (I9 l)))
def BV (key dom:Int)(l:List Int):Int:=Ahu key (wrap .u64 (1+wrap .u64 dom)) l
def Sx (l:List Int):Prop:=∀b∈l,0<=b∧b<=255
theorem Nc:∀{l:List Int},Sx l->0<=Md l∧Md l<256 ^ l.length
 |[],_=>by simp[Md]
 |b::r,h=>by
  have h1:=h b (by simp)
  have h2:=Nc (l:=r) fun x hx=>h x (by simp[hx])
  have h3:(256:Int) ^ (b::r).length=256 ^ r.length*256:=by rw[OW,Int.pow_succ]
  simp only[Md];omega
theorem Qk:∀(l r:List Int),Md (l++r)=Md l+256 ^ l.length*Md r
 |[],r=>by simp[Md]
 |b::l,r=>by
  have ih:=Qk l r;simp only[List.cons_append,Md,OW,Int.pow_succ];rw[ih,Int.mul_add];have:(256:Int)*(256 ^ l.length*Md r)=256 ^ l.length*256*Md r:=by rw[←Int.mul_assoc,Int.mul_comm 256]
  omega
theorem AX {a c:Int}(k b:Nat)(h0:0<=a)(h1:a<((2 ^ k:Nat):Int)) (hc:c=((b*2 ^ k:Nat):Int)) (h:a+c<=18446744073709551615):Sh .u64 a c=a+c∧Sh .u64 c a=a+c:=by
 obtain⟨n,rfl⟩:=Int.eq_ofNat_of_zero_le h0;subst hc;have hn:n<2 ^ k:=by omega
 generalize hB:b*2 ^ k=m at h
 have e4:(BitVec.ofInt 64 (n:Int)).toNat=n:=by
  rw[BitVec.toNat_ofInt];omega
 have e5:(BitVec.ofInt 64 (m:Int)).toNat=m:=by
  rw[BitVec.toNat_ofInt];omega
 have e6:m ||| n=m+n:=by
  have:=Nat.shiftLeft_add_eq_or_of_lt hn b;rw[Nat.shiftLeft_eq,hB] at this;exact this.symm
 constructor
 ·show wrap .u64 ((BitVec.ofInt 64 (n:Int) ||| BitVec.ofInt 64 (m:Int)).toNat:Int)=_;rw[BitVec.toNat_or,e4,e5,Nat.or_comm,e6,Ca (by omega) (by omega)]
  omega
 ·show wrap .u64 ((BitVec.ofInt 64 (m:Int) ||| BitVec.ofInt 64 (n:Int)).toNat:Int)=_;rw[BitVec.toNat_or,e4,e5,e6,Ca (by omega) (by omega)]
  omega
theorem NG {a k:Int}(h0:0<=a)(hk:0<=k)(Fc:k<=64)(h:a*((2 ^ k.toNat:Nat):Int)<=18446744073709551615):Fk .u64 a k=a*((2 ^ k.toNat:Nat):Int):=by
 show wrap .u64 (a*2 ^ (min k.toNat IntKind.u64.bits))=_;have e:min k.toNat IntKind.u64.bits=k.toNat:=Nat.min_eq_left (by show k.toNat<=64;omega)
 have e2:(2:Int) ^ k.toNat=((2 ^ k.toNat:Nat):Int):=by simp
 rw[e,e2,Ca (Int.mul_nonneg h0 (Int.natCast_nonneg _)) h]
end
end Go.Proofs.Yteicjnihnacadaa.Pv
