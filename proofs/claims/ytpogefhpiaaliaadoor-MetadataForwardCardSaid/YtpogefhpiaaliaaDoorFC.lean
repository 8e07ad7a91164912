/-
  The proof of MetadataForward, part 3.
-/
import Derived.Test.YtpogefhpiaaliaaDoorFB
import Derived.StillTail
import Derived.WalkKit
import Derived.ProofKit
import Derived.OpenShut
import Derived.ShutString
import Derived.ChangeOld
import Derived.Below
import Derived.Deep.Slices
import Derived.ChangeSame
import Derived.WideKeyArgs
import Derived.Carry
import Derived.Test.YtpogefhpiaaliaaDoorRows
set_option linter.unusedSimpArgs false
set_option linter.unusedVariables false
namespace Go.Proofs.YtpogefhpiaaliaaDoor.Pv
section
section
variable {R R':Type} {Rel:Option R->Option R'->Prop}
theorem Km (hn:Rel none none){k:IntKind}{p:PV}{K:Int->Option R}{K':Int->Option R'}(hK:∀n,Rel (K n) (K' n)):Rel (Ae k p K) (Ae k p K'):=by
 unfold Ae;split
 ·split<;>first|exact hK _|exact hn
 ·exact hn
theorem Fe (hn:Rel none none){p:PV}{K:IntKind->Int->Option R}{K':IntKind->Int->Option R'}(hK:∀k n,Rel (K k n) (K' k n)):Rel (Ef p K) (Ef p K'):=by
 unfold Ef;split<;>first|exact hK _ _|exact hn
theorem I2 (hn:Rel none none){p:PV}{K:Bool->Option R}{K':Bool->Option R'}(hK:∀n,Rel (K n) (K' n)):Rel (Bu p K) (Bu p K'):=by
 unfold Bu;split<;>first|exact hK _|exact hn
theorem H4 (hn:Rel none none){p:PV}{K:ByteArray->Option R}{K':ByteArray->Option R'}(hK:∀n,Rel (K n) (K' n)):Rel (Iz p K) (Iz p K'):=by
 unfold Iz;split<;>first|exact hK _|exact hn
theorem Hk (hn:Rel none none){es:Nat}{p:PV}{K:Bool->Nat->List PV->Option R}{K':Bool->Nat->List PV->Option R'}(hK:∀z n c,Rel (K z n c) (K' z n c)):Rel (Fq es p K) (Fq es p K'):=by
 unfold Fq;split
 ·rename_i es' _ _;cases Nat.beq es' es
  ·exact hn
  ·exact hK _ _ _
 ·exact hK _ _ _
 ·exact hn
theorem Au1 (hn:Rel none none){es:Nat}{p:PV}{K:PV->Option R}{K':PV->Option R'}(hK:∀p,Rel (K p) (K' p)):Rel (fsK es p K) (fsK es p K'):=by
 unfold fsK;split
 ·rename_i es' _ _;cases Nat.beq es' es
  ·exact hn
  ·exact hK _
 ·exact Hk hn fun _ _ _=>hK _
theorem Ah0 (hn:Rel none none){es:Nat}{p:PV}{K:Nat->List PV->Option R}{K':Nat->List PV->Option R'}(hK:∀n c,Rel (K n c) (K' n c)):Rel (Gl es p K) (Gl es p K'):=by
 unfold Gl;split
 ·rename_i es' _ _;cases Nat.beq es' es
  ·exact hn
  ·exact hK _ _
 ·exact hn
theorem A8 (hn:Rel none none){b:Bool}{K:Option R}{K':Option R'}(hK:b=true->Rel K K'):Rel (Ar b K) (Ar b K'):=by
 cases b
 ·exact hn
 ·exact hK rfl
theorem NA {b:Bool}{x y:Option R}{x' y':Option R'}(hx:Rel x x')(hy:Rel y y'):Rel (Bi b x y) (Bi b x' y'):=by
 cases b
 ·exact hy
 ·exact hx
theorem D9 (hn:Rel none none){α:Type}{o:Option α}{K:α->Option R}{K':α->Option R'}(hK:∀a,o=some a->Rel (K a) (K' a)):Rel (F8 o K) (F8 o K'):=by
 cases o
 ·exact hn
 ·exact hK _ rfl
theorem B0 (hn:Rel none none){α:Type}{l:List α}{K:α->List α->Option R}{K':α->List α->Option R'}(hK:∀a r,l=a::r->Rel (K a r) (K' a r)):Rel (Ab l K) (Ab l K'):=by
 cases l
 ·exact hn
 ·exact hK _ _ rfl
theorem Gn (hn:Rel none none){α:Type}{l:List α}{K:Option R}{K':Option R'}(hK:Rel K K'):Rel (Ac l K) (Ac l K'):=by
 cases l
 ·exact hK
 ·exact hn
theorem Mj (hn:Rel none none){p:PV}{K:List PV->Option R}{K':List PV->Option R'}(hK:∀c,p=.agg c->Rel (K c) (K' c)):Rel (Fm p K) (Fm p K'):=by
 unfold Fm;split
 ·exact hK _ rfl
 ·exact hn
theorem Ajj (hn:Rel none none){p:PV}{K:List PV->Option R}{K':List PV->Option R'}(hK:∀c,Rel (K c) (K' c)):Rel (DO p K) (DO p K'):=by
 unfold DO;split
 ·exact hK _
 ·exact hn
theorem WD (hn:Rel none none){r:Option A5}{K:List PV->List (List PV)->Option R} {K':List PV->List (List PV)->Option R'} (hK:∀v o,Rel (K v o) (K' v o)):Rel (Ai r K) (Ai r K'):=by
 unfold Ai;split
 ·exact hK _ _
 ·exact hn
theorem Ahd (hn:Rel none none){p:PV}{K:Value->Option R}{K':Value->Option R'}(hK:∀v,Rel (K v) (K' v)):Rel (fnK p K) (fnK p K'):=by
 unfold fnK;split
 ·exact hK _
 ·exact hn
theorem Asi (hn:Rel none none){p:PV}{K:FuncId->Option R}{K':FuncId->Option R'}(hK:∀v,Rel (K v) (K' v)):Rel (fvK p K) (fvK p K'):=by
 unfold fvK;split
 ·rename_i f a b;cases (a.isEmpty&&b.isEmpty)
  ·exact hn
  ·exact hK _
 ·exact hn
theorem S6 (hn:Rel none none){t:CT}{p:PV}{K:PV->Option R}{K':PV->Option R'}(hK:∀p,Rel (K p) (K' p)):Rel (HJ t p K) (HJ t p K'):=by
 unfold HJ;split
 ·exact Km hn fun _=>hK _
 ·exact I2 hn fun _=>hK _
 ·exact H4 hn fun _=>hK _
 ·exact Hk hn fun _ _ _=>hK _
 ·exact Ahd hn fun _=>hK _
theorem Ash (hn:Rel none none){t:CT}{p:PV}{K:PV->Option R}{K':PV->Option R'}(hK:∀p,Rel (K p) (K' p)):Rel (fcK t p K) (fcK t p K'):=by
 unfold fcK;split
 ·exact Au1 hn hK
 ·exact S6 hn hK
theorem Uv (hn:Rel none none):∀{ts:List CT}{cells:List PV}{off:Nat}{K:List PV->Option R}{K':List PV->Option R'},(∀c,Rel (K c) (K' c))->Rel (Xk ts cells off K) (Xk ts cells off K')
 |[],_,_,_,_,hK=>hK _
 |_::_,_,_,_,_,hK=>S6 hn fun _=>Uv hn fun _=>hK _
theorem Qp (hn:Rel none none):∀{ts:List CT}{cells:List PV}{off:Nat}{K:List PV->Option R}{K':List PV->Option R'},(∀c,Rel (K c) (K' c))->Rel (Tf ts cells off K) (Tf ts cells off K')
 |[],_,_,_,_,hK=>hK _
 |_::_,_,_,_,_,hK=>Ash hn fun _=>Qp hn fun _=>hK _
theorem GP (hn:Rel none none){g:Bool}{cells:List PV}{K:PV->Option R}{K':PV->Option R'}(hK:∀p,Rel (K p) (K' p)):Rel (mkV g cells K) (mkV g cells K'):=by
 cases g
 ·exact B0 hn fun _ _ _=>Gn hn (hK _)
 ·exact hK _
theorem At2 (hn:Rel none none){P:Program}{t:TypeId}{v:Value}{K:PV->Option R}{K':PV->Option R'}(hK:∀p,B7 p=[]->Rel (K p) (K' p)) (hK':∀c,Rel (K (.agg c)) (K' (.agg c))):Rel (cvK P t v K) (cvK P t v K'):=by
 unfold cvK;split
 ·exact A8 hn fun _=>Uv hn fun _=>hK' _
 ·split
  ·exact hK _ rfl
  ·exact hn
 ·exact hK _ rfl
theorem Ao8 (hn:Rel none none){op:BinOp}{x y:Int}{K:Bool->Option R}{K':Bool->Option R'}(hK:∀n,Rel (K n) (K' n)):Rel (Atj op x y K) (Atj op x y K'):=by
 unfold Atj;split<;>first|exact hK _|exact hn
theorem Aeu (hn:Rel none none){op:BinOp}{k:IntKind}{x y:Int}{K:PV->Option R}{K':PV->Option R'}(hK:∀n,Rel (K n) (K' n)):Rel (ON op k x y K) (ON op k x y K'):=by
 unfold ON;split<;>first|exact hK _|exact A8 hn fun _=>hK _|exact Ao8 hn fun _=>hK _
theorem Agc (hn:Rel none none){op:BinOp}{x y:ByteArray}{K:PV->Option R}{K':PV->Option R'}(hK:∀n,Rel (K n) (K' n)):Rel (PD op x y K) (PD op x y K'):=by
 unfold PD;split<;>first|exact hK _|exact A8 hn fun _=>hK _|exact hn
theorem WZ (hn:Rel none none){e:Bool}{p:PV}{K:PV->Option R}{K':PV->Option R'}(hK:∀n,Rel (K n) (K' n)):Rel (RG e p K) (RG e p K'):=by
 unfold RG;split<;>first|exact hK _|exact NA (hK _) (NA (hK _) (hK _))|exact NA (hK _) (hK _)|exact hn
theorem Aa3 (hn:Rel none none):∀{ts:List CT}{ps qs:List PV}{K:Bool->Option R}{K':Bool->Option R'},(∀b,Rel (K b) (K' b))->Rel (Od ts ps qs K) (Od ts ps qs K'):=by
 intro ts
 induction ts with
 |nil=>
  intro ps qs K K' hK;cases ps<;>cases qs<;>first|exact hK _|exact hn
 |cons t ts ih=>
  intro ps qs K K' hK;cases ps with
  |nil=>cases t<;>cases qs<;>exact hn
  |cons p ps=>
   cases qs with
   |nil=>cases t<;>exact hn
   |cons q qs=>
    cases t
    ·exact Km hn fun _=>Km hn fun _=>ih fun _=>hK _
    ·exact I2 hn fun _=>I2 hn fun _=>ih fun _=>hK _
    ·exact H4 hn fun _=>H4 hn fun _=>ih fun _=>hK _
    ·exact hn
    ·exact hn
theorem Anx (hn:Rel none none){P:Program}{op:BinOp}{t:TypeId}{x y:PV}{K:PV->Option R}{K':PV->Option R'}(hK:∀p,Rel (K p) (K' p)):Rel (Aor P op t x y K) (Aor P op t x y K'):=by
 unfold Aor;split
 ·split
  ·exact Km hn fun _=>Fe hn fun _ _=>A8 hn fun _=>hK _
  ·exact Km hn fun _=>Fe hn fun _ _=>A8 hn fun _=>hK _
  ·exact Km hn fun _=>Km hn fun _=>Aeu hn hK
 ·exact H4 hn fun _=>H4 hn fun _=>Agc hn hK
 ·split
  ·exact I2 hn fun _=>I2 hn fun _=>hK _
  ·exact I2 hn fun _=>I2 hn fun _=>hK _
  ·exact hn
 ·split
  ·exact WZ hn fun _=>hK _
  ·exact WZ hn fun _=>hK _
  ·exact hn
 ·exact hn
theorem Acy (hn:Rel none none){P:Program}{op:BinOp}{t:TypeId}{x y:PV}{K:PV->Option R}{K':PV->Option R'}(hK:∀p,Rel (K p) (K' p)):Rel (Zc P op t x y K) (Zc P op t x y K'):=by
 unfold Zc;split
 ·split
  ·exact A8 hn fun _=>Mj hn fun _ _=>Mj hn fun _ _=>Aa3 hn fun _=>hK _
  ·exact A8 hn fun _=>Mj hn fun _ _=>Mj hn fun _ _=>Aa3 hn fun _=>hK _
  ·exact hn
 ·exact Anx hn hK
theorem Asc (hn:Rel none none){op:UnOp}{x:PV}{K:PV->Option R}{K':PV->Option R'}(hK:∀p,Rel (K p) (K' p)):Rel (unK op x K) (unK op x K'):=by
 unfold unK;split<;>first|exact I2 hn fun _=>hK _|exact Fe hn fun _ _=>hK _|exact hn
theorem E6 (hn:Rel none none){p:Option PV}{d:Nat}{K:Nat->Option R}{K':Nat->Option R'}(hK:∀n,Rel (K n) (K' n)):Rel (I4 p d K) (I4 p d K'):=by
 unfold I4;split
 ·exact hK _
 ·exact Fe hn fun _ _=>A8 hn fun _=>hK _
theorem HQ (hn:Rel none none){x:PV}{d:Nat}{K:PV->Option R}{K':PV->Option R'}(hK:∀n,Rel (K n) (K' n)):Rel (Xp x d K) (Xp x d K'):=by
 unfold Xp;split<;>first|exact hK _|exact hn
theorem QQ (hn:Rel none none){P:Program}{t:TypeId}{x:PV}{i:Int}{K:PV->Option R}{K':PV->Option R'}(hK:∀p,Rel (K p) (K' p)):Rel (Nz P t x i K) (Nz P t x i K'):=by
 unfold Nz;split
 ·exact A8 hn fun _=>A8 hn fun _=>HQ hn hK
 ·refine A8 hn fun _=>?_
  split
  ·exact A8 hn fun _=>A8 hn fun _=>hK _
  ·exact Hk hn fun _ _ _=>A8 hn fun _=>hK _
 ·exact hn
theorem IL (hn:Rel none none){Ji:Nat->Option (Nat × Nat)}:∀{ps:List (Nat × PV)} {cells:List PV}{K:List PV->Option R}{K':List PV->Option R'},(∀c,Rel (K c) (K' c))->Rel (Xl Ji ps cells K) (Xl Ji ps cells K')
 |[],_,_,_,hK=>hK _
 |(_,_)::_,_,_,_,hK=>D9 hn fun _ _=>A8 hn fun _=>IL hn hK
theorem Yo (hn:Rel none none){P:Program}{t:TypeId}{K:List PV->Option R}{K':List PV->Option R'}(hK:∀p,Rel (K p) (K' p)):Rel (I8 P t K) (I8 P t K'):=
 D9 hn fun _ _=>A8 hn fun _=>Uv hn hK
theorem Apf (hn:Rel none none){x y:PV}{K:PV->Option R}{K':PV->Option R'}(hK:∀p,Rel (K p) (K' p)):Rel (Aua x y K) (Aua x y K'):=
 Fe hn fun _ _=>Km hn fun _=>hK _
theorem Aql (hn:Rel none none){x y:PV}{K:PV->Option R}{K':PV->Option R'}(hK:∀p,Rel (K p) (K' p)):Rel (Aux x y K) (Aux x y K'):=
 Fe hn fun _ _=>Km hn fun _=>hK _
theorem Amn (hn:Rel none none){P:Program}{t:TypeId}{x:PV}{K:Nat->Option R}{K':Nat->Option R'}(hK:∀p,Rel (K p) (K' p)):Rel (Alt P t x K) (Alt P t x K'):=by
 unfold Alt;split
 ·exact H4 hn fun _=>hK _
 ·exact hK _
 ·split
  ·exact A8 hn fun _=>hK _
  ·exact Hk hn fun _ _ _=>hK _
 ·exact hn
def Agr (Rel:Option R->Option R'->Prop)(f f':Nat->Option (List PV)) (l:List Nat):Prop:=∀i∈l,f i=f' i∨(f i=none∧∀b,Rel none b)
variable {f f':Nat->Option (List PV)}
theorem Agr.sub {l l':List Nat}(h:Agr Rel f f' l)(hs:∀i∈l',i∈l):Agr Rel f f' l':=fun i hi=>h i (hs i hi)
theorem FU (hn:Rel none none){l:List Nat}{id:Nat}(hf:Agr Rel f f' l)(hi:id∈l){K:List PV->Option R}{K':List PV->Option R'}(hK:∀c,f id=some c->Rel (K c) (K' c)):Rel (F8 (f id) K) (F8 (f' id) K'):=by
 rcases hf id hi with h|⟨h,hb⟩
 ·rw[←h];exact D9 hn hK
 ·rw[h];exact hb _
theorem FN (hn:Rel none none){es:Nat}{p:PV}{K:Nat->List PV->Option R}{K':Nat->List PV->Option R'}(hf:Agr Rel f f' (Av p)) (hK:∀n c,Rel (K n c) (K' n c)):Rel (Afu f es p K) (Afu f' es p K'):=by
 unfold Afu;split
 ·rename_i id es' off n;cases Nat.beq es' es
  ·exact hn
  ·exact FU hn hf (by simp[Av]) fun _ _=>A8 hn fun _=>hK _ _
 ·exact Hk hn fun _ _ _=>hK _ _
theorem Ap9 (hn:Rel none none){t:CT}{p:PV}{K:PV->List Nat->Option R}{K':PV->List Nat->Option R'}(hf:Agr Rel f f' (Av p)) (hK:∀c m,(∀i∈m,f i≠none)->Rel (K c m) (K' c m)):Rel (R2 f t p K) (R2 f' t p K'):=by
 unfold R2;split
 ·split
  ·rename_i id es' off n;cases Nat.beq es' _
   ·exact hn
   ·exact FU hn hf (by simp[Av]) fun c hc=>A8 hn fun _=>hK _ _ (by simp[hc])
  ·exact Hk hn fun _ _ _=>hK _ _ (by simp)
 ·exact S6 hn fun _=>hK _ _ (by simp)
theorem Ys (hn:Rel none none):∀{ts:List CT}{ps:List PV}{K:List PV->List Nat->Option R}{K':List PV->List Nat->Option R'},Agr Rel f f' (ps.flatMap Av)->(∀c m,(∀i∈m,f i≠none)->Rel (K c m) (K' c m))->Rel (Ro f ts ps K) (Ro f' ts ps K')
 |[],[],_,_,_,hK=>hK _ _ (by simp)
 |[],_::_,_,_,_,_=>hn
 |_::_,[],_,_,_,_=>hn
 |_::_,p::ps,_,_,hf,hK=>Ap9 hn (fun i hi=>hf i (by simp only[List.flatMap_cons,List.mem_append];exact .inl hi)) fun _ m hm=>Ys hn (fun i hi=>hf i (by simp only[List.flatMap_cons,List.mem_append];exact .inr hi)) fun _ ms OK=>hK _ _ fun i hi=>by
   rcases List.mem_append.1 hi with h|h
   ·exact hm i h
   ·exact OK i h
theorem Aqp (hn:Rel none none){P:Program}{t:TypeId}{p:PV}{K:PV->List Nat->Option R}{K':PV->List Nat->Option R'}(hf:Agr Rel f f' (Cj p)) (hK:∀c m,(∀i∈m,f i≠none)->Rel (K c m) (K' c m)):Rel (Ag0 P f t p K) (Ag0 P f' t p K'):=by
 unfold Ag0
 have h1:∀i,i∈[p].flatMap Av->i∈Cj p:=by
  intro i hi;simp only[List.flatMap_cons,List.flatMap_nil,List.append_nil] at hi;cases p<;>first|exact hi|simp[Av] at hi
 cases Cr P t
 ·exact Ys hn (fun i hi=>hf i (h1 i hi)) fun _ _ hm=>B0 hn fun _ _ _=>Gn hn (hK _ _ hm)
 ·refine Mj hn fun c hc=>?_
  subst hc;exact Ys hn (fun i hi=>hf i hi) fun _ _ hm=>hK _ _ hm
theorem XH (hn:Rel none none){P:Program}:∀{ts:List TypeId}{ps:List PV}{K:List PV->List Nat->Option R}{K':List PV->List Nat->Option R'},Agr Rel f f' (ps.flatMap Cj)->(∀c m,(∀i∈m,f i≠none)->Rel (K c m) (K' c m))->Rel (QO P f ts ps K) (QO P f' ts ps K')
 |[],[],_,_,_,hK=>hK _ _ (by simp)
 |[],_::_,_,_,_,_=>hn
 |_::_,[],_,_,_,_=>hn
 |_::_,p::ps,_,_,hf,hK=>Aqp hn (fun i hi=>hf i (by simp only[List.flatMap_cons,List.mem_append];exact .inl hi)) fun _ m hm=>XH hn (fun i hi=>hf i (by simp only[List.flatMap_cons,List.mem_append];exact .inr hi)) fun _ ms OK=>hK _ _ fun i hi=>by
   rcases List.mem_append.1 hi with h|h
   ·exact hm i h
   ·exact OK i h
theorem Ae0 (hn:Rel none none){P:Program}{t:TypeId}{x:PV}{lo hi:Option PV}{K:PV->Option R}{K':PV->Option R'}(hf:(∃n e,P.underlying t=some (.array n e))->Agr Rel f f' (Av x)) (hK:∀c,Rel (K c) (K' c)):Rel (IP P f t x lo hi K) (IP P f' t x lo hi K'):=by
 unfold IP;split
 ·exact H4 hn fun _=>E6 hn fun _=>E6 hn fun _=>A8 hn fun _=>hK _
 ·refine A8 hn fun _=>?_
  split
  ·exact A8 hn fun _=>E6 hn fun _=>E6 hn fun _=>A8 hn fun _=>hK _
  ·exact Hk hn fun _ _ _=>E6 hn fun _=>E6 hn fun _=>A8 hn fun _=>hK _
 ·rename_i n e hu;refine A8 hn fun _=>?_
  split
  ·rename_i id off;exact FU hn (hf ⟨_,_,hu⟩) (by simp[Av]) fun _ _=>A8 hn fun _=>E6 hn fun _=>E6 hn fun _=>A8 hn fun _=>hK _
  ·exact hn
 ·exact hn
theorem Abu (hn:Rel none none){P:Program}{d:Nat}{t:TypeId}{x:PV}{lo hi mx:Option PV}{K:PV->List (Nat × Bx)->Option R} {K':PV->List (Nat × Bx)->Option R'} (hK:∀c,Rel (K c [(d,.ar false [])]) (K' c [(d,.ar false [])])):Rel (Zf P d t x lo hi mx K) (Zf P d t x lo hi mx K'):=by
 unfold Zf;split
 ·refine A8 hn fun _=>?_
  split
  ·exact A8 hn fun _=>E6 hn fun _=>E6 hn fun _=>E6 hn fun _=>A8 hn fun _=>hK _
  ·exact Hk hn fun _ _ _=>E6 hn fun _=>E6 hn fun _=>E6 hn fun _=>A8 hn fun _=>hK _
 ·exact hn
theorem VT {g g':Nat->Option (List PV)} (hn:Rel none none){P:Program}{t:TypeId}{x:PV}{K:PV->Option R}{K':PV->Option R'}(hf:∀i∈Av x,(f i=f' i∧g i=g' i)∨(f i=none∧g i=none∧∀b,Rel none b)) (hK:∀c,Rel (K c) (K' c)):Rel (EW P f g t x K) (EW P f' g' t x K'):=by
 unfold EW;split
 ·rename_i id off;refine A8 hn fun _=>?_
  rcases hf id (by simp[Av]) with⟨h1,h2⟩|⟨h1,h2,h3⟩
  ·rw[←h1,←h2];split
   ·exact Uv hn fun _=>GP hn fun _=>hK _
   ·exact D9 hn fun _ _=>Qp hn fun _=>GP hn hK
  ·rw[h1,h2];exact h3 _
 ·exact A8 hn fun _=>Uv hn fun _=>GP hn fun _=>hK _
 ·exact hn
theorem Alx (hn:Rel none none){P:Program}{d:Nat}{src dst:TypeId}{x:PV}{K:PV->List (Nat × Bx)->Option R} {K':PV->List (Nat × Bx)->Option R'} (hf:P.underlying dst=some .string->Agr Rel f f' (Av x)) (hK:∀v b,(∀q∈b,q.1=d)->Rel (K v b) (K' v b)):Rel (QL P f d src dst x K) (QL P f' d src dst x K'):=by
 unfold QL;split
 ·exact A8 hn fun _=>Fe hn fun _ _=>hK _ _ (by simp)
 ·rename_i hds;split
  ·exact H4 hn fun _=>hK _ _ (by simp)
  ·split
   ·exact FN hn (hf hds) fun _ _=>A8 hn fun _=>D9 hn fun _ _=>hK _ _ (by simp)
   ·exact hn
  ·exact hn
 ·split
  ·exact H4 hn fun _=>A8 hn fun _=>hK _ _ (by simp)
  ·exact hn
 ·exact hn
theorem Ana (hn:Rel none none){shr:Bool}{id:Nat}{t:CT}{p:PV}{K:PV->List (Nat × Bx)->Option R} {K':PV->List (Nat × Bx)->Option R'} (hK:∀c b,(∀q∈b,q.1=id)->Rel (K c b) (K' c b)):Rel (Am9 shr id t p K) (Am9 shr id t p K'):=by
 unfold Am9;split
 ·cases shr
  ·exact Ah0 hn fun _ _=>hK _ _ (by simp)
  ·exact Hk hn fun _ _ _=>hK _ _ (by simp)
 ·exact S6 hn fun _=>hK _ _ (by simp)
theorem Y3 (hn:Rel none none){shr:Bool}{N:Nat}:∀{ts:List CT}{id:Nat}{ps:List PV}{K:List PV->List (Nat × Bx)->Option R} {K':List PV->List (Nat × Bx)->Option R'},(∀c b,(∀q∈b,∃j,q.1=id+N*j)->Rel (K c b) (K' c b))->Rel (Ty shr N id ts ps K) (Ty shr N id ts ps K')
 |[],_,_,_,_,hK=>Gn hn (hK _ _ (by simp))
 |_::_,id,_,_,_,hK=>B0 hn fun _ _ _=>Ana hn fun _ b hb=>Y3 hn fun _ bs OL=>hK _ _ fun q hq=>by
   rcases List.mem_append.1 hq with h|h
   ·exact⟨0,by rw[hb q h];simp⟩
   ·obtain⟨j,hj⟩:=OL q h;exact⟨j+1,by rw[hj,Nat.mul_add];omega⟩
theorem Ant (hn:Rel none none){P:Program}{shr:Bool}{N id:Nat}{t:TypeId}{p:PV}{K:PV->List (Nat × Bx)->Option R} {K':PV->List (Nat × Bx)->Option R'} (hK:∀c b,(∀q∈b,∃j,q.1=id+N*j)->Rel (K c b) (K' c b)):Rel (Aka P shr N id t p K) (Aka P shr N id t p K'):=by
 unfold Aka;split
 ·refine Ajj hn fun ps=>Y3 hn fun _ _ hb=>hK _ _ fun q hq=>?_
  rcases List.mem_cons.1 hq with rfl|hq
  ·exact⟨0,by simp⟩
  ·obtain⟨j,hj⟩:=hb q hq;exact⟨j+1,by rw[hj,Nat.mul_add];omega⟩
 cases Cr P t
 ·exact Y3 hn fun _ _ hb=>B0 hn fun _ _ _=>Gn hn (hK _ _ hb)
 ·exact Mj hn fun _ _=>Y3 hn fun _ _ hb=>hK _ _ hb
theorem IK (hn:Rel none none){P:Program}{shr:Bool}{N:Nat}:∀{ts:List TypeId}{id:Nat}{ps:List PV}{K:List PV->List (Nat × Bx)->Option R} {K':List PV->List (Nat × Bx)->Option R'},(∀c b,(∀q∈b,∃j,q.1=id+N*j)->Rel (K c b) (K' c b))->Rel (JS P shr N id ts ps K) (JS P shr N id ts ps K')
 |[],_,_,_,_,hK=>Gn hn (hK _ _ (by simp))
 |t::_,id,_,_,_,hK=>B0 hn fun _ _ _=>Ant hn fun _ b hb=>IK hn fun _ bs OL=>hK _ _ fun q hq=>by
   rcases List.mem_append.1 hq with h|h
   ·exact hb q h
   ·obtain⟨j,hj⟩:=OL q h;exact⟨Adl P t+j,by rw[hj,Nat.mul_add];omega⟩
end
theorem X9 {p:PV}{i:Nat}(h:i∈Av p):i∈Cj p:=by cases p<;>first|exact h|simp[Av] at h
theorem Ho {p:PV}{i:Nat}(h:i∈Cj p):i∈B7 p:=by cases p<;>first|exact h|simp[Cj,Av] at h
theorem Nw {p:PV}{i:Nat}(h:i∈Av p):i∈B7 p:=Ho (X9 h)
section
variable {R R':Type} {Rel:Option R->Option R'->Prop} {P:Program} {N:Nat} {tm tm':Nat->PV} {f f' g g':Nat->Option (List PV)} {o:Oper}
theorem OC (hn:Rel none none){t:TypeId}{x:Operand}{K:PV->Option R}{K':PV->Option R'}(hx:Ct tm x=Ct tm' x)(hK:∀p,Rel (K p) (K' p)):Rel (ID P t tm x K) (ID P t tm' x K'):=by
 unfold ID;split
 ·exact At2 hn (fun _ _=>hK _) (fun _=>hK _)
 ·rw[hx];exact hK _
theorem An5 (hn:Rel none none){t:CT}{p:PV}{K:PV->Option R}{K':PV->Option R'}(hK:∀p,Av p=[]->Rel (K p) (K' p)):Rel (HJ t p K) (HJ t p K'):=by
 unfold HJ;split
 ·exact Km hn fun _=>hK _ rfl
 ·exact I2 hn fun _=>hK _ rfl
 ·exact H4 hn fun _=>hK _ rfl
 ·exact Hk hn fun _ _ _=>hK _ rfl
 ·exact Ahd hn fun _=>hK _ rfl
theorem WQ (hn:Rel none none):∀{ts:List CT}{cells:List PV}{off:Nat}{K:List PV->Option R}{K':List PV->Option R'},(∀c,(∀p∈c,Av p=[])->Rel (K c) (K' c))->Rel (Xk ts cells off K) (Xk ts cells off K')
 |[],_,_,_,_,hK=>hK _ (by simp)
 |_::_,_,_,_,_,hK=>An5 hn fun c hc=>WQ hn fun cs WX=>hK _ (by
   intro p hp;rcases List.mem_cons.1 hp with h|h
   ·rw[h];exact hc
   ·exact WX p h)
theorem ET (hn:Rel none none){t:TypeId}{K:List PV->Option R}{K':List PV->Option R'}(hK:∀c,(∀p∈c,Av p=[])->Rel (K c) (K' c)):Rel (I8 P t K) (I8 P t K'):=
 D9 hn fun _ _=>A8 hn fun _=>WQ hn hK
theorem X4 {p c:PV}(h:c∈cellsOf p){i:Nat}(hi:i∈Av c):i∈Cj p:=by
 unfold cellsOf at h;split at h
 ·exact List.mem_flatMap.2 ⟨c,h,hi⟩
 ·simp at h;subst h;exact X9 hi
theorem Af1 {cells new:List PV}{off:Nat}{c:PV}(h:c∈Bn cells new off):c∈cells∨c∈new:=by
 unfold Bn at h;rcases List.mem_append.1 h with h|h
 ·rcases List.mem_append.1 h with h|h
  ·exact .inl (List.mem_of_mem_take h)
  ·exact .inr h
 ·exact .inl (List.mem_of_mem_drop h)
theorem OB (hn:Rel none none){Ji:Nat->Option (Nat × Nat)} {S:Nat->Prop}:∀{ps:List (Nat × PV)} {cells:List PV}{K:List PV->Option R}{K':List PV->Option R'},(∀c∈cells,∀i∈Av c,S i)->(∀q∈ps,∀i∈Cj q.2,S i) ->
  (∀cs,(∀c∈cs,∀i∈Av c,S i)->Rel (K cs) (K' cs))->Rel (Xl Ji ps cells K) (Xl Ji ps cells K')
 |[],_,_,_,h1,_,hK=>hK _ h1
 |(_,p)::_,_,_,_,h1,h2,hK=>D9 hn fun _ _=>A8 hn fun _=>OB hn (fun c hc i hi=>by
   rcases Af1 hc with h|h
   ·exact h1 c h i hi
   ·exact h2 (_,p) List.mem_cons_self i (X4 h hi)) (fun q hq=>h2 q (List.mem_cons_of_mem _ hq)) hK
theorem KT (hn:Rel none none):∀{ts:List CT}{ps:List PV}{K:List PV->List Nat->Option R}{K':List PV->List Nat->Option R'},(∀t∈ts,∀es,t ≠ .sl es)->(∀c,Rel (K c []) (K' c []))->Rel (Ro g ts ps K) (Ro g' ts ps K')
 |[],[],_,_,_,hK=>hK _
 |[],_::_,_,_,_,_=>hn
 |_::_,[],_,_,_,_=>hn
 |t::ts,p::ps,K,K',ht,hK=>by
  show Rel (R2 g t p _) (R2 g' t p _)
  have:∀{g:Nat->Option (List PV)} {S:Type} {L:PV->List Nat->Option S},R2 g t p L=HJ t p fun c=>L c []:=by
   intro g S L;cases t with
   |sl es=>exact absurd rfl (ht _ (by simp) es)
   |_=>rfl
  rw[this,this];exact S6 hn fun c=>KT hn (fun t h=>ht t (by simp[h])) fun cs=>hK _
theorem Aoy (hn:Rel none none){es:Nat}{t:TypeId}{x:PV}{K:Nat->List PV->Option R}{K':Nat->List PV->Option R'}(hx:Agr Rel g g' (Av x)) (hK:∀m c,Rel (K m c) (K' m c)):Rel (Af3 P g es t x K) (Af3 P g' es t x K'):=by
 unfold Af3;split
 ·exact A8 hn fun _=>H4 hn fun _=>hK _ _
 ·exact FN hn hx hK
 ·exact hn
theorem Ann (hn:Rel none none){t:TypeId}{x:PV}{K:Nat->Option R}{K':Nat->Option R'}(hK:∀n,Rel (K n) (K' n)):Rel (Ali P t x K) (Ali P t x K'):=by
 unfold Ali;split
 ·exact Hk hn fun _ _ _=>A8 hn fun _=>hK _
 ·exact hn
theorem Abt (hn:Rel none none){d:Nat}{t tx:TypeId}{x:PV}{K:PV->List (Nat × Bx)->Option R} {K':PV->List (Nat × Bx)->Option R'} (hx:Agr Rel g g' (Av x)) (hK:∀v nw,Rel (K v nw) (K' v nw)):Rel (Y8 P g d t tx x K) (Y8 P g' d t tx x K'):=by
 unfold Y8;split
 ·exact A8 hn fun _=>Aoy hn hx fun _ _=>A8 hn fun _=>hK _ _
 ·exact hn
theorem OG (hn:Rel none none){C:I3}{call:Ah}{K:PV->List Nat->List (Nat × Bx)->Option R} {K':PV->List Nat->List (Nat × Bx)->Option R'}
  (Nd:∀x∈o.op.operands.toList,Ct tm x=Ct tm' x)
  (hfg:J5 P o.op=true->∀x∈o.op.operands.toList,∀i∈B7 (Ct tm' x),(f i=f' i∧g i=g' i)∨(f i=none∧g i=none∧∀b,Rel none b))
  (hK:∀v fz nw,(J5 P o.op=false->fz=[]∧∀q∈nw,o.dst=some q.1)->(∀i∈fz,g i≠none)->Rel (K v fz nw) (K' v fz nw)):
  Rel (PK C P N call tm f g o K) (PK C P N call tm' f' g' o K'):=by
 have h0:∀v,Rel (K v [] []) (K' v [] []):=fun v=>hK v [] [] (fun _=>⟨rfl,by simp⟩) (by simp)
 have hf:J5 P o.op=true->∀x∈o.op.operands.toList,Agr Rel f f' (B7 (Ct tm' x)):=fun h x hx i hi=>(hfg h x hx i hi).imp (·.1) fun h=>⟨h.1,h.2.2⟩
 have hg:J5 P o.op=true->∀x∈o.op.operands.toList,Agr Rel g g' (B7 (Ct tm' x)):=fun h x hx i hi=>(hfg h x hx i hi).imp (·.2) fun h=>⟨h.2.1,h.2.2⟩
 unfold PK;generalize hop:o.op=op at *
 split
 ·exact OC hn (Nd _ (by simp[Op.operands])) h0
 ·exact OC hn (Nd _ (by simp[Op.operands])) h0
 ·rename_i c x y;rw[Nd c (by simp[Op.operands]),Nd x (by simp[Op.operands]),Nd y (by simp[Op.operands])]
  exact I2 hn fun _=>NA (h0 _) (h0 _)
 ·exact D9 hn fun d hd=>Yo hn fun _=>hK _ _ _ (fun _=>⟨rfl,by simp[hd]⟩) (by simp)
 ·rename_i t x;rw[Nd x (by simp[Op.operands])]
  refine D9 hn fun d hd=>A8 hn fun _=>?_
  cases Yg P t
  ·exact Qp hn fun _=>hK _ _ _ (fun _=>⟨rfl,by simp[hd]⟩) (by simp)
  ·exact Uv hn fun _=>hK _ _ _ (fun _=>⟨rfl,by simp[hd]⟩) (by simp)
 ·rename_i t ps
  have:(ps.toList.map fun q=>(q.1,Ct tm q.2))=ps.toList.map fun q=>(q.1,Ct tm' q.2):=by
   apply List.map_congr_left;intro q hq;rw[Nd q.2 (by simp only[Op.operands];exact List.mem_map_of_mem hq)]
  rw[this];exact A8 hn fun _=>Yo hn fun _=>IL hn fun _=>Qp hn fun _=>h0 _
 ·rename_i t n ps
  have:(ps.toList.map fun q=>(q.1,Ct tm q.2))=ps.toList.map fun q=>(q.1,Ct tm' q.2):=by
   apply List.map_congr_left;intro q hq;rw[Nd q.2 (by simp only[Op.operands];exact List.mem_map_of_mem hq)]
  rw[this];refine D9 hn fun d hd=>?_
  split
  ·rename_i e hu;cases NN:Mn P [e]
   ·refine A8 hn fun _=>ET hn fun z hz=>IL hn fun cs=>KT hn ?_ fun cs'=>hK _ _ _ (fun _=>⟨rfl,by simp[hd]⟩) (by simp)
    intro c hc es he;obtain⟨l,hl,hc⟩:=List.mem_flatten.1 hc;rw[List.eq_of_mem_replicate hl] at hc;subst he
    have:Mn P [e]=true:=by
     unfold Mn;simp only[List.any_cons,List.any_nil,Bool.or_false,Bool.or_eq_true];exact .inr (List.any_eq_true.2 ⟨_,hc,rfl⟩)
    rw[this] at NN;cases NN
   refine A8 hn fun _=>ET hn fun z hz=>OB (S:=fun i=>∃x∈(Op.buildSlice t n ps).operands.toList,i∈B7 (Ct tm' x)) hn ?_ ?_ fun cs WX=>?_
   ·intro c hc i hi;obtain⟨l,hl,hc⟩:=List.mem_flatten.1 hc;rw[List.eq_of_mem_replicate hl] at hc;rw[hz c hc] at hi;simp at hi
   ·intro q hq i hi;obtain⟨q',Ht,rfl⟩:=List.mem_map.1 hq;exact⟨q'.2,by simp only[Op.operands];exact List.mem_map_of_mem Ht,Ho hi⟩
   ·refine Ys hn (fun i hi=>?_) fun cs' m hm=>hK _ _ _ (fun h=>by simp[J5,hu,NN] at h) hm
    obtain⟨c,hc,hi⟩:=List.mem_flatMap.1 hi;obtain⟨x,hx,hxi⟩:=WX c hc i hi;exact hg (by simp[J5,hu,NN]) x hx i hxi
  ·exact hn
 ·rename_i t x;rw[Nd x (by simp[Op.operands])]
  exact VT hn (fun i hi=>hfg (by simp[J5]) x (by simp[Op.operands]) i (Nw hi)) h0
 ·rename_i x;rw[Nd x (by simp[Op.operands])]
  exact HQ hn h0
 ·rename_i op' t x y _;rw[Nd x (by simp[Op.operands]),Nd y (by simp[Op.operands])]
  exact Acy hn h0
 ·rename_i op' t x;rw[Nd x (by simp[Op.operands])]
  exact Asc hn h0
 ·rename_i src dst x;rw[Nd x (by simp[Op.operands])]
  exact Alx hn (fun hds i hi=>hg (by simp[J5,hds]) x (by simp[Op.operands]) i (Nw hi)) fun v b hb=>D9 hn fun d hd=>hK _ _ _ (fun _=>⟨rfl,fun q hq=>by rw[hd,hb q hq,hd];rfl⟩) (by simp)
 ·rename_i t x y;rw[Nd x (by simp[Op.operands]),Nd y (by simp[Op.operands])]
  refine D9 hn fun d hd=>?_
  split
  ·exact Fe hn fun _ _=>Fe hn fun _ _=>A8 hn fun _=>Yo hn fun _=>hK _ _ _ (fun _=>⟨rfl,by simp[hd]⟩) (by simp)
  ·exact hn
 ·rename_i t x lo hi mx;split
  ·rw[Nd x (by simp[Op.operands])]
   have h1:lo.map (Ct tm)=lo.map (Ct tm'):=by
    cases lo with
    |none=>rfl
    |some y=>simp only[Option.map_some];rw[Nd y (by simp[Op.operands])]
   have h2:hi.map (Ct tm)=hi.map (Ct tm'):=by
    cases hi with
    |none=>rfl
    |some y=>simp only[Option.map_some];rw[Nd y (by simp[Op.operands])]
   rw[h1,h2];exact Ae0 hn (fun ⟨n,e,he⟩ i hi=>hf (by simp[J5,he]) x (by simp[Op.operands]) i (Nw hi)) h0
  ·rename_i m;rw[Nd x (by simp[Op.operands])]
   have h1:lo.map (Ct tm)=lo.map (Ct tm'):=by
    cases lo with
    |none=>rfl
    |some y=>simp only[Option.map_some];rw[Nd y (by simp[Op.operands])]
   have h2:hi.map (Ct tm)=hi.map (Ct tm'):=by
    cases hi with
    |none=>rfl
    |some y=>simp only[Option.map_some];rw[Nd y (by simp[Op.operands])]
   rw[h1,h2,Nd m (by simp[Op.operands])]
   exact D9 hn fun d hd=>Abu hn fun c=>hK _ _ _ (fun _=>⟨rfl,by simp[hd]⟩) (by simp)
 ·rename_i t x fl;rw[Nd x (by simp[Op.operands])]
  exact D9 hn fun _ _=>A8 hn fun _=>HQ hn h0
 ·rename_i t x fl;rw[Nd x (by simp[Op.operands])]
  exact D9 hn fun _ _=>A8 hn fun _=>Mj hn fun _ _=>Qp hn fun _=>GP hn h0
 ·rename_i t x i;rw[Nd x (by simp[Op.operands]),Nd i (by simp[Op.operands])]
  exact Fe hn fun _ _=>QQ hn h0
 ·rename_i t x i;rw[Nd x (by simp[Op.operands]),Nd i (by simp[Op.operands])]
  refine Fe hn fun _ _=>?_
  split
  ·exact H4 hn fun _=>A8 hn fun _=>D9 hn fun _ _=>h0 _
  ·exact Mj hn fun _ _=>A8 hn fun _=>Qp hn fun _=>GP hn h0
  ·exact hn
 ·rename_i x i;rw[Nd x (by simp[Op.operands])]
  split
  ·exact D9 hn fun _ _=>h0 _
  ·exact hn
 ·rename_i c
  have Ns:∀x∈c.args.toList,x∈(Op.call c).operands.toList:=by
   intro x hx;simp only[Op.operands,Call.operands,Array.toList_append,List.mem_append];exact .inr hx
  have rc:∀fn,J5 P (.call c)=true->Rel (RF C P N call tm g o c fn K) (RF C P N call tm' g' o c fn K'):=by
   intro fn hmm;unfold RF;have:c.args.toList.map (Ct tm)=c.args.toList.map (Ct tm'):=List.map_congr_left fun x hx=>Nd x (Ns x hx)
   rw[this];refine XH hn (fun i hi=>?_) fun vs m hm=>WD hn fun rv ro=>Gn hn (A8 hn fun _=>IK hn fun ws bs OL=>A8 hn fun _=>hK _ _ _ (fun h=>by rw[hmm] at h;cases h) (fun i hi=>?_))
   ·obtain⟨p,hp,hi⟩:=List.mem_flatMap.1 hi;obtain⟨x,hx,rfl⟩:=List.mem_map.1 hp;exact hg hmm x (Ns x hx) i (Ho hi)
   ·have hi':i∈m:=by
     cases hq:Mn P (Ru P o.type)<;>rw[hq] at hi
     ·simp at hi
     ·exact hi
    exact hm i hi'
  split
  ·refine B0 hn fun x _ hx=>B0 hn fun _ _ _=>?_
   rw[Nd x (Ns x (by rw[hx];simp))]
   exact Amn hn fun _=>h0 _
  ·refine B0 hn fun x _ hx=>B0 hn fun _ _ _=>?_
   rw[Nd x (Ns x (by rw[hx];simp))]
   exact Ann hn fun _=>h0 _
  ·refine B0 hn fun x _ hx=>B0 hn fun y _ hy=>Gn hn ?_
   subst hy;rw[Nd x (Ns x (by rw[hx];simp)),Nd y (Ns y (by rw[hx];simp))]
   exact Apf hn h0
  ·refine B0 hn fun x _ hx=>B0 hn fun y _ hy=>Gn hn ?_
   subst hy;rw[Nd x (Ns x (by rw[hx];simp)),Nd y (Ns y (by rw[hx];simp))]
   exact Aql hn h0
  ·rename_i hc;have hmm:J5 P (.call c)=true:=by simp[J5,hc]
   refine A8 hn fun _=>D9 hn fun d hd=>B0 hn fun _ _ hb=>B0 hn fun x _ hx=>Gn hn (B0 hn fun _ _ _=>B0 hn fun _ _ _=>?_)
   have hxm:x∈c.args.toList:=by rw[hb,hx];simp
   rw[Nd x (Ns x hxm)];exact Abt hn (fun i hi=>hg hmm x (Ns x hxm) i (Nw hi)) fun v nw=>hK _ _ _ (fun h=>by rw[hmm] at h;cases h) (by simp)
  ·rename_i fn hc;have hmm:J5 P (.call c)=true:=by simp[J5,hc]
   exact rc fn hmm
  ·rename_i t hc;have hmm:J5 P (.call c)=true:=by simp[J5,hc]
   have ht:=Nd (.tmp t) (by simp[Op.operands,Call.operands,hc])
   change tm t=tm' t at ht;rw[ht];exact Asi hn fun fn=>rc fn hmm
  ·exact hn
 ·exact hn
variable {hp:Nat->Option Bx}
end
open Go.RowKit
abbrev BT:=PV × List Nat × List (Nat × Bx)
def Hx (ops:Array Oper)(o:Oper)(tm:Nat->PV):Option Bool:=
 match o.guard with
 |none=>some true
 |some (j,want)=>
  match (ops[j]?).bind (·.dst) with
  |none=>none
  |some d=>
   match tm d with
   |.sc (.bool b)=>some (b==want)
   |.sc (.tuple _)=>some false
   |_=>none
section
variable {R:Type} {r:R} {C:I3} {P:Program} {N:Nat} {call:Ah} {ops:Array Oper} {o x:Oper} {s:St} {K:St->Option R}
theorem NE:Ee C P N call ops o s K=match Hx ops o s.tm with
  |none=>none
  |some true=>Adt C P N call o s K
  |some false=>Ar (Ih N o.dst) (K ⟨B8 s.tm o.dst (.sc undef),s.hp⟩):=by
 unfold Ee Hx;cases o.guard with
 |none=>rfl
 |some q=>
  obtain⟨j,want⟩:=q;cases hd:(ops[j]?).bind (·.dst) with
  |none=>simp[hd]
  |some d=>
   simp only[hd];cases ht:s.tm d with
   |sc v=>
    cases v with
    |bool b=>
     cases b<;>cases want<;>simp only[Bi,cond_true,cond_false,FQ s.tm ht]<;>rfl
    |_=>rfl
   |_=>rfl
def Ajn (C:I3)(P:Program)(N:Nat)(call:Ah)(o:Oper)(s:St):Option BT:=
 PK C P N call s.tm (rd s.hp) (M4 s.hp) o fun v fz nw=>some (v,fz,nw)
theorem Ats {K:PV->List Nat->List (Nat × Bx)->Option R}:PK C P N call s.tm (rd s.hp) (M4 s.hp) o K=(Ajn C P N call o s).bind fun q=>K q.1 q.2.1 q.2.2:=by
 refine OG (Rel:=fun (a:Option R) (b:Option BT)=>a=b.bind fun q=>K q.1 q.2.1 q.2.2) (K:=K) (K':=fun v fz nw=>some (v,fz,nw)) rfl (fun _ _=>rfl) (fun _ _ _ _ _=>.inl ⟨rfl,rfl⟩) fun v fz nw _ _=>rfl
theorem Afz {q:BT}(h:Ajn C P N call o s=some q):(J5 P o.op=false->q.2.1=[]∧∀p∈q.2.2,o.dst=some p.1)∧∀i∈q.2.1,M4 s.hp i≠none:=by
 have:=OG (C:=C) (P:=P) (N:=N) (call:=call) (o:=o) (tm:=s.tm) (tm':=s.tm) (f:=rd s.hp) (f':=rd s.hp) (g:=M4 s.hp) (g':=M4 s.hp)
  (Rel:=fun (a:Option BT)(_:Option BT)=>∀q,a=some q->(J5 P o.op=false->q.2.1=[]∧∀p∈q.2.2,o.dst=some p.1)∧∀i∈q.2.1,M4 s.hp i≠none)
  (K:=fun v fz nw=>some (v,fz,nw)) (K':=fun v fz nw=>some (v,fz,nw)) (fun _ h=>by cases h) (fun _ _=>rfl) (fun _ _ _ _ _=>.inl ⟨rfl,rfl⟩) (fun v fz nw h1 h2 q hq=>by cases hq;exact⟨h1,h2⟩)
 exact this q h
def gE (C:I3)(P:Program)(N:Nat)(call:Ah)(ops:Array Oper)(o:Oper)(s:St):Option BT:=
 match Hx ops o s.tm with
 |none=>none
 |some true=>bif Vl C P o.op then none else Ajn C P N call o s
 |some false=>some (.sc undef,[],[])
def I7 (C:I3)(P:Program)(ops:Array Oper)(o:Oper)(tm:Nat->PV):Bool:=Vl C P o.op&&(Hx ops o tm==some true)
theorem Nx (h:I7 C P ops o s.tm=false):Ee C P N call ops o s K=(gE C P N call ops o s).bind fun q=>HK N s o.dst q.1 q.2.1 q.2.2 K:=by
 rw[NE];unfold gE;unfold I7 at h;cases hv:Hx ops o s.tm with
 |none=>rfl
 |some b=>
  rw[hv] at h;cases b with
  |false=>
   show Ar _ _=HK N s o.dst (.sc undef) [] [] K;unfold HK;have h1:Ck s.hp []=true:=rfl;have h2:A6 (Ag s.hp []) []=s.hp:=rfl;rw[h1,h2,Bool.and_true]
  |true=>
   have hm:Vl C P o.op=false:=by simpa using h
   simp only[Adt,hm,cond_false];exact Ats
theorem Ld (h:I7 C P ops o s.tm=true):Ee C P N call ops o s K=Zu C P N call s o K:=by
 rw[NE];unfold I7 at h;simp only[Bool.and_eq_true,beq_iff_eq] at h;rw[h.2];simp only[Adt,h.1,cond_true]
theorem Xh {q:BT}(h:gE C P N call ops o s=some q):(J5 P o.op=false->q.2.1=[]∧∀p∈q.2.2,o.dst=some p.1)∧∀i∈q.2.1,M4 s.hp i≠none:=by
 unfold gE at h;split at h
 ·cases h
 ·cases hm:Vl C P o.op<;>rw[hm] at h
  ·exact Afz h
  ·cases h
 ·cases h;exact⟨fun _=>⟨rfl,by simp⟩,by simp⟩
theorem G8 {tm tm':Nat->PV}(h:∀t∈looks ops o,tm t=tm' t):∀y∈o.op.operands.toList,Ct tm y=Ct tm' y:=by
 intro y hy;cases y with
 |tmp t=>
  refine h t ?_;unfold looks Aqt;refine List.mem_append.2 (.inl (List.mem_filterMap.2 ⟨.tmp t,hy,rfl⟩))
 |const v=>cases v<;>rfl
 |func f=>rfl
 |«global» g=>rfl
theorem N9 {tm tm':Nat->PV}(h:∀t∈looks ops o,tm t=tm' t):Hx ops o tm=Hx ops o tm':=by
 unfold Hx;cases hg:o.guard with
 |none=>rfl
 |some q=>
  obtain⟨j,want⟩:=q;cases hd:(ops[j]?).bind (·.dst) with
  |none=>simp[hd]
  |some d=>
   have:tm d=tm' d:=h d (by
    unfold looks;rw[hg];refine List.mem_append.2 (.inr ?_);simp only[hd];simp)
   simp only[hd,this]
theorem FR {s':St}{q:BT}(ht:∀t∈looks ops o,s.tm t=s'.tm t)
  (hm:J5 P o.op=true->∀y∈o.op.operands.toList,∀i∈B7 (Ct s'.tm y),(rd s.hp i=rd s'.hp i∧M4 s.hp i=M4 s'.hp i)∨(rd s.hp i=none∧M4 s.hp i=none))
  (h:gE C P N call ops o s=some q):gE C P N call ops o s'=some q:=by
 unfold gE at h ⊢;rw[←N9 ht];split at h
 ·cases h
 ·cases hM:Vl C P o.op<;>rw[hM] at h
  ·have:=OG (C:=C) (P:=P) (N:=N) (call:=call) (o:=o) (tm:=s.tm) (tm':=s'.tm) (f:=rd s.hp) (f':=rd s'.hp) (g:=M4 s.hp) (g':=M4 s'.hp)
    (Rel:=fun (a b:Option BT)=>a=some q->b=some q)
    (K:=fun v fz nw=>some (v,fz,nw)) (K':=fun v fz nw=>some (v,fz,nw)) (fun h=>h) (G8 ht)
    (fun Qf y hy i hi=>(hm Qf y hy i hi).imp id fun h=>⟨h.1,h.2,fun _ h=>by cases h⟩) (fun v fz nw _ _ h=>h)
   exact this h
  ·cases h
 ·exact h
end
open Go.RowKit
theorem Ub:∀{nw:List (Nat × Bx)} {hp C1:Nat->Option Bx},Ck hp nw=true->(∀i b,(i,b)∈nw->C1 i=none)->Ck C1 nw=true
 |[],_,_,_,_=>rfl
 |(i,b)::nw,hp,C1,h,h'=>by
  simp only[Ck,Bool.and_eq_true,Option.isNone_iff_eq_none] at h ⊢;exact⟨⟨h' i b (by simp),h.1.2⟩,Ub h.2 fun j c hj=>h' j c (by simp[hj])⟩
section
variable {hp:Nat->Option Bx} {fz:List Nat} {nw:List (Nat × Bx)}
theorem H1 (ha:Ck hp nw=true){i:Nat}(hi:hp i≠none):A6 (Ag hp fz) nw i=if i∈fz then (hp i).map Yl else hp i:=by
 obtain⟨h1,h2⟩:=B5 ha;rw[(Fy h2).2 i (fun bx hb=>hi (h1 i bx hb)),Cn]
theorem Lm (ha:Ck hp nw=true){i:Nat}{b:Bx}(hi:(i,b)∈nw):A6 (Ag hp fz) nw i=some b:=
 (Fy (B5 ha).2).1 i b hi
theorem Qs (ha:Ck hp nw=true){i:Nat}(hi:hp i=none)(hn:∀b,(i,b) ∉ nw):A6 (Ag hp fz) nw i=none:=by
 rw[(Fy (B5 ha).2).2 i hn,Cn,hi];simp
theorem Rp (ha:Ck hp nw=true){i:Nat}(hi:hp i≠none):A6 (Ag hp fz) nw i≠none:=by
 rw[H1 ha hi];cases h:hp i with
 |none=>exact absurd h hi
 |some b=>split<;>simp
theorem Asw (b:Option Bx):(match b.map Yl with|some (.st c)=>some c|some (.ar _ c)=>some c|_=>none)=(match b with|some (.st c)=>some c|some (.ar _ c)=>some c|_=>none):=by
 cases b with
 |none=>rfl
 |some b=>cases b<;>rfl
theorem Ap1 (b:Option Bx):(match b.map Yl with|some (.ar _ c)=>some c|_=>none)=(match b with|some (.ar _ c)=>some c|_=>none):=by
 cases b with
 |none=>rfl
 |some b=>cases b<;>rfl
theorem Ac5 (ha:Ck hp nw=true){i:Nat}(hi:hp i≠none):rd (A6 (Ag hp fz) nw) i=rd hp i:=by
 unfold rd;rw[H1 ha hi];by_cases h:i∈fz
 ·rw[if_pos h];exact Asw _
 ·rw[if_neg h]
theorem WH (ha:Ck hp nw=true){i:Nat}(hi:hp i≠none):M4 (A6 (Ag hp fz) nw) i=M4 hp i:=by
 unfold M4;rw[H1 ha hi];by_cases h:i∈fz
 ·rw[if_pos h];exact Ap1 _
 ·rw[if_neg h]
theorem Ai5 {i:Nat}(hi:hp i=none):rd hp i=none:=by unfold rd;rw[hi]
theorem Oy {i:Nat}(hi:hp i=none):M4 hp i=none:=by unfold M4;rw[hi]
theorem A16 (b:Option Bx):(b.map Yl).map Yl=b.map Yl:=by
 cases b with
 |none=>rfl
 |some b=>cases b<;>rfl
theorem Ags {fx fo:List Nat}{nx no:List (Nat × Bx)} (hx:Ck hp nx=true)(ho:Ck (A6 (Ag hp fx) nx) no=true) (ho':Ck hp no=true)
  (Z6:Ck (A6 (Ag hp fo) no) nx=true) (h1:∀i∈fx,hp i≠none)(h2:∀i∈fo,hp i≠none):
  A6 (Ag (A6 (Ag hp fx) nx) fo) no=A6 (Ag (A6 (Ag hp fo) no) fx) nx:=by
 funext i
 by_cases hi:hp i=none
 ·by_cases hno:∃b,(i,b)∈no
  ·obtain⟨b,hb⟩:=hno
   have hnx:∀b',(i,b') ∉ nx:=fun b' Ip=>by
    have:=(B5 ho).1 i b hb;rw[Lm hx Ip] at this;cases this
   rw[Lm ho hb,H1 Z6 (by rw[Lm ho' hb];simp),Lm ho' hb,if_neg (fun h=>h1 i h hi)]
  ·have hno:∀b,(i,b) ∉ no:=fun b hb=>hno ⟨b,hb⟩
   by_cases hnx:∃b,(i,b)∈nx
   ·obtain⟨b,hb⟩:=hnx;rw[Lm Z6 hb,H1 ho (by rw[Lm hx hb];simp),Lm hx hb,if_neg (fun h=>h2 i h hi)]
   ·have hnx:∀b,(i,b) ∉ nx:=fun b hb=>hnx ⟨b,hb⟩
    rw[Qs ho (Qs hx hi hnx) hno,Qs Z6 (Qs ho' hi hno) hnx]
 ·rw[H1 ho (Rp hx hi),H1 hx hi,H1 Z6 (Rp ho' hi),H1 ho' hi];split<;>split<;>first|rfl|rw[A16]
end
section
variable {R:Type} {r:R} {C:I3} {P:Program} {N:Nat} {call:Ah} {ops:Array Oper} {o x:Oper} {s:St} {K:St->Option R}
structure EK (C:I3) (P:Program) (ops:Array Oper) (x o:Oper):Prop where
 xo:∀d,x.dst=some d->d ∉ looks ops o
 ne:∀d,x.dst=some d->o.dst≠some d
 ox:∀d,o.dst=some d->d ∉ looks ops x
 mx:Vl C P x.op=true->J5 P o.op=false
 mo:Vl C P o.op=true->J5 P x.op=false
theorem Wb {l:List Nat}{d:Nat}(h:l.any (Nat.beq d)=false):d ∉ l:=by
 intro hm;have:l.any (Nat.beq d)=true:=List.any_eq_true.2 ⟨d,hm,Nat.beq_refl d⟩;rw[this] at h;cases h
theorem Ank (h:QV C P ops x o=false):EK C P ops x o:=by
 unfold QV at h;simp only[Bool.or_eq_false_iff,Bool.and_eq_false_iff] at h;obtain⟨⟨⟨h1,h2⟩,h3⟩,h4⟩:=h;refine⟨fun d hd=>?_,fun d hd he=>?_,fun d hd=>?_,fun hm=>?_,fun hm=>?_⟩
 ·simp only[hd,Bool.or_eq_false_iff] at h1;exact Wb h1.1
 ·simp only[hd,he,Bool.or_eq_false_iff] at h1;rw[Nat.beq_refl] at h1;cases h1.2
 ·simp only[hd] at h2;exact Wb h2
 ·rw[hm] at h3;rcases h3 with h|h
  ·cases h
  ·exact h
 ·rw[hm] at h4;rcases h4 with h|h
  ·cases h
  ·exact h
theorem Ga {tm:Nat->PV}{d:Option Tmp}{v:PV}{l:List Nat}(h:∀i,d=some i->i ∉ l):∀t∈l,B8 tm d v t=tm t:=by
 intro t ht;cases d with
 |none=>rfl
 |some d=>exact Am _ _ (by rintro rfl;exact h _ rfl ht)
theorem Nq {tm:Nat->PV}{d e:Option Tmp}{u v:PV}(h:∀i,d=some i->e≠some i):B8 (B8 tm d u) e v=B8 (B8 tm e v) d u:=by
 cases d with
 |none=>rfl
 |some d=>
  cases e with
  |none=>rfl
  |some e=>exact Acv _ _ _ (by rintro rfl;exact h _ rfl rfl)
def Has (C:I3)(P:Program)(o:Oper)(s:St):Prop:=(∀y∈o.op.operands.toList,∀i∈B7 (Ct s.tm y),s.hp i≠none) ∧
 (Vl C P o.op=true->Qo o.op=false->∀y∈o.op.operands.toList,∀i∈B7 (Ct s.tm y),∀c,s.hp i=some (.st c)->∀p∈c,∀k∈Av p,s.hp k≠none)
theorem Jv {tm tm':Nat->PV}(h:∀t∈looks ops o,tm t=tm' t):I7 C P ops o tm=I7 C P ops o tm':=by
 unfold I7;rw[N9 h]
theorem Aic (hw:Has C P o s)(xo:∀d,x.dst=some d->d ∉ looks ops o)(ne:∀d,x.dst=some d->o.dst≠some d)(ox:∀d,o.dst=some d->d ∉ looks ops x)(hx:I7 C P ops x s.tm=false)(ho:I7 C P ops o s.tm=false)
  (h:Ee C P N call ops x s (fun s1=>Ee C P N call ops o s1 K)=some r):Ee C P N call ops o s (fun s1=>Ee C P N call ops x s1 K)=some r:=by
 rw[Nx hx] at h;cases ex:gE C P N call ops x s with
 |none=>rw[ex] at h;cases h
 |some q=>
 obtain⟨vx,fx,nx⟩:=q;rw[ex] at h;obtain⟨hb,h1⟩:=As h;simp only[Bool.and_eq_true] at hb;have t1:∀t∈looks ops o,B8 s.tm x.dst vx t=s.tm t:=Ga xo;change Ee C P N call ops o ⟨B8 s.tm x.dst vx,A6 (Ag s.hp fx) nx⟩ K=some r at h1;rw[Nx (by rw[Jv t1];exact ho)] at h1
 cases eo:gE C P N call ops o ⟨B8 s.tm x.dst vx,A6 (Ag s.hp fx) nx⟩ with
 |none=>rw[eo] at h1;cases h1
 |some q=>
 obtain⟨vo,fo,no⟩:=q;rw[eo] at h1;obtain⟨hc,h2⟩:=As h1;change K ⟨B8 (B8 s.tm x.dst vx) o.dst vo,A6 (Ag (A6 (Ag s.hp fx) nx) fo) no⟩=some r at h2;simp only[Bool.and_eq_true] at hc
 have eo':gE C P N call ops o s=some (vo,fo,no):=by
  refine FR t1 (fun _ y hy i hi=>?_) eo
  have:=hw.1 y hy i hi;exact .inl ⟨Ac5 hb.2 this,WH hb.2 this⟩
 have ho':Ck s.hp no=true:=Ub hc.2 fun i b hi=>by
  cases hs:s.hp i with
  |none=>rfl
  |some c=>exact absurd ((B5 hc.2).1 i b hi) (Rp hb.2 (by rw[hs];simp))
 rw[Nx ho,eo']
 have Z6:Ck (A6 (Ag s.hp fo) no) nx=true:=Ub hb.2 fun i b hi=>by
  refine Qs ho' ((B5 hb.2).1 i b hi) fun c Vo=>?_
  have:=(B5 hc.2).1 i c Vo;rw[Lm hb.2 hi] at this;cases this
 have t2:∀t∈looks ops x,s.tm t=B8 s.tm o.dst vo t:=fun t ht=>(Ga ox t ht).symm
 have ex':gE C P N call ops x ⟨B8 s.tm o.dst vo,A6 (Ag s.hp fo) no⟩=some (vx,fx,nx):=by
  refine FR t2 (fun _ y hy i hi=>?_) ex
  by_cases hs:s.hp i=none
  ·exact .inr ⟨Ai5 hs,Oy hs⟩
  ·exact .inl ⟨(Ac5 ho' hs).symm,(WH ho' hs).symm⟩
 show Ar _ _=_;rw[hc.1,ho'];show Ee C P N call ops x ⟨B8 s.tm o.dst vo,A6 (Ag s.hp fo) no⟩ K=some r;rw[Nx (by rw[←Jv t2];exact hx),ex']
 show Ar _ _=_;rw[hb.1,Z6];rw[←h2];have hfx:∀i∈fx,s.hp i≠none:=fun i hi hs=>(Xh ex).2 i hi (Oy hs)
 have hfo:∀i∈fo,s.hp i≠none:=fun i hi hs=>(Xh eo').2 i hi (Oy hs)
 show K ⟨B8 (B8 s.tm o.dst vo) x.dst vx,A6 (Ag (A6 (Ag s.hp fo) no) fx) nx⟩=K _;rw[Nq ne,Ags hb.2 hc.2 ho' Z6 hfx hfo]
end
open Go.RowKit
theorem FV {C:I3}{P:Program}{o:Op}(h:Vl C P o=true):J5 P o=true:=by
 unfold Vl at h;split at h
 ·rfl
 ·rename_i c;unfold J5;simp only;split at h<;>rename_i hc
  ·rw[hc]
  ·rw[hc]
  ·cases h
  ·rw[hc]
  ·cases h
 ·cases h
structure SX (N:Nat) (S:Nat->Prop) (dst:Option Nat) (hp Ej C1 G2:Nat->Option Bx):Prop where
 keep:∀i,hp i≠none->C1 i≠none
 off:∀i,i<N->dst≠some i->(¬S i∨hp i=none)->C1 i=hp i∧G2 i=Ej i
 same:∀i,hp i=Ej i->C1 i=G2 i
 far:∀i,¬S i->hp i≠none->C1 i=hp i
section
variable {R R':Type} {Rel:Option R->Option R'->Prop} {P:Program} {N:Nat} {tm tm':Nat->PV} {hp Ej:Nat->Option Bx} {f f':Nat->Option (List PV)} {o:Oper}
theorem VN (hn:Rel none none){t:CT}{p:PV}{K:PV->List Nat->Option R}{K':PV->List Nat->Option R'}(hf:Agr Rel f f' (Av p)) (hK:∀c m,(∀i∈m,f i≠none∧i∈Av p)->Rel (K c m) (K' c m)):Rel (R2 f t p K) (R2 f' t p K'):=by
 unfold R2;split
 ·split
  ·rename_i id es' off n;cases Nat.beq es' _
   ·exact hn
   ·exact FU hn hf (by simp[Av]) fun c hc=>A8 hn fun _=>hK _ _ (by simp[hc,Av])
  ·exact Hk hn fun _ _ _=>hK _ _ (by simp)
 ·exact S6 hn fun _=>hK _ _ (by simp)
theorem PN (hn:Rel none none):∀{ts:List CT}{ps:List PV}{K:List PV->List Nat->Option R}{K':List PV->List Nat->Option R'},Agr Rel f f' (ps.flatMap Av)->(∀c m,(∀i∈m,f i≠none∧i∈ps.flatMap Av)->Rel (K c m) (K' c m))->Rel (Ro f ts ps K) (Ro f' ts ps K')
 |[],[],_,_,_,hK=>hK _ _ (by simp)
 |[],_::_,_,_,_,_=>hn
 |_::_,[],_,_,_,_=>hn
 |_::_,p::ps,_,_,hf,hK=>VN hn (fun i hi=>hf i (by simp only[List.flatMap_cons,List.mem_append];exact .inl hi)) fun _ m hm=>PN hn (fun i hi=>hf i (by simp only[List.flatMap_cons,List.mem_append];exact .inr hi)) fun _ ms OK=>hK _ _ fun i hi=>by
   simp only[List.flatMap_cons,List.mem_append];rcases List.mem_append.1 hi with h|h
   ·exact⟨(hm i h).1,.inl (hm i h).2⟩
   ·exact⟨(OK i h).1,.inr (OK i h).2⟩
theorem Yz {S:Nat->Prop}{dst:Option Nat}{id:Nat}{b:Bx}{h0 h1:Nat->Option Bx}(hS:S id)(Bo:hp id≠none)(h:SX N S dst hp Ej h0 h1):SX N S dst hp Ej (Da h0 id (some b)) (Da h1 id (some b)):=by
 refine⟨fun i hi=>?_,fun i hN hd hi=>?_,fun i hi=>?_,fun i hn hi=>?_⟩
 ·by_cases e:i=id
  ·subst e;rw[Au];simp
  ·rw[Am _ _ e];exact h.keep i hi
 ·have e:i≠id:=by
   rintro rfl
   rcases hi with hi|hi
   ·exact hi hS
   ·exact Bo hi
  rw[Am _ _ e,Am _ _ e];exact h.off i hN hd hi
 ·by_cases e:i=id
  ·subst e;rw[Au,Au]
  ·rw[Am _ _ e,Am _ _ e];exact h.same i hi
 ·rw[Am _ _ (by rintro rfl;exact hn hS)];exact h.far i hn hi
theorem ZM {S:Nat->Prop}{d:Nat}{b:Bx}{h0 h1:Nat->Option Bx}(hz:hp d=none)(h:SX N S (some d) hp Ej h0 h1):SX N S (some d) hp Ej (Da h0 d (some b)) (Da h1 d (some b)):=by
 refine⟨fun i hi=>?_,fun i hN hd hi=>?_,fun i hi=>?_,fun i hn hi=>?_⟩
 ·by_cases e:i=d
  ·subst e;rw[Au];simp
  ·rw[Am _ _ e];exact h.keep i hi
 ·have e:i≠d:=by rintro rfl;exact hd rfl
  rw[Am _ _ e,Am _ _ e];exact h.off i hN hd hi
 ·by_cases e:i=d
  ·subst e;rw[Au,Au]
  ·rw[Am _ _ e,Am _ _ e];exact h.same i hi
 ·rw[Am _ _ (by rintro rfl;exact hi hz)];exact h.far i hn hi
theorem Xm (S:Nat->Prop)(dst:Option Nat):SX N S dst hp Ej hp Ej:=⟨fun _ h=>h,fun _ _ _ _=>⟨rfl,rfl⟩,fun _ h=>h,fun _ _ _=>rfl⟩
theorem Af8 {S:Nat->Prop}{dst:Option Nat}{m:List Nat}(hm:∀i∈m,hp i≠none∧S i):SX N S dst hp Ej (Ag hp m) (Ag Ej m):=by
 refine⟨fun i hi=>fun h=>hi (Ff.1 h),fun i hN hd hi=>?_,fun i hi=>?_,fun i hn hi=>?_⟩
 ·have e:i ∉ m:=by
   intro h;rcases hi with hi|hi
   ·exact hi (hm i h).2
   ·exact (hm i h).1 hi
  rw[Cn,Cn,if_neg e,if_neg e];exact⟨rfl,rfl⟩
 ·rw[Cn,Cn,hi]
 ·rw[Cn,if_neg (fun h=>hn (hm i h).2)]
theorem ZN {S:Nat->Prop}(h:∀i,S i->hp i=Ej i∨(hp i=none∧∀b,Rel none b)) {l:List Nat}(hl:∀i∈l,S i):Agr Rel (M4 hp) (M4 Ej) l:=by
 intro i hi;rcases h i (hl i hi) with h|⟨h,h'⟩
 ·left;unfold M4;rw[h]
 ·exact .inr ⟨Oy h,h'⟩
theorem Aca (hn:Rel none none){t:TypeId}{a x:PV}{K:St->Option R}{K':St->Option R'}{S:Nat->Prop}(hS:∀i,S i->hp i=Ej i∨(hp i=none∧∀b,Rel none b)) (ha:∀i∈Av a,S i)(hx:∀i∈Cj x,S i)
  (hK:∀C1 G2,SX N S none hp Ej C1 G2->Rel (K ⟨tm,C1⟩) (K' ⟨tm',G2⟩)):Rel (IR P ⟨tm,hp⟩ t a x K) (IR P ⟨tm',Ej⟩ t a x K'):=by
 unfold IR;split
 ·rename_i id off;show Rel (match hp id with|some (.st c)=>_|some (.ar false c)=>_|_=>none) (match Ej id with|some (.st c)=>_|some (.ar false c)=>_|_=>none)
  have Bo:S id:=ha id (by simp[Av])
  rcases hS id Bo with h|⟨h,hb⟩
  ·rw[←h];split
   ·rename_i c hc;exact A8 hn fun _=>Qp hn fun _=>hK _ _ (Yz Bo (by rw[hc];simp) (Xm _ _))
   ·rename_i c hc;refine A8 hn fun _=>PN hn (ZN hS fun i hi=>hx i ?_) fun _ m hm=>A8 hn fun _=>hK _ _ (Yz Bo (by rw[hc];simp) (Af8 fun i hi=>⟨fun h=>(hm i hi).1 (Oy h),hx i ?_⟩))
    ·obtain⟨c,hc,hi⟩:=List.mem_flatMap.1 hi;exact X4 hc hi
    ·obtain⟨c,hc,hi⟩:=List.mem_flatMap.1 (hm i hi).2;exact X4 hc hi
   ·exact hn
  ·rw[h];exact hb _
 ·exact hn
theorem IJ (hn:Rel none none){es:Nat}{t:TypeId}{x:PV}{K:Nat->List PV->Option R}{K':Nat->List PV->Option R'}{S:Nat->Prop}(hS:∀i,S i->hp i=Ej i∨(hp i=none∧∀b,Rel none b)) (hx:∀i∈Cj x,S i)(hK:∀m c,Rel (K m c) (K' m c)):Rel (Afo P ⟨tm,hp⟩ es t x K) (Afo P ⟨tm',Ej⟩ es t x K'):=by
 unfold Afo Af3;split
 ·exact A8 hn fun _=>H4 hn fun _=>hK _ _
 ·exact FN hn (ZN hS fun i hi=>hx i (X9 hi)) hK
 ·exact hn
theorem DZ (hn:Rel none none){d:Nat}{t tx:TypeId}{b x:PV}{K:St->Option R}{K':St->Option R'}{S:Nat->Prop}(hS:∀i,S i->hp i=Ej i∨(hp i=none∧∀b,Rel none b)) (hdd:hp d=Ej d)(hb:∀i∈Cj b,S i)(hx:∀i∈Cj x,S i)
  (hK:∀v C1 G2,(∀M,SX M S (some d) hp Ej C1 G2)->Rel (K ⟨Da tm d v,C1⟩) (K' ⟨Da tm' d v,G2⟩)):Rel (S3 P N ⟨tm,hp⟩ d t tx b x K) (S3 P N ⟨tm',Ej⟩ d t tx b x K'):=by
 unfold S3;split
 ·refine A8 hn fun _=>?_
  cases ED P tx
  rotate_left
  ·show Rel (Yh P N ⟨tm,hp⟩ d _ b x K) (Yh P N ⟨tm',Ej⟩ d _ b x K');refine Fe hn fun _ n=>Hk hn fun z _ _=>?_
   show Rel (Ar (z&&Nat.blt d N&&(hp d).isNone&&_&&_&&_) _) (Ar (z&&Nat.blt d N&&(Ej d).isNone&&_&&_&&_) _);rw[←hdd];exact A8 hn fun hb=>hK _ _ _ (fun M=>ZM (by simp only[Bool.and_eq_true,Option.isNone_iff_eq_none] at hb;simp only[hb]) (Xm _ _))
  rw[cond_false,cond_false];refine IJ hn hS hx fun m new=>?_
  split
  ·rename_i id es off n;show Rel (match hp id with|some (.ar false c)=>Ar (Nat.beq es _&&Nat.beq off 0&&Nat.blt d N&&(hp d).isNone&&_&&_&&_&&_) _|_=>none) (match Ej id with|some (.ar false c)=>Ar (Nat.beq es _&&Nat.beq off 0&&Nat.blt d N&&(Ej d).isNone&&_&&_&&_&&_) _|_=>none)
   have Bo:S id:=hb id (by simp[Cj,Av])
   rw[←hdd];rcases hS id Bo with h|⟨h,hbb⟩
   ·rw[←h];split
    ·rename_i c hc;exact A8 hn fun hb=>hK _ _ _ (fun M=>ZM (by simp only[Bool.and_eq_true,Option.isNone_iff_eq_none] at hb;simp only[hb]) (Yz Bo (by rw[hc];simp) (Xm _ _)))
    ·exact hn
   ·rw[h];exact hbb _
  ·refine Hk hn fun z _ _=>?_
   show Rel (Ar (z&&Nat.blt d N&&(hp d).isNone&&_&&_&&_) _) (Ar (z&&Nat.blt d N&&(Ej d).isNone&&_&&_&&_) _);rw[←hdd];exact A8 hn fun hb=>hK _ _ _ (fun M=>ZM (by simp only[Bool.and_eq_true,Option.isNone_iff_eq_none] at hb;simp only[hb]) (Xm _ _))
 ·exact hn
theorem Afm (hn:Rel none none){d:Option Tmp}{t tx:TypeId}{b x:PV}{K:St->Option R}{K':St->Option R'}{S:Nat->Prop}(hS:∀i,S i->hp i=Ej i∨(hp i=none∧∀b,Rel none b)) (hb:∀i∈Cj b,S i)(hx:∀i∈Cj x,S i)
  (hK:∀v C1 G2,SX N S d hp Ej C1 G2->Rel (K ⟨B8 tm d v,C1⟩) (K' ⟨B8 tm' d v,G2⟩)):Rel (UJ P N ⟨tm,hp⟩ d t tx b x K) (UJ P N ⟨tm',Ej⟩ d t tx b x K'):=by
 unfold UJ;split
 ·refine A8 hn fun _=>?_
  refine IJ hn hS hx fun m new=>?_
  split
  ·rename_i id es off n;show Rel (match hp id with|some (.ar false c)=>Ar (Nat.beq es _&&_&&_) _|_=>none) (match Ej id with|some (.ar false c)=>Ar (Nat.beq es _&&_&&_) _|_=>none)
   have Bo:S id:=hb id (by simp[Cj,Av])
   rcases hS id Bo with h|⟨h,hbb⟩
   ·rw[←h];split
    ·rename_i c hc;exact A8 hn fun _=>hK _ _ _ (Yz Bo (by rw[hc];simp) (Xm _ _))
    ·exact hn
   ·rw[h];exact hbb _
  ·exact hn
 ·exact hn
def Axe (o:Oper)(tm:Nat->PV)(i:Nat):Prop:=∃x∈o.op.operands.toList,i∈B7 (Ct tm x)
def BW (o:Oper)(tm:Nat->PV)(hp:Nat->Option Bx)(i:Nat):Prop:=Axe o tm i∨Qo o.op=false∧∃id c,Axe o tm id∧hp id=some (.st c)∧∃p∈c,i∈Av p
theorem Ak8 (hn:Rel none none){mv:Bool}{t:CT}{p:PV}{K:PV->List Nat->List Nat->Option R}{K':PV->List Nat->List Nat->Option R'}{S:Nat->Prop}(hS:∀i,S i->hp i=Ej i∨(hp i=none∧∀b,Rel none b)) (hp_:∀i∈Av p,S i)
  (hK:∀c m x,(∀i∈m++x,hp i≠none∧S i)->Rel (K c m x) (K' c m x)):Rel (Aje mv hp t p K) (Aje mv Ej t p K'):=by
 have frz:∀{t:CT} {p:PV},(∀i∈Av p,S i)->Rel (R2 (M4 hp) t p fun c m=>K c m []) (R2 (M4 Ej) t p fun c m=>K' c m []):=fun h=>VN hn (ZN hS h) fun c m hm=>hK _ _ _ fun i hi=>by
  rw[List.append_nil] at hi;exact⟨fun e=>(hm i hi).1 (Oy e),h i (hm i hi).2⟩
 unfold Aje;split
 ·rename_i es;cases mv<;>simp only[cond_true,cond_false]
  ·exact frz hp_
  ·split
   ·rename_i id es' off n;rcases hS id (hp_ id (by simp[Av])) with h|⟨h,hb⟩
    ·rw[←h];split
     ·rename_i c hc;cases (Nat.beq es' es&&Nat.beq off 0)<;>simp only[cond_true,cond_false]
      ·exact frz hp_
      ·exact A8 hn fun _=>hK _ _ _ fun i hi=>by
        simp only[List.nil_append,List.mem_singleton] at hi;subst hi;exact⟨by rw[hc];simp,hp_ i (by simp[Av])⟩
     ·exact frz hp_
    ·rw[h]
     have:(R2 (M4 hp) (.sl es) (.view id es' off n) fun c m=>K c m [])=none:=by
      unfold R2;simp only;cases Nat.beq es' es
      ·rfl
      ·simp only[cond_true,Oy h,F8]
     show Rel (R2 (M4 hp) (.sl es) (.view id es' off n) fun c m=>K c m []) _
     rw[this];exact hb _
   ·refine Hk hn fun z n c=>?_
    cases z
    ·exact hK _ _ _ (by simp)
    ·exact hK _ _ _ (by simp)
 ·exact S6 hn fun _=>hK _ _ _ (by simp)
theorem V5 (hn:Rel none none){mv:Bool}{S:Nat->Prop}(hS:∀i,S i->hp i=Ej i∨(hp i=none∧∀b,Rel none b)):∀{ts:List CT}{ps:List PV}{K:List PV->List Nat->List Nat->Option R}{K':List PV->List Nat->List Nat->Option R'},(∀p∈ps,∀i∈Av p,S i) ->
  (∀c m x,(∀i∈m++x,hp i≠none∧S i)->Rel (K c m x) (K' c m x))->Rel (KJ mv hp ts ps K) (KJ mv Ej ts ps K')
 |[],[],_,_,_,hK=>hK _ _ _ (by simp)
 |[],_::_,_,_,_,_=>hn
 |_::_,[],_,_,_,_=>hn
 |_::_,p::ps,_,_,hp_,hK=>Ak8 hn hS (hp_ p (by simp)) fun _ m x hm=>V5 hn hS (fun q hq=>hp_ q (by simp[hq])) fun _ ms xs OK=>hK _ _ _ fun i hi=>by
   simp only[List.mem_append] at hi hm OK;rcases hi with (hi|hi)|(hi|hi)
   ·exact hm i (.inl hi)
   ·exact OK i (.inl hi)
   ·exact hm i (.inr hi)
   ·exact OK i (.inr hi)
theorem Aaz (hn:Rel none none){C:I3}{f:FuncId}{i:Nat}{t:TypeId}{p:PV}{K:PV->List Nat->List Nat->List I1->Option R}{K':PV->List Nat->List Nat->List I1->Option R'}{S:Nat->Prop}(hS:∀i,S i->hp i=Ej i∨(hp i=none∧∀b,Rel none b))
  (hp_:∀i∈B7 p,S i)(hc:∀i∈B7 p,∀c,Ej i=some (.st c)->∀q∈c,∀k∈Av q,S k)
  (hK:∀v m x l,(∀i∈m++x++l.flatMap I1.ids,hp i≠none∧S i)->Rel (K v m x l) (K' v m x l)):Rel (GX C P f hp i t p K) (GX C P f Ej i t p K'):=by
 unfold GX;split
 ·split
  ·rename_i id off;have Bo:S id:=hp_ id (by simp[B7,Cj,Av])
   rcases hS id Bo with h|⟨h,hb⟩
   ·rw[h];split
    ·rename_i c hc1;refine A8 hn fun _=>V5 hn hS (fun q hq k hk=>hc id (by simp[B7,Cj,Av]) c hc1 q (List.mem_of_mem_drop (List.mem_of_mem_take hq)) k hk) fun cs m x hm=>hK _ _ _ _ fun k hk=>?_
     rcases List.mem_append.1 hk with hk|hk
     ·exact hm k hk
     ·simp only[List.flatMap_cons,List.flatMap_nil,I1.ids,List.append_nil,List.mem_singleton] at hk;subst hk;exact⟨by rw[h,hc1];simp,Bo⟩
    ·exact hn
   ·rw[h];exact hb _
  ·exact hn
 ·cases C.lnd f i
  ·cases Cr P t
   ·exact V5 hn hS (fun q hq k hk=>by
     simp at hq;subst hq;exact hp_ k (Nw hk)) fun cs m x hm=>B0 hn fun _ _ _=>Gn hn (hK _ _ _ _ (by simpa using hm))
   ·refine Mj hn fun cs WX=>V5 hn hS (fun q hq k hk=>hp_ k ?_) fun cs m x hm=>hK _ _ _ _ (by simpa using hm)
    subst WX;exact List.mem_flatMap.2 ⟨q,hq,hk⟩
  ·refine D9 hn fun e he=>?_
   unfold Arm;split
   ·rename_i id es' off n;have Bo:S id:=hp_ id (by simp[B7,Cj,Av])
    rcases hS id Bo with h|⟨h,hb⟩
    ·rw[h];split
     ·rename_i c hc1;refine A8 hn fun _=>hK _ _ _ _ fun k hk=>?_
      simp only[List.nil_append,List.flatMap_cons,List.flatMap_nil,I1.ids,List.append_nil,List.mem_singleton] at hk;subst hk;exact⟨by rw[h,hc1];simp,Bo⟩
     ·exact hn
    ·rw[h];exact hb _
   ·exact Hk hn fun _ _ _=>A8 hn fun _=>hK _ _ _ _ (by simp[I1.ids])
theorem QJ (hn:Rel none none){C:I3}{f:FuncId}{S:Nat->Prop}(hS:∀i,S i->hp i=Ej i∨(hp i=none∧∀b,Rel none b)):∀{ts:List TypeId}{ps:List PV}{i:Nat}{K:List PV->List Nat->List Nat->List I1->Option R}{K':List PV->List Nat->List Nat->List I1->Option R'},
  (∀p∈ps,∀i∈B7 p,S i)->(∀p∈ps,∀i∈B7 p,∀c,Ej i=some (.st c)->∀q∈c,∀k∈Av q,S k) ->
  (∀v m x l,(∀i∈m++x++l.flatMap I1.ids,hp i≠none∧S i)->Rel (K v m x l) (K' v m x l))->Rel (UY C P f hp i ts ps K) (UY C P f Ej i ts ps K')
 |[],[],_,_,_,_,_,hK=>hK _ _ _ _ (by simp)
 |[],_::_,_,_,_,_,_,_=>hn
 |_::_,[],_,_,_,_,_,_=>hn
 |_::_,p::ps,_,_,_,hp_,hc,hK=>Aaz hn hS (hp_ p (by simp)) (hc p (by simp)) fun _ m x l hm=>QJ hn hS (fun q hq=>hp_ q (by simp[hq])) (fun q hq=>hc q (by simp[hq])) fun _ ms xs ls OK=>hK _ _ _ _ fun i hi=>by
   simp only[List.mem_append,List.flatMap_append] at hi hm OK;rcases hi with ((hi|hi)|(hi|hi))|(hi|hi)
   ·exact hm i (.inl (.inl hi))
   ·exact OK i (.inl (.inl hi))
   ·exact hm i (.inl (.inr hi))
   ·exact OK i (.inl (.inr hi))
   ·exact hm i (.inr hi)
   ·exact OK i (.inr hi)
theorem Ao6 (hn:Rel none none){t:Nat}{ct:CT}{was p:PV}{K:Nat->PV->List (Nat × Bx)->Option R} {K':Nat->PV->List (Nat × Bx)->Option R'} (hK:∀t c b,(∀q∈b,∃k,q.1=nid N k)->Rel (K t c b) (K' t c b)):Rel (All N t ct was p K) (All N t ct was p K'):=by
 unfold All;split
 ·split
  ·exact Ah0 hn fun _ _=>hK _ _ _ (by intro q hq;simp only[List.mem_singleton] at hq;subst hq;exact⟨t,rfl⟩)
  ·exact Hk hn fun _ _ _=>hK _ _ _ (by simp)
 ·exact S6 hn fun _=>hK _ _ _ (by simp)
theorem WW (hn:Rel none none):∀{cts:List CT}{ws ps:List PV}{t:Nat}{K:Nat->List PV->List (Nat × Bx)->Option R} {K':Nat->List PV->List (Nat × Bx)->Option R'},(∀t c b,(∀q∈b,∃k,q.1=nid N k)->Rel (K t c b) (K' t c b))->Rel (XG N t cts ws ps K) (XG N t cts ws ps K')
 |[],[],_,_,_,_,hK=>Gn hn (hK _ _ _ (by simp))
 |[],_::_,_,_,_,_,_=>hn
 |_::_,[],_,_,_,_,_=>hn
 |_::_,_::_,_,_,_,_,hK=>B0 hn fun _ _ _=>Ao6 hn fun _ _ b hb=>WW hn fun _ _ bs OL=>hK _ _ _ fun q hq=>by
   rcases List.mem_append.1 hq with h|h
   ·exact hb q h
   ·exact OL q h
theorem Zh (hn:Rel none none){S:Nat->Prop}{dst:Option Nat}:∀{l:List I1}{ro:List (List PV)} {t:Nat}{h0 h1:Nat->Option Bx}{K:(Nat->Option Bx)->List (Nat × Bx)->Option R} {K':(Nat->Option Bx)->List (Nat × Bx)->Option R'},
  SX N S dst hp Ej h0 h1->(∀i∈l.flatMap I1.ids,hp i≠none∧S i∧hp i=Ej i)->(∀h0' VE b,SX N S dst hp Ej h0' VE->(∀q∈b,∃k,q.1=nid N k)->Rel (K h0' b) (K' VE b))->Rel (BM N t l ro h0 K) (BM N t l ro h1 K')
 |[],_,_,_,_,_,_,hT,_,hK=>Gn hn (hK _ _ _ hT (by simp))
 |.var id off cts ws::l,ro,t,h0,h1,K,K',hT,hl,hK=>by
  unfold BM;refine B0 hn fun cs ro _=>WW hn fun t' cs' bs OL=>?_
  have Bo:=hl id (by simp[I1.ids])
  rw[←hT.same id Bo.2.2];split
  ·exact Zh hn (Yz Bo.2.1 Bo.1 hT) (fun i hi=>hl i (by simp only[List.flatMap_cons,List.mem_append];exact .inr hi)) fun h0' VE b hT' hb=>hK _ _ _ hT' fun q hq=>by
    rcases List.mem_append.1 hq with h|h
    ·exact OL q h
    ·exact hb q h
  ·exact hn
 |.row id::l,ro,t,h0,h1,K,K',hT,hl,hK=>by
  unfold BM;have Bo:=hl id (by simp[I1.ids])
  exact B0 hn fun cs ro _=>Zh hn (Yz Bo.2.1 Bo.1 hT) (fun i hi=>hl i (by simp only[List.flatMap_cons,List.mem_append];exact .inr hi)) hK
 |.none::l,ro,t,h0,h1,K,K',hT,hl,hK=>by
  unfold BM;exact B0 hn fun cs ro _=>Zh hn hT (fun i hi=>hl i (by simp only[List.flatMap_cons,List.mem_append];exact .inr hi)) hK
theorem Ab9 (h:∀i,N<=i->hp i=Ej i)(hN:0<N):∀k t,Abl N hp k t=Abl N Ej k t
 |0,_=>rfl
 |k+1,t=>by
  unfold Abl;rw[h (nid N t) (by unfold nid;exact Nat.le_mul_of_pos_right _ (by omega)),Ab9 h hN k (t+1)]
theorem UO {h0 h1:Nat->Option Bx}:∀{nw:List (Nat × Bx)},(∀q∈nw,h0 q.1=h1 q.1)->Ck h0 nw=Ck h1 nw
 |[],_=>rfl
 |(i,b)::nw,h=>by
  unfold Ck;rw[h (i,b) (by simp),UO (fun q hq=>h q (by simp[hq]))]
theorem OA {S:Nat->Prop}{dst:Option Nat}{h0 h1:Nat->Option Bx}(hT:SX N S dst hp Ej h0 h1):∀{nw:List (Nat × Bx)} {g0 g1:Nat->Option Bx},SX N S dst hp Ej g0 g1->(∀q∈nw,N<=q.1∨dst=some q.1)->(∀q∈nw,hp q.1=none)->SX N S dst hp Ej (A6 g0 nw) (A6 g1 nw)
 |[],_,_,h,_,_=>h
 |(i,b)::nw,g0,g1,h,hi,hz=>by
  refine OA hT (nw:=nw) ⟨fun k hk=>?_,fun k hN hd hk=>?_,fun k hk=>?_,fun k hn hk=>?_⟩ (fun q hq=>hi q (by simp[hq])) (fun q hq=>hz q (by simp[hq]))
  ·by_cases e:k=i
   ·subst e;rw[Au];simp
   ·rw[Am _ _ e];exact h.keep k hk
  ·have e:k≠i:=by
    rintro rfl
    rcases hi (k,b) (by simp) with q|q
    ·simp only at q;omega
    ·exact hd q
   rw[Am _ _ e,Am _ _ e];exact h.off k hN hd hk
  ·by_cases e:k=i
   ·subst e;rw[Au,Au]
   ·rw[Am _ _ e,Am _ _ e];exact h.same k hk
  ·rw[Am _ _ (by rintro rfl;exact hk (hz (k,b) (by simp)))];exact h.far k hn hk
theorem Aze {S:Nat->Prop}{dst:Option Nat}{m x:List Nat}(hm:∀i∈m++x,hp i≠none∧S i):SX N S dst hp Ej (X3 (Ag hp m) x) (X3 (Ag Ej m) x):=by
 refine⟨fun i hi h=>?_,fun i hN hd hi=>?_,fun i hi=>?_,fun i hn hi=>?_⟩
 ·rw[H9] at h;have h1:Ag hp m i≠none:=fun e=>hi (Ff.1 e)
  split at h
  ·cases hq:Ag hp m i with
   |none=>exact h1 hq
   |some b=>rw[hq] at h;cases h
  ·exact h1 h
 ·have e:i ∉ m∧i ∉ x:=by
   refine⟨fun h=>?_,fun h=>?_⟩<;>(rcases hi with hi|hi)
   ·exact hi (hm i (by simp[h])).2
   ·exact (hm i (by simp[h])).1 hi
   ·exact hi (hm i (by simp[h])).2
   ·exact (hm i (by simp[h])).1 hi
  rw[H9,H9,if_neg e.2,if_neg e.2,Cn,Cn,if_neg e.1,if_neg e.1];exact⟨rfl,rfl⟩
 ·rw[H9,H9,Cn,Cn,hi]
 ·rw[H9,Cn,if_neg (fun h=>hn (hm i (by simp[h])).2),if_neg (fun h=>hn (hm i (by simp[h])).2)]
theorem Acs (hn:Rel none none){C:I3}{call:Ah}{f:FuncId}{c:Call}{K:St->Option R}{K':St->Option R'}{S:Nat->Prop}(Nd:c.args.toList.map (Ct tm)=c.args.toList.map (Ct tm')) (hS:∀i,S i->hp i=Ej i∨(hp i=none∧∀b,Rel none b))
  (hp_:∀p∈c.args.toList.map (Ct tm'),∀i∈B7 p,S i) (hc:∀p∈c.args.toList.map (Ct tm'),∀i∈B7 p,∀c,Ej i=some (.st c)->∀q∈c,∀k∈Av q,S k)
  (hdd:∀d,o.dst=some d->hp d=Ej d)(hNN:∀i,N<=i->hp i=Ej i)
  (hK:∀v C1 G2,SX N S o.dst hp Ej C1 G2->Rel (K ⟨B8 tm o.dst v,C1⟩) (K' ⟨B8 tm' o.dst v,G2⟩)):Rel (IU C P N call ⟨tm,hp⟩ o f c K) (IU C P N call ⟨tm',Ej⟩ o f c K'):=by
 unfold IU;simp only[Nd];refine QJ hn hS hp_ hc fun vs m x l hm=>A8 hn fun hb=>WD hn fun rv ro=>IK hn fun ws bs OL=>A8 hn fun _=>?_
 simp only[Bool.and_eq_true] at hb;have hN:0<N:=Nat.lt_of_succ_le (Nat.le_of_ble_eq_true hb.1.2);rw[Ab9 hNN hN];by_cases Amq:∃i∈l.flatMap I1.ids,hp i≠Ej i
 ·obtain⟨i,hi,F9⟩:=Amq;obtain⟨h1,h2⟩:=hm i (List.mem_append.2 (.inr hi));rcases hS i h2 with h|⟨h,_⟩
  ·exact absurd h F9
  ·exact absurd h h1
 have hl:∀i∈l.flatMap I1.ids,hp i≠none∧S i∧hp i=Ej i:=fun i hi=>⟨(hm i (List.mem_append.2 (.inr hi))).1,(hm i (List.mem_append.2 (.inr hi))).2,Classical.byContradiction fun h=>Amq ⟨i,hi,h⟩⟩
 have hT0:SX N S o.dst hp Ej (X3 (Ag hp m) x) (X3 (Ag Ej m) x):=Aze fun i hi=>hm i (List.mem_append.2 (.inl hi))
 refine Zh hn hT0 hl fun h0 h1 bs' hT A8f=>?_
 have Aj9:∀q∈bs++bs',N<=q.1∨o.dst=some q.1:=by
  intro q hq;rcases List.mem_append.1 hq with hq|hq
  ·obtain⟨j,hj⟩:=OL q hq;cases hd:o.dst with
   |none=>
    rw[hd] at hj;left;rw[hj];exact Nat.le_add_right _ _
   |some d=>
    rw[hd] at hj;change q.1=d+N*j at hj;cases j with
    |zero=>right;rw[hj];simp
    |succ j=>left;rw[hj,Nat.mul_add];omega
  ·obtain⟨k,hk⟩:=A8f q hq;left;rw[hk];unfold nid;exact Nat.le_mul_of_pos_right _ (by omega)
 have Wi:∀q∈bs++bs',h0 q.1=h1 q.1:=by
  intro q hq;refine hT.same q.1 ?_;rcases Aj9 q hq with h|h
  ·exact hNN _ h
  ·exact hdd _ h
 rw[UO Wi]
 exact A8 hn fun hb=>hK _ _ _ (OA hT hT Aj9 fun q hq=>by
  cases hz:hp q.1 with
  |none=>rfl
  |some c=>exact absurd ((Wi q hq).trans ((B5 hb).1 q.1 q.2 hq)) (hT.keep q.1 (by rw[hz];simp)))
theorem Nh (hn:Rel none none){C:I3}{call:Ah}{K:St->Option R}{K':St->Option R'}(Nd:∀x∈o.op.operands.toList,Ct tm x=Ct tm' x)
  (hS:∀i,BW o tm' Ej i->hp i=Ej i∨(hp i=none∧∀b,Rel none b)) (hdd:∀d,o.dst=some d->hp d=Ej d)(hNN:∀i,N<=i->hp i=Ej i)
  (hK:∀v C1 G2,SX N (BW o tm' Ej) o.dst hp Ej C1 G2->Rel (K ⟨B8 tm o.dst v,C1⟩) (K' ⟨B8 tm' o.dst v,G2⟩)):Rel (Zu C P N call ⟨tm,hp⟩ o K) (Zu C P N call ⟨tm',Ej⟩ o K'):=by
 unfold Zu;have hl:∀x∈o.op.operands.toList,∀i∈B7 (Ct tm' x),BW o tm' Ej i:=fun x hx i hi=>.inl ⟨x,hx,hi⟩
 have LZ:Qo o.op=false->∀x∈o.op.operands.toList,∀i∈B7 (Ct tm' x),∀c,Ej i=some (.st c)->∀q∈c,∀k∈Av q,BW o tm' Ej k:=fun ha x hx i hi c hc q hq k hk=>.inr ⟨ha,i,c,⟨x,hx,hi⟩,hc,q,hq,hk⟩
 generalize hLd:BW o tm' Ej=S at *
 generalize hop:o.op=op at *
 split
 ·rename_i t x y;simp only[Nd x (by simp[Op.operands]),Nd y (by simp[Op.operands])]
  refine A8 hn fun hd=>Aca (N:=N) hn hS (fun i hi=>hl x (by simp[Op.operands]) i (Nw hi)) (fun i hi=>hl y (by simp[Op.operands]) i (Ho hi)) fun C1 G2 hh=>?_
  have hd':=Option.isNone_iff_eq_none.1 hd;have:=hK .top C1 G2 (by rw[hd'];exact hh)
  rw[hd'] at this;exact this
 ·rename_i c
  have Ns:∀x∈c.args.toList,x∈(Op.call c).operands.toList:=by
   intro x hx;simp only[Op.operands,Call.operands,Array.toList_append,List.mem_append];exact .inr hx
  split
  ·rename_i hc;refine D9 hn fun d hd=>B0 hn fun x _ hx=>B0 hn fun y _ hy=>Gn hn (B0 hn fun _ _ _=>B0 hn fun _ _ _=>?_)
   subst hy;have hxm:=Ns x (by rw[hx];simp)
   have hym:=Ns y (by rw[hx];simp)
   simp only[Nd x hxm,Nd y hym];refine DZ hn hS (hdd d hd) (fun i hi=>hl x hxm i (Ho hi)) (fun i hi=>hl y hym i (Ho hi)) fun v C1 G2 hh=>?_
   have:=hK v C1 G2 (by rw[hd];exact hh N)
   rw[hd] at this;exact this
  ·rename_i hc;refine B0 hn fun x _ hx=>B0 hn fun y _ hy=>Gn hn (B0 hn fun _ _ _=>B0 hn fun _ _ _=>?_)
   subst hy;have hxm:=Ns x (by rw[hx];simp)
   have hym:=Ns y (by rw[hx];simp)
   simp only[Nd x hxm,Nd y hym];exact Afm hn hS (fun i hi=>hl x hxm i (Ho hi)) (fun i hi=>hl y hym i (Ho hi)) hK
  ·rename_i f hcf;refine Acs hn (List.map_congr_left fun x hx=>Nd x (Ns x hx)) hS (fun p hp i hi=>?_) (fun p hp i hi=>?_) hdd hNN hK
   ·obtain⟨x,hx,rfl⟩:=List.mem_map.1 hp;exact hl x (Ns x hx) i hi
   ·obtain⟨x,hx,rfl⟩:=List.mem_map.1 hp;exact LZ (by simp only[Qo,hcf]) x (Ns x hx) i hi
  ·exact hn
 ·exact hn
theorem PZ (hn:Rel none none){C:I3}{call:Ah}{K:St->Option R}{K':St->Option R'}(Nd:∀x∈o.op.operands.toList,Ct tm x=Ct tm' x)(hK:∀v C1,(∀i,hp i≠none->C1 i≠none)->Rel (K ⟨B8 tm o.dst v,C1⟩) (K' ⟨B8 tm' o.dst v,C1⟩)):Rel (Zu C P N call ⟨tm,hp⟩ o K) (Zu C P N call ⟨tm',hp⟩ o K'):=
 Nh hn Nd (fun _ _=>.inl rfl) (fun _ _=>rfl) (fun _ _=>rfl) fun v C1 G2 hT=>by
  have:C1=G2:=funext fun i=>hT.same i rfl
  subst this;exact hK v C1 hT.keep
end
section
variable {R:Type} {r:R} {C:I3} {P:Program} {N:Nat} {call:Ah} {ops:Array Oper} {o x:Oper} {s:St} {K:St->Option R}
theorem ZH {tm:Nat->PV}{hp C1:Nat->Option Bx}{tm':Nat->PV}{q:BT}(hm:J5 P o.op=false)(ht:∀t∈looks ops o,tm t=tm' t)(h:gE C P N call ops o ⟨tm,hp⟩=some q):gE C P N call ops o ⟨tm',C1⟩=some q:=
 FR (s:=⟨tm,hp⟩) (s':=⟨tm',C1⟩) ht (fun h=>by rw[hm] at h;cases h) h
theorem HX {tm:Nat->PV}{hp:Nat->Option Bx}(hm:J5 P o.op=false)(h:Ee C P N call ops o ⟨tm,hp⟩ K=some r):
  ∃v nw,gE C P N call ops o ⟨tm,hp⟩=some (v,[],nw)∧Ih N o.dst=true∧Ck hp nw=true∧(∀p∈nw,o.dst=some p.1)∧K ⟨B8 tm o.dst v,A6 hp nw⟩=some r:=by
 have hM:Vl C P o.op=false:=by
  cases hh:Vl C P o.op
  ·rfl
  ·rw[FV hh] at hm;cases hm
 rw[Nx (by simp[I7,hM])] at h
 cases e:gE C P N call ops o ⟨tm,hp⟩ with
 |none=>rw[e] at h;cases h
 |some q=>
  obtain⟨v,fz,nw⟩:=q;obtain⟨h1,h2⟩:=(Xh e).1 hm;simp only at h1 h2;subst h1;rw[e] at h;obtain⟨hb,h⟩:=As h;simp only[Bool.and_eq_true] at hb;exact⟨v,nw,rfl,hb.1,hb.2,h2,h⟩
theorem RL {tm:Nat->PV}{hp:Nat->Option Bx}{v:PV}{nw:List (Nat × Bx)} (hm:J5 P o.op=false)(e:gE C P N call ops o ⟨tm,hp⟩=some (v,[],nw)) (hd:Ih N o.dst=true)(ha:Ck hp nw=true)(h:K ⟨B8 tm o.dst v,A6 hp nw⟩=some r):Ee C P N call ops o ⟨tm,hp⟩ K=some r:=by
 have hM:Vl C P o.op=false:=by
  cases hh:Vl C P o.op
  ·rfl
  ·rw[FV hh] at hm;cases hm
 rw[Nx (by simp[I7,hM]),e]
 show Ar _ _=_;have ha':Ck hp nw=true:=ha;rw[hd,ha'];exact h
theorem Pz {hp:Nat->Option Bx}{nw:List (Nat × Bx)} (ha:Ck hp nw=true){i:Nat}(hi:∀p∈nw,p.1≠i):A6 hp nw i=hp i:=
 (Fy (B5 ha).2).2 i fun b hb=>hi _ hb rfl
theorem Am5 {hp C1:Nat->Option Bx}{nw:List (Nat × Bx)} (ha:Ck hp nw=true){g:Nat->Option Bx}(h1:∀i,(∀p∈nw,p.1≠i)->g i=C1 i) (h2:∀i,(∃p∈nw,p.1=i)->g i=A6 hp nw i) (ha':Ck C1 nw=true):g=A6 C1 nw:=by
 funext i
 by_cases h:∃p∈nw,p.1=i
 ·rw[h2 i h];obtain⟨⟨j,b⟩,hp,rfl⟩:=h;rw[(Fy (B5 ha).2).1 j b hp,(Fy (B5 ha').2).1 j b hp]
 ·have h':∀p∈nw,p.1≠i:=fun p hp e=>h ⟨p,hp,e⟩
  rw[h1 i h',Pz ha' h']
theorem As6 (ap:EK C P ops x o)(hx:I7 C P ops x s.tm=true)
  (h:Ee C P N call ops x s (fun s1=>Ee C P N call ops o s1 K)=some r):Ee C P N call ops o s (fun s1=>Ee C P N call ops x s1 K)=some r:=by
 have hm:J5 P o.op=false:=ap.mx (by unfold I7 at hx;simp only[Bool.and_eq_true] at hx;exact hx.1)
 rw[Ld hx] at h;obtain⟨tm,hp⟩:=s;have look:∀v,∀t∈looks ops o,B8 tm x.dst v t=tm t:=fun v=>Ga ap.xo
 have h1:=Nh (P:=P) (N:=N) (o:=x) (tm:=tm) (tm':=tm) (hp:=hp) (Ej:=hp) (K:=fun s1=>Ee C P N call ops o s1 K) (K':=fun _=>none)
  (Rel:=fun (a:Option R)(_:Option R)=>a=some r->∃v nw,gE C P N call ops o ⟨tm,hp⟩=some (v,[],nw)∧Ih N o.dst=true∧(∀p∈nw,o.dst=some p.1)∧Ck hp nw=true) (fun h=>by cases h) (fun _ _=>rfl) (fun _ _=>.inl rfl) (fun _ _=>rfl) (fun _ _=>rfl) (fun v C1 _ hT h=>by
   obtain⟨u,nw,hu,hd,ha,hn,_⟩:=HX hm h;refine⟨u,nw,ZH hm (look v) hu,hd,hn,Ub ha fun i b hi=>?_⟩
   cases hh:hp i with
   |none=>rfl
   |some c=>exact absurd ((B5 ha).1 i b hi) (hT.keep i (by rw[hh];simp))) h
 obtain⟨v,nw,hv,hd,hn,ha⟩:=h1;refine RL hm hv hd ha ?_;have t2:∀t∈looks ops x,tm t=B8 tm o.dst v t:=fun t ht=>(Ga ap.ox t ht).symm
 rw[Ld (by rw[←Jv t2];exact hx)]
 refine Nh (P:=P) (N:=N) (o:=x) (tm:=tm) (tm':=B8 tm o.dst v) (hp:=hp) (Ej:=A6 hp nw) (Rel:=fun (a b:Option R)=>a=some r->b=some r) (fun h=>by cases h) (G8 t2) (fun i _=>?_) (fun d hxd=>?_) (fun i hi=>(Pz ha fun p hp e=>by have:=Uo hd (hn p hp);omega).symm) (fun u C1 G2 hT h=>?_) h
 ·by_cases hi:∃p∈nw,p.1=i
  ·obtain⟨⟨j,b⟩,Ej,rfl⟩:=hi;exact .inr ⟨(B5 ha).1 j b Ej,fun _ h=>by cases h⟩
  ·exact .inl (Pz ha fun p hp e=>hi ⟨p,hp,e⟩).symm
 ·refine (Pz ha fun p hp e=>?_).symm
  have:=hn p hp;rw[e] at this;exact ap.ne d hxd this
 ·obtain⟨v',nw',Sh,_,ha',_,h'⟩:=HX hm h;have he:=ZH (C1:=hp) hm (look u) Sh;rw[hv] at he;simp only[Option.some.injEq,Prod.mk.injEq,true_and] at he;obtain⟨rfl,rfl⟩:=he
  have hh:G2=A6 C1 nw:=by
   refine Am5 ha (fun i hi=>?_) (fun i hi=>?_) ha'
   ·exact (hT.same i (Pz ha hi).symm).symm
   ·obtain⟨⟨j,b⟩,Ej,rfl⟩:=hi;refine (hT.off j (Uo hd (hn _ Ej)) (fun e=>ap.ne j e (hn _ Ej)) (.inr ((B5 ha).1 j b Ej))).2
  rw[hh,←Nq ap.ne];exact h'
theorem Atb (hw:Has C P o s)(ap:EK C P ops x o)(ho:I7 C P ops o s.tm=true)
  (h:Ee C P N call ops x s (fun s1=>Ee C P N call ops o s1 K)=some r):Ee C P N call ops o s (fun s1=>Ee C P N call ops x s1 K)=some r:=by
 have hm:J5 P x.op=false:=ap.mo (by unfold I7 at ho;simp only[Bool.and_eq_true] at ho;exact ho.1)
 obtain⟨tm,hp⟩:=s;obtain⟨v,nw,hv,hd,ha,hn,h1⟩:=HX hm h;have t1:∀t∈looks ops o,B8 tm x.dst v t=tm t:=Ga ap.xo;change Ee C P N call ops o ⟨B8 tm x.dst v,A6 hp nw⟩ K=some r at h1;rw[Ld (by rw[Jv t1];exact ho)] at h1
 rw[Ld ho];have hMo:Vl C P o.op=true:=by unfold I7 at ho;simp only[Bool.and_eq_true] at ho;exact ho.1
 have Axf:∀i,BW o tm hp i->hp i≠none:=by
  rintro i (⟨y,hy,hi⟩|⟨Xf,id,c,⟨y,hy,hi⟩,hc,p,Ej,hk⟩)
  ·exact hw.1 y hy i hi
  ·exact hw.2 hMo Xf y hy id hi c hc p Ej i hk
 refine Nh (P:=P) (N:=N) (o:=o) (tm:=B8 tm x.dst v) (tm':=tm) (hp:=A6 hp nw) (Ej:=hp) (Rel:=fun (a b:Option R)=>a=some r->b=some r) (fun h=>by cases h) (G8 t1) (fun i hi=>?_) (fun d hod=>?_) (fun i hi=>Pz ha fun p hp e=>by have:=Uo hd (hn p hp);omega) (fun u C1 G2 hT h=>?_) h1
 ·refine .inl (Pz ha fun p C1 e=>Axf i hi ?_)
  rw[←e];exact (B5 ha).1 p.1 p.2 C1
 ·refine Pz ha fun p C1 e=>?_
  have:=hn p C1;rw[e] at this;exact ap.ne d this hod
 ·have Tk:∀p∈nw,C1 p.1=A6 hp nw p.1∧G2 p.1=none:=by
   intro p hp2;have hno:=(B5 ha).1 p.1 p.2 hp2;have h3:=hT.off p.1 (Uo hd (hn p hp2)) (fun e=>ap.ne p.1 (hn p hp2) e) (.inl fun hL=>Axf _ hL hno)
   exact⟨h3.1,h3.2.trans hno⟩
  have ha':Ck G2 nw=true:=Ub ha fun i b hi=>(Tk (i,b) hi).2
  refine RL hm (ZH hm (fun t ht=>(Ga ap.ox t ht).symm) hv) hd ha' ?_
  have hh:C1=A6 G2 nw:=by
   refine Am5 ha (fun i hi=>?_) (fun i hi=>?_) ha'
   ·exact hT.same i (Pz ha hi)
   ·obtain⟨p,hp2,rfl⟩:=hi;exact (Tk p hp2).1
  rw[←Nq ap.ne,←hh];exact h
theorem A3e (hw:Has C P o s)(ap:EK C P ops x o)
  (h:Ee C P N call ops x s (fun s1=>Ee C P N call ops o s1 K)=some r):Ee C P N call ops o s (fun s1=>Ee C P N call ops x s1 K)=some r:=by
 cases hx:I7 C P ops x s.tm
 ·cases ho:I7 C P ops o s.tm
  ·exact Aic hw ap.xo ap.ne ap.ox hx ho h
  ·exact Atb hw ap ho h
 ·exact As6 ap hx h
theorem Nm (h:Yn P o.op=true):Vl C P o.op=false:=by
 unfold Yn at h;split at h
 ·rename_i ho;rw[ho];rfl
 ·rename_i ho;rw[ho];rfl
 ·cases h
def SV (P:Program)(ops:Array Oper)(o:Oper)(tm:Nat->PV):Prop:=Yn P o.op=true∨Hx ops o tm=some false
theorem BA {tm tm':Nat->PV}(h:∀t∈looks ops o,tm t=tm' t)(hl:SV P ops o tm):SV P ops o tm':=by
 rcases hl with hl|hl
 ·exact .inl hl
 ·exact .inr (by rw[←N9 h];exact hl)
theorem VI {tm:Nat->PV}(hl:SV P ops o tm):I7 C P ops o tm=false:=by
 rcases hl with hl|hl
 ·simp[I7,Nm hl]
 ·simp[I7,hl]
theorem Air {q:BT}(hl:SV P ops o s.tm)(h:gE C P N call ops o s=some q):q.2.1=[]∧q.2.2=[]:=by
 unfold gE at h;split at h
 ·cases h
 ·rename_i hv
  have hl:Yn P o.op=true:=by
   rcases hl with hl|hl
   ·exact hl
   ·rw[hv] at hl;cases hl
  rw[Nm hl] at h;have h:Ajn C P N call o s=some q:=h;unfold Yn at hl;split at hl
  ·rename_i t a ho;unfold Ajn PK at h;rw[ho] at h
   have:=VT (P:=P) (f:=rd s.hp) (f':=rd s.hp) (g:=M4 s.hp) (g':=M4 s.hp) (t:=t) (x:=Ct s.tm a) (Rel:=fun (a b:Option BT)=>∀q,a=some q->q.2.1=[]∧q.2.2=[])
    (K:=fun v=>some (v,[],[])) (K':=fun v=>some (v,[],[])) (fun _ h=>by cases h) (fun _ _=>.inl ⟨rfl,rfl⟩) (fun v q hq=>by cases hq;exact⟨rfl,rfl⟩)
   exact this q h
  ·rename_i src dst y ho;unfold Ajn PK at h;rw[ho] at h;simp only at h;unfold QL at h;split at hl
   ·rename_i hd;rw[hd] at h;simp only at h;split at h
    ·obtain⟨_,_,h⟩:=El h;obtain⟨_,_,h⟩:=Dl h;cases h;exact⟨rfl,rfl⟩
    ·split at h
     ·exact FN (f:=M4 s.hp) (f':=M4 s.hp) (K':=fun _ _=>(none:Option BT)) (Rel:=fun (a _:Option BT)=>a=some q->q.2.1=[]∧q.2.2=[]) (fun h=>by cases h) (fun _ _=>.inl rfl) (fun n c h=>by
       obtain⟨_,h⟩:=As h;obtain⟨_,_,h⟩:=Dl h;obtain⟨_,_,h⟩:=Dl h;cases h;exact⟨rfl,rfl⟩) h
     ·cases h
    ·cases h
   ·cases hl
  ·cases hl
 ·cases h;exact⟨rfl,rfl⟩
theorem Akx {tm tm':Nat->PV}{hp:Nat->Option Bx}(h:∀t∈looks ops o,tm t=tm' t){i:Nat}(hi:BW o tm hp i):BW o tm' hp i:=by
 have he:=G8 (ops:=ops) (o:=o) h;rcases hi with⟨y,hy,hi⟩|⟨Xf,id,c,⟨y,hy,hi⟩,hc,q⟩
 ·exact .inl ⟨y,hy,by rw[←he y hy];exact hi⟩
 ·exact .inr ⟨Xf,id,c,⟨y,hy,by rw[←he y hy];exact hi⟩,hc,q⟩
theorem Aw7 {hp C1:Nat->Option Bx}{i:Nat}(h:C1 i=hp i):rd C1 i=rd hp i∧M4 C1 i=M4 hp i:=by
 unfold rd M4;rw[h];exact⟨rfl,rfl⟩
theorem HH {tm:Nat->PV}{hp:Nat->Option Bx}(hl:SV P ops o tm)(h:Ee C P N call ops o ⟨tm,hp⟩ K=some r):
  ∃v,gE C P N call ops o ⟨tm,hp⟩=some (v,[],[])∧Ih N o.dst=true∧K ⟨B8 tm o.dst v,hp⟩=some r:=by
 rw[Nx (VI hl)] at h;cases e:gE C P N call ops o ⟨tm,hp⟩ with
 |none=>rw[e] at h;cases h
 |some q=>
  obtain⟨v,fz,nw⟩:=q;obtain⟨h1,h2⟩:=Air hl e;simp only at h1 h2;subst h1;subst h2;rw[e] at h;obtain⟨hb,h⟩:=As h;simp only[Bool.and_eq_true] at hb;exact⟨v,rfl,hb.1,h⟩
theorem QM {tm:Nat->PV}{hp:Nat->Option Bx}{v:PV}(hl:SV P ops o tm)(e:gE C P N call ops o ⟨tm,hp⟩=some (v,[],[])) (hd:Ih N o.dst=true)(h:K ⟨B8 tm o.dst v,hp⟩=some r):Ee C P N call ops o ⟨tm,hp⟩ K=some r:=by
 rw[Nx (VI hl),e];show Ar _ _=_;have ha:Ck hp []=true:=rfl;simp only[hd,ha,Bool.and_self];exact h
theorem Aur (hw:Has C P o s)(xo:∀d,x.dst=some d->d ∉ looks ops o)(ne:∀d,x.dst=some d->o.dst≠some d)(ox:∀d,o.dst=some d->d ∉ looks ops x)(hl:SV P ops o s.tm)
  (Adv:∀y∈o.op.operands.toList,∀i∈B7 (Ct s.tm y),¬BW x s.tm s.hp i) (hx:I7 C P ops x s.tm=true)
  (h:Ee C P N call ops x s (fun s1=>Ee C P N call ops o s1 K)=some r):Ee C P N call ops o s (fun s1=>Ee C P N call ops x s1 K)=some r:=by
 rw[Ld hx] at h;obtain⟨tm,hp⟩:=s;have look:∀v,∀t∈looks ops o,B8 tm x.dst v t=tm t:=fun v=>Ga xo
 have back:∀{u:PV} {C1:Nat->Option Bx} {q:BT},(∀y∈o.op.operands.toList,∀i∈B7 (Ct tm y),C1 i=hp i)->gE C P N call ops o ⟨B8 tm x.dst u,C1⟩=some q->gE C P N call ops o ⟨tm,hp⟩=some q:=
  fun hh e=>FR (s:=⟨B8 tm x.dst _,_⟩) (s':=⟨tm,hp⟩) (look _) (fun _ y hy i hi=>.inl (Aw7 (hh y hy i hi))) e
 have h1:=Nh (P:=P) (N:=N) (o:=x) (tm:=tm) (tm':=tm) (hp:=hp) (Ej:=hp) (K:=fun s1=>Ee C P N call ops o s1 K) (K':=fun _=>none)
  (Rel:=fun (a:Option R)(_:Option R)=>a=some r->∃v,gE C P N call ops o ⟨tm,hp⟩=some (v,[],[])∧Ih N o.dst=true) (fun h=>by cases h) (fun _ _=>rfl) (fun _ _=>.inl rfl) (fun _ _=>rfl) (fun _ _=>rfl) (fun v C1 _ hT h=>by
   obtain⟨u,hu,hd,_⟩:=HH (BA (fun t ht=>(look v t ht).symm) hl) h
   exact⟨u,back (fun y hy i hi=>hT.far i (Adv y hy i hi) (hw.1 y hy i hi)) hu,hd⟩) h
 obtain⟨v,hv,hd⟩:=h1;refine QM hl hv hd ?_;have t2:∀t∈looks ops x,tm t=B8 tm o.dst v t:=fun t ht=>(Ga ox t ht).symm
 rw[Ld (by rw[←Jv t2];exact hx)]
 refine Nh (P:=P) (N:=N) (o:=x) (tm:=tm) (tm':=B8 tm o.dst v) (hp:=hp) (Ej:=hp) (Rel:=fun (a b:Option R)=>a=some r->b=some r) (fun h=>by cases h) (G8 t2) (fun _ _=>.inl rfl) (fun _ _=>rfl) (fun _ _=>rfl) (fun u C1 G2 hT h=>?_) h
 have e1:C1=G2:=funext fun i=>hT.same i rfl
 subst e1;obtain⟨v',Sh,_,h'⟩:=HH (BA (fun t ht=>(look u t ht).symm) hl) h
 have he:=back (fun y hy i hi=>hT.far i (fun hR=>Adv y hy i hi (Akx (fun t ht=>(t2 t ht).symm) hR)) (hw.1 y hy i hi)) Sh
 rw[hv] at he;simp only[Option.some.injEq,Prod.mk.injEq,and_true] at he;subst he;rw[←Nq ne];exact h'
theorem Aud (xo:∀d,x.dst=some d->d ∉ looks ops o)(ne:∀d,x.dst=some d->o.dst≠some d)(ox:∀d,o.dst=some d->d ∉ looks ops x)(hl:SV P ops x s.tm)
  (Adv:∀y∈x.op.operands.toList,∀i∈B7 (Ct s.tm y),¬BW o s.tm s.hp i) (ho:I7 C P ops o s.tm=true)
  (h:Ee C P N call ops x s (fun s1=>Ee C P N call ops o s1 K)=some r):Ee C P N call ops o s (fun s1=>Ee C P N call ops x s1 K)=some r:=by
 obtain⟨tm,hp⟩:=s;obtain⟨v,hv,hd,h1⟩:=HH hl h;have t1:∀t∈looks ops o,B8 tm x.dst v t=tm t:=Ga xo;rw[Ld (by rw[Jv t1];exact ho)] at h1
 rw[Ld ho];refine Nh (P:=P) (N:=N) (o:=o) (tm:=B8 tm x.dst v) (tm':=tm) (hp:=hp) (Ej:=hp) (Rel:=fun (a b:Option R)=>a=some r->b=some r) (fun h=>by cases h) (G8 t1) (fun _ _=>.inl rfl) (fun _ _=>rfl) (fun _ _=>rfl) (fun u C1 G2 hT h=>?_) h1
 have e1:C1=G2:=funext fun i=>hT.same i rfl
 subst e1;have t2:∀t∈looks ops x,tm t=B8 tm o.dst u t:=fun t ht=>(Ga ox t ht).symm
 refine QM (BA t2 hl) (FR (s:=⟨tm,hp⟩) (s':=⟨B8 tm o.dst u,C1⟩) t2 (fun _ y hy i hi=>?_) hv) hd ?_
 ·have hi:i∈B7 (Ct tm y):=by rw[G8 t2 y hy];exact hi
  by_cases hn:hp i=none
  ·exact .inr ⟨Ai5 hn,Oy hn⟩
  ·obtain⟨h3,h4⟩:=Aw7 (hT.far i (Adv y hy i hi) hn);exact .inl ⟨h3.symm,h4.symm⟩
 ·rw[←Nq ne];exact h
def VY (P:Program)(x:Oper)(s s1:St):Prop:=(∀t,x.dst≠some t->s1.tm t=s.tm t)∧(∀i,s.hp i≠none->s1.hp i≠none)∧(J5 P x.op=false->∀i,s.hp i≠none->s1.hp i=s.hp i)
theorem Sm {tm:Nat->PV}{d:Option Tmp}{v:PV}{t:Nat}(h:d≠some t):B8 tm d v t=tm t:=by
 cases d with
 |none=>rfl
 |some d=>exact Am _ _ (by rintro rfl;exact h rfl)
theorem RK {K':St->Option R}(h:Ee C P N call ops x s K=some r)(hK:∀s1,VY P x s s1->K s1=some r->K' s1=some r):Ee C P N call ops x s K'=some r:=by
 cases hx:I7 C P ops x s.tm
 ·rw[Nx hx] at h ⊢;cases ex:gE C P N call ops x s with
  |none=>rw[ex] at h;cases h
  |some q=>
   rw[ex] at h;obtain⟨hb,h1⟩:=As h;simp only[Bool.and_eq_true] at hb;show Ar _ _=_;rw[hb.1,hb.2];refine hK _ ⟨fun t ht=>Sm ht,fun i hi=>Rp hb.2 hi,fun hm i hi=>?_⟩ h1
   show A6 (Ag s.hp q.2.1) q.2.2 i=s.hp i;rw[H1 hb.2 hi,((Xh ex).1 hm).1];simp
 ·rw[Ld hx] at h ⊢
  exact PZ (P:=P) (N:=N) (o:=x) (tm:=s.tm) (tm':=s.tm) (hp:=s.hp) (Rel:=fun (a b:Option R)=>a=some r->b=some r) (fun h=>by cases h) (fun _ _=>rfl) (fun v C1 hh h=>hK _ ⟨fun t ht=>Sm ht,hh,fun hm=>by
   have hM:Vl C P x.op=true:=by unfold I7 at hx;simp only[Bool.and_eq_true] at hx;exact hx.1
   rw[FV hM] at hm;cases hm⟩ h) h
theorem Has.keeps {s1:St}(h:Has C P o s)(ap:EK C P ops x o)(hk:VY P x s s1):Has C P o s1:=by
 have hop:∀y∈o.op.operands.toList,Ct s1.tm y=Ct s.tm y:=fun y hy=>G8 (ops:=ops) (o:=o) (fun t ht=>hk.1 t fun hd=>ap.xo t hd ht) y hy
 refine⟨fun y hy i hi=>?_,fun hM hA y hy i hi c hc p hp k hkk=>?_⟩
 ·rw[hop y hy] at hi;exact hk.2.1 i (h.1 y hy i hi)
 ·rw[hop y hy] at hi;have hi0:=h.1 y hy i hi;rw[hk.2.2 (ap.mo hM) i hi0] at hc;exact hk.2.1 k (h.2 hM hA y hy i hi c hc p hp k hkk)
theorem QC:∀(l:List Oper){s:St}{K:St->Option R},Has C P o s->(∀x∈l,EK C P ops x o)->Qt C P N call ops l s (fun s1=>Ee C P N call ops o s1 K)=some r->Ee C P N call ops o s (fun s1=>Qt C P N call ops l s1 K)=some r
 |[],_,_,_,_,h=>h
 |x::l,s,K,hw,ap,h=>by
  refine A3e hw (ap x (by simp)) ?_
  refine RK (K:=fun s1=>Qt C P N call ops l s1 (fun s2=>Ee C P N call ops o s2 K)) h fun s1 hk h1=>?_
  exact QC l (hw.keeps (ap x (by simp)) hk) (fun y hy=>ap y (List.mem_cons_of_mem _ hy)) h1
theorem Yb:∀(l l':List Oper){s:St}{K:St->Option R},Qt C P N call ops (l++l') s K=Qt C P N call ops l s (fun s1=>Qt C P N call ops l' s1 K)
 |[],_,_,_=>rfl
 |x::l,l',s,K=>by
  show Ee C P N call ops x s (fun s1=>Qt C P N call ops (l++l') s1 K)=Ee C P N call ops x s (fun s1=>Qt C P N call ops l s1 _)
  congr 1
  funext s1
  exact Yb l l'
theorem Aj7 {l l':List Oper}(hw:Has C P o s)(ap:∀x∈l,EK C P ops x o)(h:Qt C P N call ops (l++o::l') s K=some r):Ee C P N call ops o s (fun s1=>Qt C P N call ops (l++l') s1 K)=some r:=by
 rw[Yb] at h;have:=QC l hw ap h;refine RK this fun s1 _ h1=>?_
 rw[Yb];exact h1
end
open Go.RowKit
section
variable {R:Type} {r:R} {P:Program} {N:Nat} {w0:World} {X0:Fp} {Y:Nat->Prop} {β β':Bt} {s:St} {a:Act} {w w':World} {o:Oper} {ops:Array Oper} {C:I3} {call:Ah} {K:St->Option R}
theorem Vw (h:B4 N w0 X0 Y β s a w){j d:Nat}(hd:(ops[j]?).bind (·.dst)=some d) {v:Value}(ht:s.tm d=.sc v):yielded ops a.tmps j=match v with | .bool b=>some b|_=>none:=by
 have Cd:d<N:=by
  rcases Nat.lt_or_ge d N with h'|h'
  ·exact h'
  ·rw[h.tmo d h'] at ht;cases ht
 have hv:=h.tms d Cd;rw[ht] at hv;have hv:=K8 hv;have Ad5:d<a.tmps.size:=by rw[h.tsz];exact Cd
 have he:a.tmps[d]?=some v:=by
  rw[Array.getElem?_eq_getElem Ad5];simp[Ad5] at hv;rw[hv]
 unfold yielded;rw[hd];simp only[Option.bind_some,he];cases v<;>rfl
theorem DD (h:B4 N w0 X0 Y β s a w){G:Us}(Ja:JJ P G w0 X0)(C4:∀f args res,call f args=some res->C7 G P f args res){i:Nat}(hi:ops[i]?=some o) (hk:Ee C P N call ops o s K=some r):
  ∃s',K s'=some r∧∀(next:Act->World->Prop) (Q:Exit->Act->World->Prop),(∀a' w' β',B4 N w0 X0 Y β' s' a' w'->next a' w')->wpOp P ops Q i next a w:=by
 rw[NE] at hk
 have hw:∀b,Hx ops o s.tm=some b->Region.wanted o (yielded ops a.tmps)=b:=by
  intro b hb;unfold Hx at hb;unfold Region.wanted;cases hg:o.guard with
  |none=>rw[hg] at hb;simpa using hb
  |some q=>
   obtain⟨j,want⟩:=q;rw[hg] at hb;simp only at hb ⊢;cases hd:(ops[j]?).bind (·.dst) with
   |none=>rw[hd] at hb;cases hb
   |some d=>
    rw[hd] at hb;simp only at hb;split at hb
    ·rename_i b' ht;rw[Vw h hd ht];simp at hb;rw[←hb];cases b'<;>cases want<;>rfl
    ·rename_i ht;rw[Vw h hd ht];simp at hb;rw[hb];rfl
    ·cases hb
 split at hk
 ·cases hk
 ·rename_i hv;obtain⟨s',hs',hn⟩:=OO h Ja C4 hk;refine⟨s',hs',fun next Q PL=>?_⟩
  unfold wpOp;rw[hi];simp only[hw _ hv,if_true];exact .inl (hn next Q PL)
 ·rename_i hv;obtain⟨hd,hk⟩:=As hk;refine⟨_,hk,fun next Q PL=>?_⟩
  unfold wpOp;rw[hi];simp only[hw _ hv];refine PL _ _ β (h.put hd (Aw.sc _) (by simp[B7,Cj,Av]))
theorem B4.known (h:B4 N w0 X0 Y β s a w){d:Nat}(hd:s.tm d=.ub):∃b,B4 N w0 X0 Y β ⟨Da s.tm d (.sc (.bool b)),s.hp⟩ a w:=by
 have Cd:d<N:=by
  rcases Nat.lt_or_ge d N with h'|h'
  ·exact h'
  ·rw[h.tmo d h'] at hd;cases hd
 have hu:=h.tms d Cd;rw[hd] at hu;have Lq:Aw w (Db s.hp β Y) .ub (a.tmps.getD d undef):=hu
 obtain⟨b,hv⟩:∃b,a.tmps.getD d undef=.bool b:=by
  generalize a.tmps.getD d undef=x at Lq;cases Lq with
  |ub b=>exact⟨b,rfl⟩
 refine⟨b,⟨h.dfr,h.tsz,fun i hi=>?_,fun i hi=>?_,h.box,h.inj,h.blt,fun i hi=>?_,h.wfB,h.ownd,h.rngB,h.pin,h.stp,h.Yx,h.Ylt,h.fr⟩⟩
 ·show Da s.tm d _ i=_;rw[Am _ _ (by omega)]
  exact h.tmo i hi
 ·by_cases e:i=d
  ·subst e;show Ed _ _ _ (Da s.tm i _ i) _;rw[Au,hv];exact Aw.sc _
  ·show Ed _ _ _ (Da s.tm d _ i) _;rw[Am _ _ e];exact h.tms i hi
 ·by_cases e:i=d
  ·subst e;show ∀id∈B7 (Da s.tm i _ i),_;rw[Au];simp[B7,Cj,Av]
  ·show ∀id∈B7 (Da s.tm d _ i),_;rw[Am _ _ e];exact h.wfT i hi
theorem UZ {x y:Option R}(h:Wp x y=some r):x=some r∧y=some r:=by
 unfold Wp at h;split at h
 ·rename_i e;exact⟨h,e ▸ h⟩
 ·cases h
theorem V0 (h:B4 N w0 X0 Y β s a w){F:St->Option R}(hk:Agd ops o s F=some r):∃s',F s'=some r∧B4 N w0 X0 Y β s' a w:=by
 unfold Agd at hk;split at hk
 ·exact⟨s,hk,h⟩
 ·split at hk
  ·exact⟨s,hk,h⟩
  ·split at hk
   ·rename_i d _ ht;obtain⟨b,hb⟩:=h.known ht;obtain⟨h1,h2⟩:=UZ hk;cases b
    ·exact⟨_,h2,hb⟩
    ·exact⟨_,h1,hb⟩
   ·exact⟨s,hk,h⟩
theorem EA {G:Us}(Ja:JJ P G w0 X0)(C4:∀f args res,call f args=some res->C7 G P f args res){Q:Exit->Act->World->Prop}(hQ:∀s' a' w' β',K s'=some r->B4 N w0 X0 Y β' s' a' w'->Q .normal a' w'):
  ∀(l:List Nat) (os:List Oper),l.length=os.length->(∀(k i:Nat),l[k]?=some i->ops[i]?=os[k]?)->∀{s:St} {a:Act} {w:World} {β:Bt},B4 N w0 X0 Y β s a w->Ke C P N call ops os s K=some r->wpOps P ops Q l a w
 |[],[],_,_,s,a,w,β,h,hk=>by
  show Q .normal a w;exact hQ s a w β hk h
 |[],_::_,hl,_,_,_,_,_,_,_=>by cases hl
 |_::_,[],hl,_,_,_,_,_,_,_=>by cases hl
 |i::l,o::os,hl,hi,s,a,w,β,h,hk=>by
  rw[wpOps_cons];obtain⟨s1,hk,h⟩:=V0 h hk;obtain⟨s',hs',hn⟩:=DD h Ja C4 (by simpa using hi 0 i rfl) hk
  exact hn _ _ fun a' w' β' h'=>EA Ja C4 hQ l os (by simpa using hl) (fun k j hj=>by simpa using hi (k+1) j (by simpa using hj)) h' hs'
theorem B4.drew (h:B4 N w0 X0 Y β s a w):B4 N w0 X0 Y β s a { w with drawn:=w.drawn+1 }:=by
 have:=h.stepR (d:=none) (v:=.top) (nw:=[]) (val:=undef) (w':={ w with drawn:=w.drawn+1 }) (β':=β) rfl rfl
  ⟨rfl,rfl,rfl,⟨Nat.le_refl _,fun _ _ _=>rfl,fun _ _=>Nat.le_refl _⟩,fun _ _=>rfl,by simp,by simp,by simp,by simp,by simp,.top _,by simp[B7,Cj,Av]⟩
 exact this
theorem ZP (h:B4 N w0 X0 Y β s a w){G:Us}(Ja:JJ P G w0 X0)(C4:∀f args res,call f args=some res->C7 G P f args res){id:Nat}{Q:Exit->Act->World->Prop}
  (hk:Ke C P N call ops ops.toList s K=some r)(hQ:∀s' a' w' β',K s'=some r->B4 N w0 X0 Y β' s' a' w'->Q .normal a' w'):(Code.region id ops false).wp P Q a w:=by
 refine wp_region (EA Ja C4 hQ (List.range ops.size) ops.toList (by simp) (fun k i hi=>?_) h hk)
 rw[List.getElem?_range] at hi
 ·simp at hi;subst hi;simp
 ·rcases Nat.lt_or_ge k ops.size with h'|h'
  ·exact h'
  ·rw[List.getElem?_eq_none (by simpa using h')] at hi;cases hi
def P6 (n:Nat)(listed:Array Bool):List Nat:=(List.range n).filter fun i=> !listed.getD i true
def Az2 (ops:Array Oper)(listed:Array Bool)(o:Oper):Prop:=∀e∈o.after,Region.binds .any e=true->listed.getD e.on false=true
theorem testBit_or {a b j:Nat}:(a ||| b).testBit j=(a.testBit j||b.testBit j):=Nat.testBit_or a b j
theorem WO {acc:List Nat}{j:Nat}:∀(es:List Edge)(v:Nat),(es.foldl (fun s e=>bif Region.binds .any e then s ||| 2 ^ e.on ||| acc.getD e.on 0 else s) v).testBit j=true ->
  v.testBit j=true∨∃e∈es,Region.binds .any e=true∧(j=e.on∨(acc.getD e.on 0).testBit j=true)
 |[],v,h=>.inl h
 |e::es,v,h=>by
  rcases WO es _ h with h|⟨e',VM,h⟩
  ·cases hb:Region.binds .any e<;>simp only[hb] at h
   ·exact .inl h
   ·simp only[cond_true,Nat.testBit_or,Bool.or_eq_true] at h;rcases h with (h|h)|h
    ·exact .inl h
    ·refine .inr ⟨e,by simp,hb,.inl ?_⟩
     rw[Nat.testBit_two_pow] at h;exact (of_decide_eq_true h).symm
    ·exact .inr ⟨e,by simp,hb,.inr h⟩
  ·exact .inr ⟨e',by simp[VM],h⟩
theorem V2 {listed:Array Bool}(hc:∀(j:Nat) oj,ops[j]?=some oj->listed.getD j false=true->Az2 ops listed oj):
  ∀(rest done:List Oper) (acc:List Nat),ops.toList=done++rest->acc.length=done.length ->
   (∀(k:Nat) o,done[k]?=some o->Az2 ops listed o->∀j,(acc.getD k 0).testBit j=true->listed.getD j false=true) ->
   ∀(k:Nat) o,ops[k]?=some o->Az2 ops listed o->∀j,((Ks rest acc).getD k 0).testBit j=true->listed.getD j false=true
 |[],done,acc,he,_,h,k,o,ho,hf,j,hj=>by
  refine h k o ?_ hf j hj;rw[List.append_nil] at he;rw[←he]
  simpa using ho
 |o'::rest,done,acc,he,hl,h,k,o,ho,hf,j,hj=>by
  refine V2 hc rest (done++[o']) _ (by rw[he];simp) (by simp[hl]) ?_ k o ho hf j hj
  intro k o ho hf j hj;rcases Nat.lt_trichotomy k done.length with Cd|heq|hgt
  ·rw[List.getElem?_append_left Cd] at ho;rw[List.getD_eq_getElem?_getD,List.getElem?_append_left (by omega),←List.getD_eq_getElem?_getD] at hj
   exact h k o ho hf j hj
  ·subst heq;simp at ho;subst ho;rw[←hl] at hj;simp only[List.getD_eq_getElem?_getD,List.getElem?_append_right (Nat.le_refl _),Nat.sub_self,List.getElem?_cons_zero,Option.getD_some] at hj
   have hj:(o'.after.toList.foldl (fun s e=>bif Region.binds .any e then s ||| 2 ^ e.on ||| acc.getD e.on 0 else s) 0).testBit j=true:=by
    simpa only[List.getD_eq_getElem?_getD] using hj
   rcases WO _ _ hj with h0|⟨e,hm,hb,h1⟩
   ·simp at h0
   ·have GT:=hf e (by simpa using hm) hb
    rcases h1 with h1|h1
    ·rw[h1];exact GT
    ·cases hd:done[e.on]? with
     |none=>
      have:acc.getD e.on 0=0:=by
       rw[List.getD_eq_getElem?_getD,List.getElem?_eq_none (by rw[hl];exact List.getElem?_eq_none_iff.1 hd)]
       rfl
      rw[this] at h1;simp at h1
     |some oe=>
      have hoe:ops[e.on]?=some oe:=by
       rw[←Array.getElem?_toList,he,List.getElem?_append_left (by
        rcases Nat.lt_or_ge e.on done.length with h'|h'
        ·exact h'
        ·rw[List.getElem?_eq_none h'] at hd;cases hd)]
       exact hd
      exact h e.on oe hd (hc e.on oe hoe GT) j h1
  ·rw[List.getElem?_eq_none (by simp;omega)] at ho
   cases ho
theorem EN {bs:List Nat}:∀(l:List Oper)(n:Nat),MY C P ops bs l n=true->∀(k:Nat) o,l[k]?=some o->∀(j:Nat) x,ops[j]?=some x->j<n+k->QV C P ops x o=true->(bs.getD (n+k) 0).testBit j=true
 |[],_,_,k,o,ho,_,_,_,_,_=>by simp at ho
 |o'::l,n,h,k,o,ho,j,x,hx,hj,W9=>by
  simp only[MY,Bool.and_eq_true] at h;cases k with
  |zero=>
   simp at ho;subst ho
   have:=List.all_eq_true.1 h.1 (x,j) (by
    rw[List.mem_zipIdx_iff_getElem?]
    simpa using hx)
   simp only[W9,Bool.not_true,Bool.or_false,Bool.or_eq_true,Bool.not_eq_true'] at this;rcases this with h'|h'
   ·have:Nat.blt j n=true:=Nat.ble_eq_true_of_le (by omega)
    rw[this] at h';cases h'
   ·exact h'
  |succ k=>
   have:=EN l (n+1) h.2 k o (by simpa using ho) j x hx (by omega) W9
   rwa [show n+(k+1)=n+1+k by omega]
theorem Mg {n i:Nat}{listed:Array Bool}:i∈P6 n listed↔i<n∧listed.getD i true=false:=by
 unfold P6;simp[List.mem_filter]
theorem BB {n i:Nat}{listed:Array Bool}(hi:i∈P6 n listed)(Ku:listed.size=n):∃l1 l2,P6 n listed=l1++i::l2∧P6 n (listed.setIfInBounds i true)=l1++l2∧∀j∈l1,j<i:=by
 obtain⟨Cd,M3⟩:=Mg.1 hi
 have hr:List.range n=List.range i++i::(List.range (n-i-1)).map (i+1 + ·):=by
  conv=>lhs;rw[show n=i+(1+(n-i-1)) by omega]
  rw[List.range_add,List.range_add];simp[Nat.add_assoc]
 refine⟨(List.range i).filter fun i=> !listed.getD i true,((List.range (n-i-1)).map (i+1 + ·)).filter fun i=> !listed.getD i true,?_,?_,fun j hj=>?_⟩
 ·unfold P6;rw[hr,List.filter_append,List.filter_cons_of_pos (by rw[M3];rfl)]
 ·unfold P6;rw[hr,List.filter_append,List.filter_cons_of_neg (by simp[Ku,Cd])]
  congr 1
  ·refine List.filter_congr fun j hj=>?_
   rw[getD_set_ne true (by have:=List.mem_range.1 hj;omega)]
  ·refine List.filter_congr fun j hj=>?_
   obtain⟨k,_,rfl⟩:=List.mem_map.1 hj;rw[getD_set_ne true (by omega)]
 ·exact List.mem_range.1 (List.mem_filter.1 hj).1
theorem Aqf (h:B4 N w0 X0 Y β s a w)(o:Oper):Has C P o s:=by
 refine⟨fun y _ i hi=>Gq h y i hi,fun _ _ y _ i hi c hc p hp k hk=>h.wfB i c hc p hp k hk⟩
theorem VC (Apo:(ops.toList.zipIdx.all fun q=>q.1.after.toList.all fun e=> !Region.binds .any e||Nat.blt e.on q.2)=true) {listed:Array Bool}(inv:HeadInv .any ops ops.size listed)(hr:Region.ready .any ops listed=[]):P6 ops.size listed=[]:=by
 cases hp:P6 ops.size listed with
 |nil=>rfl
 |cons i l=>
  exfalso;have hi:i∈P6 ops.size listed:=by rw[hp];simp
  obtain⟨Cd,M3⟩:=Mg.1 hi;obtain⟨l1,l2,h1,_,h3⟩:=BB hi inv.size
  have GT:l1=[]:=by
   cases l1 with
   |nil=>rfl
   |cons j l1=>
    rw[hp] at h1;simp at h1;have:=h3 j (by simp)
    omega
  subst GT
  have A79:∀j,j<i->listed.getD j false=true:=by
   intro j hj;cases hh:listed.getD j false with
   |true=>rfl
   |false=>
    have:j∈P6 ops.size listed:=Mg.2 ⟨by omega,getD_in (by rw[inv.size];omega) hh⟩
    have hs:(P6 ops.size listed).Pairwise (· < ·):=List.Pairwise.filter _ List.pairwise_lt_range
    rw[h1] at this hs;simp at this;rcases this with e|e
    ·omega
    ·have:=(List.pairwise_cons.1 hs).1 j e;omega
  have:i∈Region.ready .any ops listed:=by
   refine mem_ready.2 ⟨M3,ops[i],Array.getElem?_eq_getElem Cd,fun e he hb=>A79 _ ?_⟩
   have:=List.all_eq_true.1 Apo (ops[i],i) (by
    rw[List.mem_zipIdx_iff_getElem?];simp[Cd])
   have:=List.all_eq_true.1 this e (Array.mem_toList_iff.2 he);simp only[hb,Bool.not_true,Bool.false_or] at this;exact Nat.lt_of_succ_le (Nat.le_of_ble_eq_true this)
  rw[hr] at this;simp at this
theorem Aai {G:Us}(Ja:JJ P G w0 X0)(C4:∀f args res,call f args=some res->C7 G P f args res)(hok:NU C P ops=true){Q:Exit->Act->World->Prop}(hQ:∀s' a' w' β',K s'=some r->B4 N w0 X0 Y β' s' a' w'->Q .normal a' w'):
  ∀(fuel:Nat) {listed:Array Bool} {s:St} {a:Act} {w:World} {β:Bt},HeadInv .any ops ops.size listed->(P6 ops.size listed).length=fuel->B4 N w0 X0 Y β s a w->Qt C P N call ops ((P6 ops.size listed).filterMap (ops[·]?)) s K=some r->wpAny P .any ops Q fuel listed a w:=by
 unfold NU at hok;simp only[Bool.and_eq_true] at hok;obtain⟨Apo,A0p⟩:=hok;intro fuel
 induction fuel with
 |zero=>
  intro listed s a w β inv hf h hk;have hp:=List.eq_nil_of_length_eq_zero hf;rw[hp] at hk;refine⟨?_,hQ s a w β hk h⟩;cases hr:Region.ready .any ops listed with
  |nil=>rfl
  |cons i l=>
   exfalso;have hi:i∈Region.ready .any ops listed:=by rw[hr];simp
   obtain⟨M3,o,ho,_⟩:=mem_ready.1 hi;have:i∈P6 ops.size listed:=Mg.2 ⟨(Array.getElem?_eq_some_iff.1 ho).1,M3⟩;rw[hp] at this;simp at this
 |succ fuel ih=>
  intro listed s a w β inv hf h hk;refine⟨fun hr=>?_,fun i hi=>?_⟩
  ·rw[VC Apo inv hr] at hf;cases hf
  ·obtain⟨M3,o,ho,Vi⟩:=mem_ready.1 hi;have Cd:i<ops.size:=(Array.getElem?_eq_some_iff.1 ho).1;obtain⟨l1,l2,h1,h2,h3⟩:=BB (Mg.2 ⟨Cd,M3⟩) inv.size;rw[h1,List.filterMap_append,List.filterMap_cons_some ho] at hk
   have Xf:∀x∈l1.filterMap (ops[·]?),EK C P ops x o:=by
    intro x hx;obtain⟨j,hj,hxj⟩:=List.mem_filterMap.1 hx;refine Ank ?_;cases W9:QV C P ops x o with
    |false=>rfl
    |true=>
     exfalso;have TF:=EN ops.toList 0 A0p i o (by simpa using ho) j x hxj (by have:=h3 j hj;omega) W9
     rw[Nat.zero_add] at TF;have hjl:=V2 (listed:=listed) (fun j oj hj hl=>inv.closed j oj hj hl) ops.toList [] [] (by simp) rfl (by simp) i o ho Vi j TF
     have:j∈P6 ops.size listed:=by rw[h1];simp[hj]
     have:=getD_both (Mg.1 this).2;rw[hjl] at this;cases this
   obtain⟨s',hs',hn⟩:=DD h Ja C4 ho (Aj7 (Aqf h o) Xf hk);refine hn _ _ fun a' w' β' h'=>ih (inv.set hi Cd) ?_ h' ?_
   ·rw[h2];rw[h1] at hf;simp at hf ⊢;omega
   ·rw[h2,List.filterMap_append];exact hs'
theorem Um (h:B4 N w0 X0 Y β s a w){G:Us}(Ja:JJ P G w0 X0)(C4:∀f args res,call f args=some res->C7 G P f args res)(hm:P.follows .mixedOrders=true)(hok:NU C P ops=true){Q:Exit->Act->World->Prop}
  (hk:Qt C P N call ops ops.toList s K=some r)(hQ:∀s' a' w' β',K s'=some r->B4 N w0 X0 Y β' s' a' w'->Q .normal a' w'):wpAny P .any ops Q ops.size (Array.replicate ops.size false) a { w with drawn:=w.drawn+1 }:=by
 have hp:P6 ops.size (Array.replicate ops.size false)=List.range ops.size:=by
  unfold P6;refine List.filter_eq_self.2 fun i hi=>?_
  have:=List.mem_range.1 hi;simp[this]
 refine Aai (C:=C) Ja C4 hok hQ ops.size ⟨by simp,fun j oj _ hl=>(by rw[getD_replicate_false] at hl;cases hl),fun t ht ht'=>by omega⟩ (by rw[hp];simp) h.drew ?_
 rw[hp]
 have:(List.range ops.size).filterMap (ops[·]?)=ops.toList:=by
  refine List.ext_getElem? fun k=>?_
  have:∀(n:Nat),n<=ops.size->(List.range n).filterMap (ops[·]?)=ops.toList.take n:=by
   intro n
   induction n with
   |zero=>intro _;rfl
   |succ n ih=>
    intro hn;rw[List.range_succ,List.filterMap_append,ih (by omega),List.take_add_one]
    congr 1
    have:ops[n]?=some ops[n]:=Array.getElem?_eq_getElem (by omega)
    simp[this]
  rw[this ops.size (Nat.le_refl _)]
  congr 1
  exact List.take_of_length_le (by simp)
 rw[this];exact hk
theorem XS (h:B4 N w0 X0 Y β s a w){G:Us}(Ja:JJ P G w0 X0)(C4:∀f args res,call f args=some res->C7 G P f args res)(hm:P.follows .mixedOrders=true)(hok:NU C P ops=true){id:Nat}{Q:Exit->Act->World->Prop}
  (hk:Qt C P N call ops ops.toList s K=some r)(hQ:∀s' a' w' β',K s'=some r->B4 N w0 X0 Y β' s' a' w'->Q .normal a' w'):(Code.region id ops true).wp P Q a w:=
 wp_region_any hm (Um h Ja C4 hm hok hk hQ)
end
end
section
open Go.RowKit
section
variable {R R':Type} {Rel:Option R->Option R'->Prop} {P:Program} {N:Nat} {tm tm':Nat->PV} {hp Ej:Nat->Option Bx} {o:Oper}
theorem Alk (hn:Rel none none){C:I3}{call:Ah}{K:St->Option R}{K':St->Option R'}(Xf:Qo o.op=true)(Nd:∀x∈o.op.operands.toList,Ct tm x=Ct tm' x)
  (hS:∀i,BW o tm' Ej i->hp i=Ej i∨(hp i=none∧∀b,Rel none b)) (hdd:∀d,o.dst=some d->hp d=Ej d)
  (hK:∀v C1 G2,(∀M,SX M (BW o tm' Ej) o.dst hp Ej C1 G2)->Rel (K ⟨B8 tm o.dst v,C1⟩) (K' ⟨B8 tm' o.dst v,G2⟩)):Rel (Zu C P N call ⟨tm,hp⟩ o K) (Zu C P N call ⟨tm',Ej⟩ o K'):=by
 unfold Zu;have hl:∀x∈o.op.operands.toList,∀i∈B7 (Ct tm' x),BW o tm' Ej i:=fun x hx i hi=>.inl ⟨x,hx,hi⟩
 generalize hLd:BW o tm' Ej=S at *
 generalize hop:o.op=op at *
 unfold Qo at Xf;split at Xf
 ·rename_i c
  have Ns:∀x∈c.args.toList,x∈(Op.call c).operands.toList:=by
   intro x hx;simp only[Op.operands,Call.operands,Array.toList_append,List.mem_append];exact .inr hx
  split at Xf
  ·rename_i hc;simp only[hc];refine D9 hn fun d hd=>B0 hn fun x _ hx=>B0 hn fun y _ hy=>Gn hn (B0 hn fun _ _ _=>B0 hn fun _ _ _=>?_)
   subst hy;have hxm:=Ns x (by rw[hx];simp)
   have hym:=Ns y (by rw[hx];simp)
   simp only[Nd x hxm,Nd y hym];refine DZ hn hS (hdd d hd) (fun i hi=>hl x hxm i (Ho hi)) (fun i hi=>hl y hym i (Ho hi)) fun v C1 G2 hh=>?_
   have:=hK v C1 G2 (by rw[hd];exact hh)
   rw[hd] at this;exact this
  ·cases Xf
 ·cases Xf
theorem Ua {C:I3}{call:Ah}(Xf:Qo o.op=true)(Nd:∀x∈o.op.operands.toList,Ct tm x=Ct tm' x)(hS:∀i,BW o tm' Ej i->hp i=Ej i)(hdd:∀d,o.dst=some d->hp d=Ej d){s1:St}
  (h:Zu C P N call ⟨tm,hp⟩ o some=some s1):∃v C1 G2,s1=⟨B8 tm o.dst v,C1⟩∧Zu C P N call ⟨tm',Ej⟩ o some=some ⟨B8 tm' o.dst v,G2⟩∧∀M,SX M (BW o tm' Ej) o.dst hp Ej C1 G2:=by
 have:=Alk (P:=P) (N:=N) (C:=C) (call:=call) (o:=o) (tm:=tm) (tm':=tm') (hp:=hp) (Ej:=Ej) (K:=some) (K':=some)
  (Rel:=fun (a b:Option St)=>∀s1,a=some s1->∃v C1 G2,s1=⟨B8 tm o.dst v,C1⟩∧b=some ⟨B8 tm' o.dst v,G2⟩∧∀M,SX M (BW o tm' Ej) o.dst hp Ej C1 G2) (fun _ h=>by cases h) Xf Nd (fun i hi=>.inl (hS i hi)) hdd
  (fun v C1 G2 hT s1 h=>by cases h;exact⟨v,C1,G2,rfl,rfl,hT⟩)
 exact this s1 h
end
section
variable {R R':Type} {r:R} {r':R'} {C:I3} {P:Program} {N:Nat} {call:Ah} {ops:Array Oper} {o x:Oper} {s s1 s2:St} {K:St->Option R}
theorem Yr {tm:Nat->PV}(h:I7 C P ops o tm=true):Vl C P o.op=true:=by
 unfold I7 at h;simp only[Bool.and_eq_true] at h;exact h.1
theorem ZQ (h:Qo o.op=true):Vl C P o.op=true:=by
 unfold Qo at h;split at h
 ·rename_i c hc;rw[hc];split at h
  ·rename_i hcc;simp only[Vl,hcc];exact h
  ·cases h
 ·cases h
theorem Q5 (h:Ee C P N call ops x s K=some r):∃s1,Ee C P N call ops x s some=some s1∧VY P x s s1∧(Yn P x.op=true->s1.hp=s.hp)∧K s1=some r:=by
 cases hx:I7 C P ops x s.tm
 ·rw[Nx hx] at h ⊢;cases ex:gE C P N call ops x s with
  |none=>rw[ex] at h;cases h
  |some q=>
   rw[ex] at h;obtain⟨hb,h1⟩:=As h;simp only[Bool.and_eq_true] at hb;refine⟨_,?_,⟨fun t ht=>Sm ht,fun i hi=>Rp hb.2 hi,fun hm i hi=>?_⟩,fun hl=>?_,h1⟩
   ·show Ar _ _=_;rw[hb.1,hb.2];rfl
   ·show A6 (Ag s.hp q.2.1) q.2.2 i=s.hp i;rw[H1 hb.2 hi,((Xh ex).1 hm).1];simp
   ·show A6 (Ag s.hp q.2.1) q.2.2=s.hp;obtain⟨h1,h2⟩:=Air (.inl hl) ex;rw[h1,h2]
    funext i
    show Ag s.hp [] i=_;rw[Cn];simp
 ·rw[Ld hx] at h ⊢
  exact PZ (P:=P) (N:=N) (o:=x) (tm:=s.tm) (tm':=s.tm) (hp:=s.hp) (K':=some) (Rel:=fun (a:Option R) (b:Option St)=>a=some r->∃s1,b=some s1∧VY P x s s1∧(Yn P x.op=true->s1.hp=s.hp)∧K s1=some r) (fun h=>by cases h) (fun _ _=>rfl) (fun v C1 hh h=>⟨_,rfl,⟨fun t ht=>Sm ht,hh,fun hm=>(by
   rw[FV (Yr hx)] at hm;cases hm)⟩,fun hl=>(by
   have:=Yr hx;rw[Nm hl] at this;cases this),h⟩) h
theorem Y0 {K':St->Option R'}(h:Ee C P N call ops x s some=some s1)(hk:K' s1=some r'):Ee C P N call ops x s K'=some r':=by
 cases hx:I7 C P ops x s.tm
 ·rw[Nx hx] at h ⊢;cases ex:gE C P N call ops x s with
  |none=>rw[ex] at h;cases h
  |some q=>
   rw[ex] at h;obtain⟨hb,h1⟩:=As h;show Ar _ _=_;rw[hb];cases h1;exact hk
 ·rw[Ld hx] at h ⊢;exact PZ (P:=P) (N:=N) (o:=x) (tm:=s.tm) (tm':=s.tm) (hp:=s.hp) (K:=some) (Rel:=fun (a:Option St) (b:Option R')=>a=some s1->b=some r') (fun h=>by cases h) (fun _ _=>rfl) (fun v C1 hh h=>by cases h;exact hk) h
theorem XN {d:Nat}{t tx:TypeId}{b y:PV}(h:S3 P N s d t tx b y K=some r):s.hp d=none:=by
 unfold S3 at h;split at h
 ·obtain⟨_,h⟩:=As h;cases hI:ED P tx
  ·rw[hI,cond_false] at h;refine IJ (P:=P) (tm:=s.tm) (tm':=s.tm) (hp:=s.hp) (Ej:=s.hp) (S:=fun _=>True) (K':=fun _ _=>(none:Option R)) (Rel:=fun (a:Option R) (_:Option R)=>a=some r->s.hp d=none) (fun h=>by cases h) (fun _ _=>.inl rfl) (fun _ _=>trivial) (fun m new h=>?_) h
   split at h
   ·split at h
    ·obtain⟨hb,_⟩:=As h;simp only[Bool.and_eq_true,Option.isNone_iff_eq_none] at hb;simp only[hb]
    ·cases h
   ·obtain⟨_,_,_,h,_⟩:=Hg h;obtain⟨hb,_⟩:=As h;simp only[Bool.and_eq_true,Option.isNone_iff_eq_none] at hb;simp only[hb]
  ·rw[hI,cond_true] at h;unfold Yh at h;obtain⟨_,_,_,h⟩:=D5 h;obtain⟨_,_,_,h,_⟩:=Hg h;obtain⟨hb,_⟩:=As h;simp only[Bool.and_eq_true,Option.isNone_iff_eq_none] at hb;simp only[hb]
 ·cases h
theorem Auk (hw:Has C P o s)(hwx:∀y∈x.op.operands.toList,∀i∈B7 (Ct s.tm y),s.hp i≠none) (xo:∀d,x.dst=some d->d ∉ looks ops o)(ne:∀d,x.dst=some d->o.dst≠some d)(ox:∀d,o.dst=some d->d ∉ looks ops x)
  (D3:Qo x.op=true)(hao:Qo o.op=true)(Adv:∀i,BW x s.tm s.hp i->¬BW o s.tm s.hp i)(hx:I7 C P ops x s.tm=true)(ho:I7 C P ops o s.tm=true)
  (h:Ee C P N call ops x s (fun s1=>Ee C P N call ops o s1 K)=some r):Ee C P N call ops o s (fun s1=>Ee C P N call ops x s1 K)=some r:=by
 obtain⟨tm,hp⟩:=s;obtain⟨s1,e1,_,_,h⟩:=Q5 h;obtain⟨s2,e2,_,_,h⟩:=Q5 h;rw[Ld hx] at e1
 have hSx:∀i,BW x tm hp i->hp i≠none:=by
  rintro i (⟨y,hy,hi⟩|⟨Xf,_⟩)
  ·exact hwx y hy i hi
  ·rw[D3] at Xf;cases Xf
 have hSo:∀i,BW o tm hp i->hp i≠none:=by
  rintro i (⟨y,hy,hi⟩|⟨Xf,_⟩)
  ·exact hw.1 y hy i hi
  ·rw[hao] at Xf;cases Xf
 obtain⟨vx,hpx,At6,rfl,e1',T1⟩:=Ua D3 (fun _ _=>rfl) (fun _ _=>rfl) (fun _ _=>rfl) e1
 have:At6=hpx:=by
  rw[e1] at e1';injection e1' with q;injection q with _ q;exact q.symm
 subst this;have t1:∀t∈looks ops o,B8 tm x.dst vx t=tm t:=Ga xo;have t1o:=G8 (ops:=ops) (o:=o) t1;rw[Ld (by rw[Jv t1];exact ho)] at e2
 have hRo:∀i,BW o (B8 tm x.dst vx) At6 i↔BW o tm hp i:=by
  intro i;constructor
  ·rintro (⟨y,hy,hi⟩|⟨Xf,_⟩)
   ·exact .inl ⟨y,hy,by rw[←t1o y hy];exact hi⟩
   ·rw[hao] at Xf;cases Xf
  ·rintro (⟨y,hy,hi⟩|⟨Xf,_⟩)
   ·exact .inl ⟨y,hy,by rw[t1o y hy];exact hi⟩
   ·rw[hao] at Xf;cases Xf
 have Awe:∀{s:St} {o:Oper} {s2:St},Qo o.op=true->Zu C P N call s o some=some s2->∀d,o.dst=some d->s.hp d=none:=by
  intro s o s2 hao e d hd;unfold Zu at e;unfold Qo at hao;split at hao
  ·rename_i c hc;rw[hc] at e;simp only at e;split at hao
   ·rename_i hcc;rw[hcc] at e;simp only[hd,F8] at e;obtain⟨_,_,_,e⟩:=Bk e;obtain⟨_,_,_,e⟩:=Bk e;obtain⟨_,e⟩:=Ec e;obtain⟨_,_,_,e⟩:=Bk e;obtain⟨_,_,_,e⟩:=Bk e;exact XN e
   ·cases hao
  ·cases hao
 have A8c:∀d,o.dst=some d->hp d=none:=by
  intro d hd;have h0:=Awe hao e2 d hd;cases hh:hp d with
  |none=>rfl
  |some b=>exact absurd h0 ((T1 0).keep d (by rw[hh];simp))
 have A3m:=Awe D3 e1;simp only at A3m;have hoS:∀d,o.dst=some d->¬BW x tm hp d:=fun d hd hR=>hSx d hR (A8c d hd)
 have hxS:∀d,x.dst=some d->¬BW o tm hp d:=fun d hd hR=>hSo d hR (A3m d hd)
 obtain⟨vo,A9y,hpo,rfl,e3,T2⟩:=Ua (tm':=tm) (Ej:=hp) hao t1o (fun i hi=>(T1 0).far i (fun hR=>Adv i hR hi) (hSo i hi)) (fun d hd=>((T1 (d+1)).off d (by omega) (fun e=>ne d e hd) (.inl (hoS d hd))).1) e2
 obtain⟨vo',A90,Acq,e3a,e3b,T3⟩:=Ua (tm':=tm) (Ej:=hp) hao (fun _ _=>rfl) (fun _ _=>rfl) (fun _ _=>rfl) e3
 rw[e3] at e3b
 have A9v:A90=hpo∧Acq=hpo:=by
  injection e3a with _ q1;injection e3b with q2;injection q2 with _ q3;exact⟨q1.symm,q3.symm⟩
 obtain⟨rfl,rfl⟩:=A9v;have t2:∀t∈looks ops x,tm t=B8 tm o.dst vo t:=fun t ht=>(Ga ox t ht).symm
 have t2x:=G8 (ops:=ops) (o:=x) t2
 have hRx:∀i,BW x (B8 tm o.dst vo) Acq i↔BW x tm hp i:=by
  intro i;constructor
  ·rintro (⟨y,hy,hi⟩|⟨Xf,_⟩)
   ·exact .inl ⟨y,hy,by rw[t2x y hy];exact hi⟩
   ·rw[D3] at Xf;cases Xf
  ·rintro (⟨y,hy,hi⟩|⟨Xf,_⟩)
   ·exact .inl ⟨y,hy,by rw[←t2x y hy];exact hi⟩
   ·rw[D3] at Xf;cases Xf
 obtain⟨vx2,A7r,A8i,e4a,e4,T4⟩:=Ua (tm':=B8 tm o.dst vo) (Ej:=Acq) D3 t2x (fun i hi=>((T3 0).far i (Adv i ((hRx i).1 hi)) (hSx i ((hRx i).1 hi))).symm) (fun d hd=>((T3 (d+1)).off d (by omega) (fun e=>ne d hd e) (.inl (hxS d hd))).1.symm) e1
 have hvx:B8 tm x.dst vx=B8 tm x.dst vx2∧At6=A7r:=by
  injection e4a with q1 q2;exact⟨q1,q2⟩
 obtain⟨hvx,rfl⟩:=hvx;obtain⟨_,VG,NG,e5a,e5b,T5⟩:=Ua (tm':=B8 tm x.dst vx) (Ej:=At6) hao (fun _ _=>rfl) (fun _ _=>rfl) (fun _ _=>rfl) e2
 have hq:VG=A9y:=by injection e5a with _ q1;exact q1.symm
 subst hq;obtain⟨_,hu1,hu2,e6a,e6b,T6⟩:=Ua (tm':=B8 tm o.dst vo) (Ej:=Acq) D3 (fun _ _=>rfl) (fun _ _=>rfl) (fun _ _=>rfl) e4
 have hu:hu1=A8i:=by injection e6a with _ q1;exact q1.symm
 subst hu
 have Ns:VG=hu1:=by
  funext i
  by_cases hi:BW o tm hp i∨o.dst=some i
  ·have hxi:¬BW x tm hp i:=by
    rcases hi with hi|hi
    ·exact fun hR=>Adv i hR hi
    ·exact hoS i hi
   have hdi:x.dst≠some i:=by
    rcases hi with hi|hi
    ·exact fun e=>hxS i e hi
    ·exact fun e=>ne i e hi
   rw[(T2 0).same i ((T1 (i+1)).off i (by omega) hdi (.inl hxi)).1]
   exact ((T6 (i+1)).off i (by omega) hdi (.inl fun hR=>hxi ((hRx i).1 hR))).1.symm
  ·have hoi:¬BW o tm hp i:=fun e=>hi (.inl e)
   have hdi:o.dst≠some i:=fun e=>hi (.inr e)
   rw[((T5 (i+1)).off i (by omega) hdi (.inl fun hR=>hoi ((hRo i).1 hR))).1]
   exact (T4 0).same i ((T3 (i+1)).off i (by omega) hdi (.inl hoi)).1.symm
 refine Y0 (s1:=⟨B8 tm o.dst vo,Acq⟩) (by rw[Ld ho];exact e3) ?_
 refine Y0 (s1:=⟨B8 (B8 tm o.dst vo) x.dst vx2,hu1⟩) (by rw[Ld (by rw[←Jv t2];exact hx)];exact e4) ?_
 rw[←Nq ne,←hvx,←Ns];exact h
theorem GB (hM:Vl C P o.op=true){i:Nat}(h:BW o s.tm s.hp i):i∈Pq C P s o:=by
 unfold Pq;rw[hM];cases hA:Qo o.op
 ·simp only[Bool.not_false,Bool.and_self,cond_true,List.mem_append];rcases h with⟨y,hy,hi⟩|⟨_,id,c,⟨y,hy,hi⟩,hc,p,hp,hk⟩
  ·exact .inl (List.mem_flatMap.2 ⟨y,hy,hi⟩)
  ·refine .inr (List.mem_flatMap.2 ⟨id,List.mem_flatMap.2 ⟨y,hy,hi⟩,?_⟩);rw[hc];exact List.mem_flatMap.2 ⟨p,hp,hk⟩
 ·simp only[Bool.not_true,Bool.and_false,cond_false,Bool.or_true,cond_true];rcases h with⟨y,hy,hi⟩|⟨hn,_⟩
  ·exact List.mem_flatMap.2 ⟨y,hy,hi⟩
  ·rw[hA] at hn;cases hn
theorem ND (hl:Vl C P o.op=true∨Yn P o.op=true){y:Operand}(hy:y∈o.op.operands.toList){i:Nat}(h:i∈B7 (Ct s.tm y)):i∈Pq C P s o:=by
 rcases hl with hM|hl
 ·exact GB hM (.inl ⟨y,hy,h⟩)
 ·unfold Pq;rw[Nm hl,hl];exact List.mem_flatMap.2 ⟨y,hy,h⟩
theorem Ac4 (ht:∀t∈looks ops o,s1.tm t=s.tm t)(hh:Vl C P o.op=true->Qo o.op=false->∀y∈o.op.operands.toList,∀i∈B7 (Ct s.tm y),s1.hp i=s.hp i):Pq C P s1 o=Pq C P s o:=by
 have he:=G8 (ops:=ops) (o:=o) ht
 have hl:(o.op.operands.toList.flatMap fun y=>B7 (Ct s1.tm y))=o.op.operands.toList.flatMap fun y=>B7 (Ct s.tm y):=by
  have Ayy:∀l:List Operand,(∀y∈l,Ct s1.tm y=Ct s.tm y)->(l.flatMap fun y=>B7 (Ct s1.tm y))=l.flatMap fun y=>B7 (Ct s.tm y):=by
   intro l
   induction l with
   |nil=>intro _;rfl
   |cons a l ih=>intro h;simp only[List.flatMap_cons];rw[h a (by simp),ih fun y hy=>h y (by simp[hy])]
  exact Ayy _ he
 unfold Pq;simp only[hl];cases hM:(Vl C P o.op && !Qo o.op)
 ·rfl
 ·simp only[cond_true];simp only[Bool.and_eq_true,Bool.not_eq_true'] at hM
  congr 1
  have Ayy:∀l:List Nat,(∀i∈l,s1.hp i=s.hp i)->(l.flatMap fun i=>match s1.hp i with|some (.st c)=>c.flatMap Av|_=>[])=l.flatMap fun i=>match s.hp i with|some (.st c)=>c.flatMap Av|_=>[]:=by
   intro l
   induction l with
   |nil=>intro _;rfl
   |cons a l ih=>intro h;simp only[List.flatMap_cons];rw[h a (by simp),ih fun y hy=>h y (by simp[hy])]
  exact Ayy _ fun i hi=>by
   obtain⟨y,hy,hi⟩:=List.mem_flatMap.1 hi;exact hh hM.1 hM.2 y hy i hi
theorem DX {a b:List Nat}(h:Ajt a b=true){i:Nat}(ha:i∈a)(hb:i∈b):False:=by
 have:=List.all_eq_true.1 h i ha;have h2:b.any (Nat.beq i)=true:=List.any_eq_true.2 ⟨i,hb,Nat.beq_refl i⟩;rw[h2] at this;cases this
theorem Ajm {a b:List Nat}(h:Ajt a b=true):Ajt b a=true:=by
 refine List.all_eq_true.2 fun i hi=>?_
 cases hc:a.any (Nat.beq i)
 ·rfl
 ·obtain⟨j,hj,e⟩:=List.any_eq_true.1 hc;rw[Nat.eq_of_beq_eq_true e] at hi;exact (DX h hj hi).elim
theorem BG:M6 C P x o=M6 C P o x:=by
 unfold M6;cases Vl C P x.op<;>cases Vl C P o.op<;>cases Yn P x.op<;>cases Yn P o.op<;>cases Qo x.op<;>cases Qo o.op<;>rfl
structure Pb (C:I3) (P:Program) (ops:Array Oper) (x o:Oper):Prop where
 xo:∀d,x.dst=some d->d ∉ looks ops o
 ne:∀d,x.dst=some d->o.dst≠some d
 ox:∀d,o.dst=some d->d ∉ looks ops x
 me:Vn C P x o=false∨M6 C P x o=true
theorem Ajh (h:Apm C P ops x o=false):Pb C P ops x o:=by
 unfold Apm at h;simp only[Bool.or_eq_false_iff] at h;obtain⟨h1,h2⟩:=h;have hT:=h1;unfold Aq1 at h1;simp only[Bool.or_eq_false_iff] at h1
 have a1:QV C P ops x o=false∨Vn C P x o=true:=by
  cases hc:Vn C P x o
  ·left;unfold QV;unfold Vn at hc;simp only[Bool.or_eq_false_iff] at hc ⊢;exact⟨⟨⟨h1.1,h1.2⟩,hc.1⟩,hc.2⟩
  ·exact .inr rfl
 refine⟨fun d hd=>?_,fun d hd he=>?_,fun d hd=>?_,?_⟩
 ·have:=h1.1;simp only[hd,Bool.or_eq_false_iff] at this;exact Wb this.1
 ·have:=h1.1;simp only[hd,he,Bool.or_eq_false_iff] at this;rw[Nat.beq_refl] at this;cases this.2
 ·have:=h1.2;simp only[hd] at this;exact Wb this
 ·cases hc:Vn C P x o
  ·exact .inl rfl
  ·rw[hc] at h2;right
   simpa using h2
theorem Pb.apart (ap:Pb C P ops x o)(h:Vn C P x o=false):EK C P ops x o:=by
 unfold Vn at h;simp only[Bool.or_eq_false_iff,Bool.and_eq_false_iff] at h;refine⟨ap.xo,ap.ne,ap.ox,fun hm=>?_,fun hm=>?_⟩
 ·rcases h.1 with h|h
  ·rw[hm] at h;cases h
  ·exact h
 ·rcases h.2 with h|h
  ·rw[hm] at h;cases h
  ·exact h
theorem Pb.same (ap:Pb C P ops x o)(hk:VY P x s s1)(hl:Yn P x.op=true->s1.hp=s.hp)(hM:Vl C P o.op=true)(hA:Qo o.op=false){i:Nat}(hi:s.hp i≠none):s1.hp i=s.hp i:=by
 rcases ap.me with h|h
 ·exact hk.2.2 ((ap.apart h).mo hM) i hi
 ·unfold M6 at h;rw[hA] at h;simp only[Bool.and_false,Bool.or_false,Bool.or_eq_true,Bool.and_eq_true] at h;rcases h with h|h
  ·have:=h.2;rw[Nm (C:=C) (P:=P) this] at hM;cases hM
  ·rw[hl h.2]
theorem Has.keepsS (h:Has C P o s)(ap:Pb C P ops x o)(hk:VY P x s s1)(hl:Yn P x.op=true->s1.hp=s.hp):Has C P o s1:=by
 have hop:∀y∈o.op.operands.toList,Ct s1.tm y=Ct s.tm y:=fun y hy=>G8 (ops:=ops) (o:=o) (fun t ht=>hk.1 t fun hd=>ap.xo t hd ht) y hy
 refine⟨fun y hy i hi=>?_,fun hM hA y hy i hi c hc p hp k hkk=>?_⟩
 ·rw[hop y hy] at hi;exact hk.2.1 i (h.1 y hy i hi)
 ·rw[hop y hy] at hi;rw[ap.same hk hl hM hA (h.1 y hy i hi)] at hc;exact hk.2.1 k (h.2 hM hA y hy i hi c hc p hp k hkk)
theorem Pb.symm (ap:Pb C P ops x o):Pb C P ops o x:=by
 refine⟨ap.ox,fun d hd he=>ap.ne d he hd,ap.xo,?_⟩
 rcases ap.me with h|h
 ·left;unfold Vn at h ⊢;rw[Bool.or_comm];exact h
 ·right;rw[BG];exact h
theorem A2u (hw:Has C P o s)(hwx:M6 C P x o=true->∀i∈Pq C P s x,s.hp i≠none)(ap:Pb C P ops x o)(hd:M6 C P x o=true->Ajt (Pq C P s x) (Pq C P s o)=true)
  (h:Ee C P N call ops x s (fun s1=>Ee C P N call ops o s1 K)=some r):Ee C P N call ops o s (fun s1=>Ee C P N call ops x s1 K)=some r:=by
 rcases ap.me with hm|hm
 ·exact A3e hw (ap.apart hm) h
 ·have hd:=hd hm;have hwx:=hwx hm;cases hx:I7 C P ops x s.tm
  ·cases ho:I7 C P ops o s.tm
   ·exact Aic hw ap.xo ap.ne ap.ox hx ho h
   ·have hMo:=Yr ho
    have hlx:SV P ops x s.tm:=by
     cases hl:Yn P x.op
     ·right
      have hMx:Vl C P x.op=true:=by
       unfold M6 at hm;simp only[hl,Bool.and_false,Bool.or_false,Bool.or_eq_true,Bool.and_eq_true] at hm;rcases hm with hm|hm
       ·exact hm.1
       ·exact ZQ hm.1
      cases hv:Hx ops x s.tm with
      |none=>
       exfalso;rw[Nx hx] at h;unfold gE at h;rw[hv] at h;cases h
      |some b=>
       cases b
       ·rfl
       ·unfold I7 at hx;rw[hMx,hv] at hx;cases hx
     ·exact .inl hl
    refine Aud ap.xo ap.ne ap.ox hlx (fun y hy i hi hR=>?_) ho h
    refine DX hd (ND ?_ hy hi) (GB hMo hR);unfold M6 at hm;simp only[Bool.or_eq_true,Bool.and_eq_true] at hm;rcases hm with (hm|hm)|hm
    ·exact .inl hm.1
    ·exact .inr hm.2
    ·exact .inl (ZQ hm.1)
  ·have hMx:=Yr hx;cases ho:I7 C P ops o s.tm
   ·have hlo:SV P ops o s.tm:=by
     cases hl:Yn P o.op
     ·right
      have hMo:Vl C P o.op=true:=by
       unfold M6 at hm;simp only[hl,Bool.and_false,Bool.false_or,Bool.or_eq_true,Bool.and_eq_true] at hm;rcases hm with hm|hm
       ·exact hm.1
       ·exact ZQ hm.2
      cases hv:Hx ops o s.tm with
      |none=>
       exfalso;obtain⟨s1,_,hk,_,h⟩:=Q5 h;have hv1:Hx ops o s1.tm=none:=by rw[N9 (fun t ht=>hk.1 t fun hd=>ap.xo t hd ht)];exact hv
       rw[Nx (by unfold I7;rw[hv1];cases Vl C P o.op<;>rfl)] at h
       unfold gE at h;rw[hv1] at h;cases h
      |some b=>
       cases b
       ·rfl
       ·unfold I7 at ho;rw[hMo,hv] at ho;cases ho
     ·exact .inl hl
    refine Aur hw ap.xo ap.ne ap.ox hlo (fun y hy i hi hR=>?_) hx h
    refine DX hd (GB hMx hR) (ND ?_ hy hi);unfold M6 at hm;simp only[Bool.or_eq_true,Bool.and_eq_true] at hm;rcases hm with (hm|hm)|hm
    ·exact .inr hm.2
    ·exact .inl hm.1
    ·exact .inl (ZQ hm.2)
   ·have hMo:=Yr ho;unfold M6 at hm;simp only[Bool.or_eq_true,Bool.and_eq_true] at hm;rcases hm with (hm|hm)|hm
    ·rw[Nm (C:=C) (P:=P) hm.2] at hMo;cases hMo
    ·rw[Nm (C:=C) (P:=P) hm.2] at hMx;cases hMx
    ·exact Auk hw (fun y hy i hi=>hwx i (ND (.inl hMx) hy hi)) ap.xo ap.ne ap.ox hm.1 hm.2 (fun i h1 h2=>DX hd (GB hMx h1) (GB hMo h2)) hx ho h
theorem Anh {α:Type}(a b:α)(l:List α)(f:α->Bool):(a::b::l).all f=(b::a::l).all f:=by
 simp only[List.all_cons];cases f a<;>cases f b<;>rfl
theorem KZ {bs:List (List Nat)}:∀(l:List Nat){dn dn':List (Nat × Oper × List Nat)} {s:St}{K:St->Option R},(∀f,dn.all f=dn'.all f)->Kf C P N call ops bs dn l s K=Kf C P N call ops bs dn' l s K
 |[],_,_,_,_,_=>rfl
 |i::l,dn,dn',s,K,h=>by
  unfold Kf;cases ops[i]? with
  |none=>rfl
  |some o=>
   simp only[F8,h]
   congr 2
   funext s'
   exact KZ l fun f=>by simp only[List.all_cons,h]
theorem RP {bs:List Nat}{i:Nat}(hi:ops[i]?=some o):(KK C P ops bs).getD i []=GE C P ops bs i o:=by
 unfold KK;rw[List.getD_eq_getElem?_getD,List.getElem?_map,List.getElem?_zipIdx,Array.getElem?_toList,hi];simp
theorem Wa {bs:List Nat}{i j:Nat}:j∈GE C P ops bs i o↔∃x,ops[j]?=some x∧M6 C P x o=true∧(Nat.blt j i&&(bs.getD i 0).testBit j)=false∧(Nat.blt i j&&(bs.getD j 0).testBit i)=false:=by
 unfold GE;simp only[List.mem_map,List.mem_filter,Bool.and_eq_true,Bool.not_eq_true',Prod.exists];constructor
 ·rintro⟨x,k,⟨hm,⟨h1,h2⟩,h3⟩,rfl⟩
  rw[List.mem_zipIdx_iff_getElem?] at hm;exact⟨x,by simpa using hm,h1,h2,h3⟩
 ·rintro⟨x,hx,h1,h2,h3⟩
  refine⟨x,j,⟨?_,⟨h1,h2⟩,h3⟩,rfl⟩;rw[List.mem_zipIdx_iff_getElem?]
  simpa using hx
theorem NI {sm:List (List Nat)} {i j:Nat}(h:j∈sm.getD i []):MV C P sm s i o=Pq C P s o:=by
 unfold MV;split
 ·rename_i e;rw[e] at h;simp at h
 ·rfl
theorem Anz {sm:List (List Nat)} {i:Nat}(h:sm.getD i []≠[]->Pq C P s1 o=Pq C P s o):MV C P sm s1 i o=MV C P sm s i o:=by
 unfold MV;split
 ·rfl
 ·rename_i e;exact h (by rw[e];simp)
theorem Ahl {l:List Nat}{j:Nat}:l.any (Nat.beq j)=true↔j∈l:=by
 constructor
 ·intro h;obtain⟨k,hk,e⟩:=List.any_eq_true.1 h;rw[Nat.eq_of_beq_eq_true e];exact hk
 ·intro h;exact List.any_eq_true.2 ⟨j,h,Nat.beq_refl j⟩
theorem EO {bs:List Nat}{sm:List (List Nat)} (hsm:sm=KK C P ops bs){i:Nat}(hi:ops[i]?=some o) {l':List Nat}:∀(l:List Nat){dn:List (Nat × Oper × List Nat)} {s:St}{K:St->Option R},Has C P o s ->
  (∀j∈l,j<i∧(bs.getD i 0).testBit j=false∧∀x,ops[j]?=some x->Pb C P ops x o)->Kf C P N call ops sm dn (l++i::l') s K=some r ->
  dn.all (ST C P sm s i o)=true∧Ee C P N call ops o s (fun s1=>Kf C P N call ops sm ((i,o,MV C P sm s i o)::dn) (l++l') s1 K)=some r
 |[],dn,s,K,hw,_,h=>by
  simp only[List.nil_append] at h ⊢;unfold Kf at h;rw[hi] at h;simp only[F8] at h;obtain⟨hb,h⟩:=As h;simp only[Bool.and_eq_true] at hb;exact⟨hb.1,h⟩
 |j::l,dn,s,K,hw,hl,h=>by
  simp only[List.cons_append] at h ⊢;unfold Kf at h;obtain⟨hji,TF,Xf⟩:=hl j (by simp)
  cases hj:ops[j]? with
  |none=>rw[hj] at h;cases h
  |some x=>
   rw[hj] at h;simp only[F8] at h;obtain⟨hb,h⟩:=As h;simp only[Bool.and_eq_true] at hb;have ap:=Xf x hj
   have hex:∀k∈MV C P sm s j x,s.hp k≠none:=fun k hk=>by
    have:=List.all_eq_true.1 hb.2 k hk;intro e;rw[e] at this;cases this
   obtain⟨s1,e1,D4,GT,h1⟩:=Q5 h;obtain⟨ha,h2⟩:=EO hsm hi l (hw.keepsS ap D4 GT) (fun k hk=>hl k (by simp[hk])) h1
   have A6x:Pq C P s1 o=Pq C P s o:=Ac4 (ops:=ops) (fun t ht=>D4.1 t fun hd=>ap.xo t hd ht) fun hM hA y hy k hk=>ap.same D4 GT hM hA (hw.1 y hy k hk)
   have hr1:MV C P sm s1 i o=MV C P sm s i o:=Anz fun _=>A6x
   rw[List.all_cons,Bool.and_eq_true] at ha
   have A32:Nat.blt i j=false:=by
    cases hh:Nat.blt i j
    ·rfl
    ·have:=Nat.le_of_ble_eq_true hh;omega
   have hmi:M6 C P x o=true->j∈sm.getD i []:=fun hs=>by
    rw[hsm,RP hi];exact Wa.2 ⟨x,hj,hs,by rw[TF,Bool.and_false],by rw[A32,Bool.false_and]⟩
   have hmj:M6 C P x o=true->i∈sm.getD j []:=fun hs=>by
    rw[hsm,RP hj];exact Wa.2 ⟨o,hi,by rw[BG];exact hs,by rw[A32,Bool.false_and],by rw[TF,Bool.and_false]⟩
   have Av6:M6 C P x o=true->Ajt (MV C P sm s j x) (MV C P sm s i o)=true:=by
    intro hs;have:=ha.1;unfold ST at this;rw[Ahl.2 (hmi hs),hr1] at this
    simpa using this
   have hok:∀q,ST C P sm s1 i o q=ST C P sm s i o q:=fun q=>by unfold ST;rw[hr1]
   have Vi:dn.all (ST C P sm s i o)=true:=by
    refine List.all_eq_true.2 fun q hq=>?_
    rw[←hok];exact List.all_eq_true.1 ha.2 q hq
   refine⟨Vi,?_⟩;rw[hr1] at h2
   have h3:=A2u hw (fun hs k hk=>hex k (by rw[NI (hmj hs)];exact hk)) ap (fun hs=>by have:=Av6 hs;rw[NI (hmj hs),NI (hmi hs)] at this;exact this)
    (Y0 (K':=fun s1=>Ee C P N call ops o s1 (fun s2=>Kf C P N call ops sm ((i,o,MV C P sm s i o)::(j,x,MV C P sm s j x)::dn) (l++l') s2 K)) e1 h2)
   obtain⟨s2,e2,Gc,LZ,h4⟩:=Q5 h3;refine Y0 e2 ?_
   have hr2:MV C P sm s2 j x=MV C P sm s j x:=Anz fun F9=>by
    obtain⟨q,hq⟩:=List.exists_mem_of_ne_nil _ F9;refine Ac4 (ops:=ops) (fun t ht=>Gc.1 t fun hd=>ap.ox t hd ht) fun hM hA y hy k hk=>ap.symm.same Gc LZ hM hA (hex k ?_)
    rw[NI hq];exact ND (.inl hM) hy hk
   unfold Kf;rw[hj];simp only[F8]
   have hc:(((i,o,MV C P sm s i o)::dn).all (ST C P sm s2 j x)&&(MV C P sm s2 j x).all fun k=>(s2.hp k).isSome)=true:=by
    simp only[List.all_cons,Bool.and_eq_true];refine⟨⟨?_,?_⟩,?_⟩
    ·unfold ST;simp only[hr2];cases hs:(sm.getD j []).any (Nat.beq i)
     ·rfl
     ·have hm:=Ahl.1 hs;rw[hsm,RP hj] at hm;obtain⟨o',ho',hso,_⟩:=Wa.1 hm;rw[hi] at ho';cases ho';rw[BG] at hso;rw[Ajm (Av6 hso)];rfl
    ·refine List.all_eq_true.2 fun q hq=>?_
     have:=List.all_eq_true.1 hb.1 q hq;unfold ST at this ⊢;rw[hr2];exact this
    ·rw[hr2];refine List.all_eq_true.2 fun k hk=>?_
     have:=Gc.2.1 k (hex k hk);cases hh:s2.hp k with
     |none=>exact absurd hh this
     |some _=>rfl
   rw[hc,hr2];show Ee C P N call ops x s2 _=some r
   have:(fun s'=>Kf C P N call ops sm ((j,x,MV C P sm s j x)::(i,o,MV C P sm s i o)::dn) (l++l') s' K)=fun s2=>Kf C P N call ops sm ((i,o,MV C P sm s i o)::(j,x,MV C P sm s j x)::dn) (l++l') s2 K:=by
    funext s'
    exact KZ _ fun f=>Anh _ _ _ f
   rw[this];exact h4
end
section
variable {R:Type} {r:R} {P:Program} {N:Nat} {w0:World} {X0:Fp} {Y:Nat->Prop} {β β':Bt} {s:St} {a:Act} {w w':World} {o:Oper} {ops:Array Oper} {C:I3} {call:Ah} {K:St->Option R}
theorem AD {bs:List Nat}:∀(l:List Oper)(n:Nat),FW C P ops bs l n=true->∀(k:Nat) o,l[k]?=some o->∀(j:Nat) x,ops[j]?=some x->j<n+k->Apm C P ops x o=true->(bs.getD (n+k) 0).testBit j=true
 |[],_,_,k,o,ho,_,_,_,_,_=>by simp at ho
 |o'::l,n,h,k,o,ho,j,x,hx,hj,W9=>by
  simp only[FW,Bool.and_eq_true] at h;cases k with
  |zero=>
   simp at ho;subst ho
   have:=List.all_eq_true.1 h.1 (x,j) (by
    rw[List.mem_zipIdx_iff_getElem?]
    simpa using hx)
   simp only[W9,Bool.not_true,Bool.or_false,Bool.or_eq_true,Bool.not_eq_true'] at this;rcases this with h'|h'
   ·have:Nat.blt j n=true:=Nat.ble_eq_true_of_le (by omega)
    rw[this] at h';cases h'
   ·exact h'
  |succ k=>
   have:=AD l (n+1) h.2 k o (by simpa using ho) j x hx (by omega) W9
   rwa [show n+(k+1)=n+1+k by omega]
theorem Aac {G:Us}(Ja:JJ P G w0 X0)(C4:∀f args res,call f args=some res->C7 G P f args res)(hok:PH C P ops=true){Q:Exit->Act->World->Prop}(hQ:∀s' a' w' β',K s'=some r->B4 N w0 X0 Y β' s' a' w'->Q .normal a' w'):
  ∀(fuel:Nat) {dn:List (Nat × Oper × List Nat)} {listed:Array Bool} {s:St} {a:Act} {w:World} {β:Bt},HeadInv .any ops ops.size listed->(P6 ops.size listed).length=fuel->B4 N w0 X0 Y β s a w->Kf C P N call ops (KK C P ops (Ks ops.toList [])) dn (P6 ops.size listed) s K=some r->wpAny P .any ops Q fuel listed a w:=by
 unfold PH at hok;simp only[Bool.and_eq_true] at hok;obtain⟨Apo,A0p⟩:=hok;intro fuel
 induction fuel with
 |zero=>
  intro dn listed s a w β inv hf h hk;have hp:=List.eq_nil_of_length_eq_zero hf;rw[hp] at hk;refine⟨?_,hQ s a w β hk h⟩;cases hr:Region.ready .any ops listed with
  |nil=>rfl
  |cons i l=>
   exfalso;have hi:i∈Region.ready .any ops listed:=by rw[hr];simp
   obtain⟨M3,o,ho,_⟩:=mem_ready.1 hi;have:i∈P6 ops.size listed:=Mg.2 ⟨(Array.getElem?_eq_some_iff.1 ho).1,M3⟩;rw[hp] at this;simp at this
 |succ fuel ih=>
  intro dn listed s a w β inv hf h hk;refine⟨fun hr=>?_,fun i hi=>?_⟩
  ·rw[VC Apo inv hr] at hf;cases hf
  ·obtain⟨M3,o,ho,Vi⟩:=mem_ready.1 hi;have Cd:i<ops.size:=(Array.getElem?_eq_some_iff.1 ho).1;obtain⟨l1,l2,h1,h2,h3⟩:=BB (Mg.2 ⟨Cd,M3⟩) inv.size;rw[h1] at hk
   have hnb:∀j∈l1,((Ks ops.toList []).getD i 0).testBit j=false:=by
    intro j hj;cases TF:((Ks ops.toList []).getD i 0).testBit j with
    |false=>rfl
    |true=>
     exfalso;have hjl:=V2 (listed:=listed) (fun j oj hj hl=>inv.closed j oj hj hl) ops.toList [] [] (by simp) rfl (by simp) i o ho Vi j TF
     have:j∈P6 ops.size listed:=by rw[h1];simp[hj]
     have:=getD_both (Mg.1 this).2;rw[hjl] at this;cases this
   have Xf:∀j∈l1,j<i∧((Ks ops.toList []).getD i 0).testBit j=false∧∀x,ops[j]?=some x->Pb C P ops x o:=by
    intro j hj;refine⟨h3 j hj,hnb j hj,fun x hxj=>Ajh ?_⟩
    cases W9:Apm C P ops x o with
    |false=>rfl
    |true=>
     exfalso;have TF:=AD ops.toList 0 A0p i o (by simpa using ho) j x hxj (by have:=h3 j hj;omega) W9
     rw[Nat.zero_add,hnb j hj] at TF;cases TF
   obtain⟨s',hs',hn⟩:=DD h Ja C4 ho (EO rfl ho l1 (Aqf h o) Xf hk).2;refine hn _ _ fun a' w' β' h'=>ih (dn:=(i,o,MV C P (KK C P ops (Ks ops.toList [])) s i o)::dn) (inv.set hi Cd) ?_ h' ?_
   ·rw[h2];rw[h1] at hf;simp at hf ⊢;omega
   ·rw[h2];exact hs'
theorem Wg (h:B4 N w0 X0 Y β s a w){G:Us}(Ja:JJ P G w0 X0)(C4:∀f args res,call f args=some res->C7 G P f args res)(hm:P.follows .mixedOrders=true)(hok:PH C P ops=true){Q:Exit->Act->World->Prop}
  (hk:Kf C P N call ops (KK C P ops (Ks ops.toList [])) [] (List.range ops.size) s K=some r) (hQ:∀s' a' w' β',K s'=some r->B4 N w0 X0 Y β' s' a' w'->Q .normal a' w'):wpAny P .any ops Q ops.size (Array.replicate ops.size false) a { w with drawn:=w.drawn+1 }:=by
 have hp:P6 ops.size (Array.replicate ops.size false)=List.range ops.size:=by
  unfold P6;refine List.filter_eq_self.2 fun i hi=>?_
  have:=List.mem_range.1 hi;simp[this]
 refine Aac (C:=C) (dn:=[]) Ja C4 hok hQ ops.size ⟨by simp,fun j oj _ hl=>(by rw[getD_replicate_false] at hl;cases hl),fun t ht ht'=>by omega⟩ (by rw[hp];simp) h.drew ?_
 rw[hp];exact hk
theorem Aba (h:B4 N w0 X0 Y β s a w){G:Us}(Ja:JJ P G w0 X0)(C4:∀f args res,call f args=some res->C7 G P f args res)(hm:P.follows .mixedOrders=true)(hok:PH C P ops=true){id:Nat}{Q:Exit->Act->World->Prop}
  (hk:Kf C P N call ops (KK C P ops (Ks ops.toList [])) [] (List.range ops.size) s K=some r) (hQ:∀s' a' w' β',K s'=some r->B4 N w0 X0 Y β' s' a' w'->Q .normal a' w'):(Code.region id ops true).wp P Q a w:=
 wp_region_any hm (Wg h Ja C4 hm hok hk hQ)
end
open Go.RowKit
section
variable {R:Type} {r:R} {N:Nat} {w0:World} {X0:Fp} {Y:Nat->Prop} {β β':Bt} {s:St} {a:Act} {w w':World}
theorem Aps {i:Nat}(hi:i<a.tmps.size):a.put (some i) (a.tmps.getD i undef)=a:=by
 obtain⟨tmps,dfr⟩:=a;change i<tmps.size at hi
 have:tmps.setIfInBounds i (tmps.getD i undef)=tmps:=by
  apply Array.ext_getElem?;intro k;by_cases e:i=k
  ·subst e;simp[hi]
  ·rw[Array.getElem?_setIfInBounds_ne e]
 simp only[Act.put,this]
theorem Aij {A:Nat->Prop}{es:Nat}{v:Value}(h:Aw w A (.lst true es 0 []) v):v=.slice none 0 0:=by
 cases h;rfl
theorem Ahu {id:Nat}(Bo:s.hp id=none){v:PV}{val:Value}(hv:Ed w (Db (A6 s.hp [(id,.ar false [])]) (Da β id none) Y) (Da β id none) v val) (hr:∀i∈B7 v,s.hp i≠none∨i=id):
  UH Y β s w v [(id,.ar false [])] val w (Da β id none):=by
 refine⟨rfl,rfl,rfl,Co.refl _ _,fun j hj=>Am _ _ (by rintro rfl;exact hj Bo),?_,?_,?_,?_,?_,hv,?_⟩
 ·intro j bx hm;simp at hm;rw[hm.2];trivial
 ·intro j bx hm;simp at hm;obtain⟨rfl,rfl⟩:=hm;exact .inl ⟨Au _ _ _,rfl⟩
 ·intro j bx k q hm hq;simp at hm;obtain⟨rfl,rfl⟩:=hm;rw[Au] at hq;cases hq
 ·intro j bx j' bx' k q q' hm Qf _ _;simp at hm Qf;rw[hm.1,Qf.1]
 ·intro j cells hm;simp at hm
 ·intro j hj;rcases hr j hj with h|rfl
  ·exact .inl h
  ·exact .inr ⟨.ar false [],by simp⟩
theorem TG (h:B4 N w0 X0 Y β s a w)(i:Nat):∃β',B4 N w0 X0 Y β' (NJ N s i) a w:=by
 unfold NJ;split
 ·rename_i es ht
  have Cd:i<N:=by
   rcases Nat.lt_or_ge i N with h'|h'
   ·exact h'
   ·rw[h.tmo i h'] at ht;cases ht
  have hv:=h.tms i Cd;rw[ht] at hv;have hv:=Aij hv;have hd:Ih N (some i)=true:=by simp[Ih,Nat.blt];omega
  have go:∀j,s.hp j=none->∃β',B4 N w0 X0 Y β' ⟨Da s.tm i (.view j es 0 0),Da s.hp j (some (.ar false []))⟩ a w:=by
   intro j hn;have:=h.stepR (d:=some i) hd (by simp[Ck,hn]) (Ahu (v:=.view j es 0 0) (val:=.slice none 0 0) hn (.inl ⟨Au _ _ _,rfl,rfl,none,rfl⟩) (by simp[B7,Cj,Av]))
   rw[←hv,Aps (by rw[h.tsz];exact Cd)] at this
   exact⟨_,this⟩
  cases hn:(s.hp i).isNone
  ·cases hn2:(s.hp (i+N*3000)).isNone
   ·exact⟨β,h⟩
   ·exact go _ (by simpa using hn2)
  ·exact go _ (by simpa using hn)
 ·exact⟨β,h⟩
theorem B4.recell (h:B4 N w0 X0 Y β s a w){id:Nat}{c c':List PV}(h0:s.hp id=some (.st c)) (hl:c'.length=c.length)
  (hc:∀(j:Nat) p,c'[j]?=some p->∃q,c[j]?=some q∧(∀v,Ci w (Db s.hp β Y) β q v->Ci w (Db s.hp β Y) β p v)∧∀i∈Av p,s.hp i≠none):
  B4 N w0 X0 Y β ⟨s.tm,Da s.hp id (some (.st c'))⟩ a w:=by
 have Iv:∀i,Cs (Da s.hp id (some (.st c')) i)↔Cs (s.hp i):=by
  intro i;by_cases e:i=id
  ·subst e;rw[Au,h0];exact Iff.rfl
  ·rw[Am _ _ e]
 have hX:BZ (Da s.hp id (some (.st c'))) β=BZ s.hp β:=by
  funext b
  apply propext;constructor
  ·rintro⟨i,o,hl,hb⟩;exact⟨i,o,(Iv i).1 hl,hb⟩
  ·rintro⟨i,o,hl,hb⟩;exact⟨i,o,(Iv i).2 hl,hb⟩
 have hA:Db (Da s.hp id (some (.st c'))) β Y=Db s.hp β Y:=by
  funext b;unfold Db;rw[hX]
 have F9:∀i,s.hp i≠none->Da s.hp id (some (.st c')) i≠none:=by
  intro i hi;by_cases e:i=id
  ·subst e;rw[Au];simp
  ·rw[Am _ _ e];exact hi
 have A6h:∀i,Da s.hp id (some (.st c')) i≠none->s.hp i≠none:=by
  intro i hi;by_cases e:i=id
  ·subst e;rw[h0];simp
  ·rw[Am _ _ e] at hi;exact hi
 refine⟨h.dfr,h.tsz,h.tmo,?_,?_,?_,?_,?_,?_,?_,?_,fun i hi=>⟨F9 _ (h.pin i hi).1,(h.pin i hi).2⟩,?_,?_,h.Ylt,h.fr⟩
 ·intro i hi;show Ed w (Db (Da s.hp id _) β Y) β _ _;rw[hA];exact h.tms i hi
 ·intro i b hb;show Tv w (Db (Da s.hp id _) β Y) β i b;rw[hA];by_cases e:i=id
  ·subst e;change Da s.hp i (some (.st c')) i=some b at hb;rw[Au] at hb;cases hb;obtain⟨b,o,h1,h2,h3⟩:=h.box i _ h0;refine⟨b,o,h1,fun j p hj=>?_,fun j hj=>h3 j (by rw[←hl];exact hj)⟩
   obtain⟨q,hq,hqp,_⟩:=hc j p hj;obtain⟨v,hv,hr⟩:=h2 j q hq;exact⟨v,hv,hqp v hr⟩
  ·change Da s.hp id (some (.st c')) i=some b at hb;rw[Am _ _ e] at hb;exact h.box i b hb
 ·intro i i' b o o' hl Nj hb Ip;exact h.inj i i' b o o' ((Iv i).1 hl) ((Iv i').1 Nj) hb Ip
 ·intro i b o hn hb;exact h.blt i b o (A6h i hn) hb
 ·intro i hi j hj;exact F9 j (h.wfT i hi j hj)
 ·intro i cells hb p hp j hj;change Da s.hp id (some (.st c')) i=_ at hb;by_cases e:i=id
  ·subst e;rw[Au] at hb;cases hb;obtain⟨k,hk⟩:=List.mem_iff_getElem?.1 hp;obtain⟨_,_,_,hr⟩:=hc k p hk;exact F9 j (hr j hj)
  ·rw[Am _ _ e] at hb;exact F9 j (h.wfB i cells hb p hp j hj)
 ·intro b hb;exact h.ownd b (by rw[←hX];exact hb)
 ·intro i bx b o hb hlb hβ Cd j hj;change Da s.hp id (some (.st c')) i=some bx at hb;by_cases e:i=id
  ·subst e;rw[Au] at hb;cases hb;exact h.rngB i _ b o h0 trivial hβ Cd j (by unfold BR at hj ⊢;simp only[hl] at hj;exact hj)
  ·rw[Am _ _ e] at hb;exact h.rngB i bx b o hb hlb hβ Cd j hj
 ·intro i c1 b o hb hβ Cd;change Da s.hp id (some (.st c')) i=_ at hb;by_cases e:i=id
  ·subst e;exact h.stp i c b o h0 hβ Cd
  ·rw[Am _ _ e] at hb;exact h.stp i c1 b o hb hβ Cd
 ·intro b hY hb;exact h.Yx b hY (by rw[←hX];exact hb)
theorem TB (h:B4 N w0 X0 Y β s a w)(id j:Nat):∃β',B4 N w0 X0 Y β' (YE N id s j) a w:=by
 unfold YE;split
 ·rename_i c h0;split
  ·rename_i es hj;cases hn:(s.hp (id+N*(j+1))).isNone
   ·exact⟨β,h⟩
   ·have hn:s.hp (id+N*(j+1))=none:=by simpa using hn
    have F9:id≠id+N*(j+1):=by
     intro e;rw[←e,h0] at hn;cases hn
    have h1:=h.stepR (d:=none) (v:=.top) (val:=undef) rfl (by simp[Ck,hn]) (Ahu hn (.top _) (by simp[B7,Cj,Av]))
    change B4 N w0 X0 Y (Da β (id+N*(j+1)) none) ⟨s.tm,Da s.hp (id+N*(j+1)) (some (.ar false []))⟩ a w at h1
    have h2:=h1.recell (id:=id) (c:=c) (c':=c.set j (.view (id+N*(j+1)) es 0 0)) (by show Da _ _ _ _=_;rw[Am _ _ F9];exact h0) (by simp) (by
     intro k p hp;by_cases e:k=j
     ·subst e
      have Cd:k<c.length:=by
       rcases Nat.lt_or_ge k c.length with h'|h'
       ·exact h'
       ·rw[List.getElem?_eq_none h'] at hj;cases hj
      rw[List.getElem?_set_self Cd] at hp;cases hp;refine⟨_,hj,fun v hv=>.inl ⟨Au _ _ _,rfl,rfl,none,Aij hv⟩,fun i hi=>?_⟩
      simp[Av] at hi;subst hi;show Da _ _ _ _≠none;rw[Au];simp
     ·rw[List.getElem?_set_ne (fun h=>e h.symm)] at hp
      refine⟨p,hp,fun _ hv=>hv,fun i hi=>?_⟩
      have:=h.wfB id c h0 p (List.mem_of_getElem? hp) i hi;show Da _ _ _ _≠none;by_cases e':i=id+N*(j+1)
      ·subst e';rw[Au];simp
      ·rw[Am _ _ e'];exact this)
    refine⟨Da β (id+N*(j+1)) none,?_⟩;have e3:Da (Da s.hp (id+N*(j+1)) (some (.ar false []))) id (some (.st (c.set j (.view (id+N*(j+1)) es 0 0))))=Da (Da s.hp id (some (.st (c.set j (.view (id+N*(j+1)) es 0 0))))) (id+N*(j+1)) (some (.ar false [])):=Acv _ _ _ (fun h=>F9 h.symm)
    change B4 N w0 X0 Y (Da β (id+N*(j+1)) none) ⟨s.tm,Da (Da s.hp (id+N*(j+1)) (some (.ar false []))) id (some (.st (c.set j (.view (id+N*(j+1)) es 0 0))))⟩ a w at h2;rw[e3] at h2;exact h2
  ·exact⟨β,h⟩
 ·exact⟨β,h⟩
theorem Su {f:St->Nat->St}(hf:∀s β,B4 N w0 X0 Y β s a w->∀i,∃β',B4 N w0 X0 Y β' (f s i) a w):∀(l:List Nat){s:St}{β:Bt},B4 N w0 X0 Y β s a w->∃β',B4 N w0 X0 Y β' (l.foldl f s) a w
 |[],_,β,h=>⟨β,h⟩
 |i::l,s,β,h=>by
  obtain⟨β1,h1⟩:=hf s β h i;exact Su hf l h1
theorem YN (h:B4 N w0 X0 Y β s a w)(i:Nat):∃β',B4 N w0 X0 Y β' (XM N s i) a w:=by
 unfold XM;split
 ·split
  ·exact Su (fun s β h i=>TB h _ i) _ h
  ·exact⟨β,h⟩
 ·exact⟨β,h⟩
theorem VW:∀{m:List (Nat × Nat)},Fh (m.map (·.2))=true->∀{i i' j:Nat},(i,j)∈m->(i',j)∈m->i=i'
 |[],_,_,_,_,h,_=>by simp at h
 |(x,y)::m,hn,i,i',j,h,h'=>by
  simp only[List.map_cons,Fh,Bool.and_eq_true,Bool.not_eq_true'] at hn
  have hy:∀k,(k,y) ∉ m:=by
   intro k hk;exact Wb hn.1 (List.mem_map.2 ⟨(k,y),hk,rfl⟩)
  rcases List.mem_cons.1 h with e|h
  ·cases e;rcases List.mem_cons.1 h' with e|h'
   ·cases e;rfl
   ·exact absurd h' (hy _)
  ·rcases List.mem_cons.1 h' with e|h'
   ·cases e;exact absurd h (hy _)
   ·exact VW hn.2 h h'
theorem HG:∀{m:List (Nat × Nat)},Fh (m.map (·.1))=true->∀{i j j':Nat},(i,j)∈m->(i,j')∈m->j=j'
 |[],_,_,_,_,h,_=>by simp at h
 |(x,y)::m,hn,i,j,j',h,h'=>by
  simp only[List.map_cons,Fh,Bool.and_eq_true,Bool.not_eq_true'] at hn
  have hx:∀k,(x,k) ∉ m:=by
   intro k hk;exact Wb hn.1 (List.mem_map.2 ⟨(x,k),hk,rfl⟩)
  rcases List.mem_cons.1 h with e|h
  ·cases e;rcases List.mem_cons.1 h' with e|h'
   ·cases e;rfl
   ·exact absurd h' (hx _)
  ·rcases List.mem_cons.1 h' with e|h'
   ·cases e;exact absurd h (hx _)
   ·exact HG hn.2 h h'
theorem P2 {i j:Nat}(h:Nat.beq i j=false):i≠j:=by rintro rfl;rw[Nat.beq_refl] at h;cases h
theorem GC:∀{m:List (Nat × Nat)} {i j:Nat},Zj m i=some j->(i,j)∈m
 |[],_,_,h=>by cases h
 |(x,y)::m,i,j,h=>by
  unfold Zj at h;cases hb:Nat.beq i x<;>rw[hb] at h
  ·exact List.mem_cons_of_mem _ (GC h)
  ·have:=Nat.eq_of_beq_eq_true hb;cases h;rw[this];simp
theorem IW {m:List (Nat × Nat)} {hp:Nat->Option Bx}:∀{l:List (Nat × Nat)} {j:Nat}{b:Bx},Br (Pu m hp l) j=some b->∃i b0,(i,j)∈l∧hp i=some b0∧b=Auy m b0
 |[],_,_,h=>by cases h
 |(x,y)::l,j,b,h=>by
  unfold Pu at h;cases hx:hp x with
  |none=>
   rw[hx] at h;obtain⟨i,b0,h1,h2⟩:=IW h;exact⟨i,b0,List.mem_cons_of_mem _ h1,h2⟩
  |some bx=>
   rw[hx] at h;simp only[Br] at h;cases hb:Nat.beq j y<;>rw[hb] at h
   ·obtain⟨i,b0,h1,h2⟩:=IW h;exact⟨i,b0,List.mem_cons_of_mem _ h1,h2⟩
   ·have:=Nat.eq_of_beq_eq_true hb;subst this;cases h;exact⟨x,bx,by simp,hx,rfl⟩
theorem Rf {m:List (Nat × Nat)} {hp:Nat->Option Bx}:∀{l:List (Nat × Nat)} {i j:Nat},(i,j)∈l->hp i≠none->Br (Pu m hp l) j≠none
 |[],_,_,h,_=>by simp at h
 |(x,y)::l,i,j,h,hi=>by
  unfold Pu;cases hx:hp x with
  |none=>
   rcases List.mem_cons.1 h with e|h
   ·cases e;exact absurd hx hi
   ·exact Rf h hi
  |some bx=>
   simp only[Br];cases hb:Nat.beq j y
   ·rcases List.mem_cons.1 h with e|h
    ·cases e;exact absurd rfl (P2 hb)
    ·exact Rf h hi
   ·simp
def SR (m:List (Nat × Nat)) (j:Nat):Option Nat:=
 match m with
 |[]=>none
 |(x,y)::r=>bif Nat.beq j y then some x else SR r j
theorem Ahk:∀{m:List (Nat × Nat)} {i j:Nat},SR m j=some i->(i,j)∈m
 |[],_,_,h=>by cases h
 |(x,y)::m,i,j,h=>by
  unfold SR at h;cases hb:Nat.beq j y<;>rw[hb] at h
  ·exact List.mem_cons_of_mem _ (Ahk h)
  ·have:=Nat.eq_of_beq_eq_true hb;cases h;rw[this];simp
theorem Ab1:∀{m:List (Nat × Nat)} {i j:Nat},(i,j)∈m->∃k,SR m j=some k
 |[],_,_,h=>by simp at h
 |(x,y)::m,i,j,h=>by
  unfold SR;cases hb:Nat.beq j y
  ·rcases List.mem_cons.1 h with e|h
   ·cases e;exact absurd rfl (P2 hb)
   ·exact Ab1 h
  ·exact⟨x,rfl⟩
theorem YK {f:Nat->PV}:∀{l:List Nat}{i:Nat},lk (l.map fun i=>(i,f i)) i=if i∈l then f i else .top
 |[],_=>rfl
 |x::l,i=>by
  simp only[List.map_cons,lk];cases hb:Nat.beq i x
  ·have:=P2 hb;simp only[cond_false,YK,List.mem_cons,this,false_or]
  ·have:=Nat.eq_of_beq_eq_true hb;subst this;simp
theorem WS {m:Nat}:∀{n i:Nat},i∈Pc m n->i<n
 |0,_,h=>by simp[Pc] at h
 |n+1,i,h=>by
  simp only[Pc,List.mem_append] at h;rcases h with h|h
  ·have:=WS h;omega
  ·cases hb:m.testBit n<;>rw[hb] at h
   ·simp at h
   ·simp at h;omega
theorem ZI (h:B4 N w0 X0 Y β s a w){m:List (Nat × Nat)} (h1:Fh (m.map (·.1))=true) (h2:Fh (m.map (·.2))=true) {ls:List Nat}(hls:∀i∈ls,i<N)(hpn:∀i,X0.pn i->(Dh N i,Dh N i)∈m):
  ∃β',B4 N w0 X0 Y β' ⟨lk (ls.map fun i=>(i,Akn m (s.tm i))),Br (Pu m s.hp m)⟩ a w:=by
 refine⟨fun j=>(SR m j).bind β,?_⟩
 have hβ:∀{i j:Nat},(i,j)∈m->(SR m j).bind β=β i:=by
  intro i j hm;obtain⟨k,hk⟩:=Ab1 hm;rw[hk];have:=VW h2 (Ahk hk) hm;subst this;rfl
 have hold:∀{j:Nat} {b:Bx},Br (Pu m s.hp m) j=some b->∃i b0,(i,j)∈m∧s.hp i=some b0∧b=Auy m b0∧(SR m j).bind β=β i:=by
  intro j b hb;obtain⟨i,b0,hm,h3,h4⟩:=IW hb;exact⟨i,b0,hm,h3,h4,hβ hm⟩
 have Iv:∀{j:Nat},Cs (Br (Pu m s.hp m) j)->∃i,(i,j)∈m∧Cs (s.hp i)∧(SR m j).bind β=β i:=by
  intro j hl;cases hb:Br (Pu m s.hp m) j with
  |none=>rw[hb] at hl;exact hl.elim
  |some b=>
   obtain⟨i,b0,hm,h3,rfl,h5⟩:=hold hb;refine⟨i,hm,?_,h5⟩;rw[hb] at hl;rw[h3];cases b0<;>exact hl
 have hX:∀b,BZ (Br (Pu m s.hp m)) (fun j=>(SR m j).bind β) b->BZ s.hp β b:=by
  rintro b ⟨j,o,hl,hb⟩
  obtain⟨i,_,Nj,e⟩:=Iv hl;exact⟨i,o,Nj,by rw[←e];exact hb⟩
 have hA:∀b,Db (Br (Pu m s.hp m)) (fun j=>(SR m j).bind β) Y b->Db s.hp β Y b:=fun b hb=>hb.imp (hX b) id
 have hC:∀p v,Ci w (Db s.hp β Y) β p v->Ci w (Db (Br (Pu m s.hp m)) (fun j=>(SR m j).bind β) Y) (fun j=>(SR m j).bind β) (Aex m p) v:=by
  intro p v hp;cases p with
  |view id es off n=>
   show Ci _ _ _ (match Zj m id with|some j=>.view j es off n|none=>.top) v
   cases hj:Zj m id with
   |some j=>
    have e:=hβ (GC hj);rcases hp with⟨e1,e2⟩|⟨b,o,x,cap,e1,e2⟩
    ·exact .inl ⟨by show (SR m j).bind β=none;rw[e];exact e1,e2⟩
    ·exact .inr ⟨b,o,x,cap,by show (SR m j).bind β=_;rw[e];exact e1,e2⟩
   |none=>exact Aw.top _
  |ptr id off=>
   show Ci _ _ _ (match Zj m id with|some j=>.ptr j off|none=>.top) v
   cases hj:Zj m id with
   |some j=>
    have e:=hβ (GC hj);obtain⟨b,o,e1,e2⟩:=hp;exact⟨b,o,by show (SR m j).bind β=_;rw[e];exact e1,e2⟩
   |none=>exact Aw.top _
  |sc v=>exact Aw.step (Co.refl _ _) (fun b _=>hA b) hp
  |lst z es n c=>exact Aw.step (Co.refl _ _) (fun b _=>hA b) hp
  |iptr c off=>exact Ci.step (p:=.iptr c off) (Co.refl _ _) (fun b _=>hA b) (by simp[Av]) hp
  |_=>exact Aw.top _
 have hV:∀p v,Ed w (Db s.hp β Y) β p v->Ed w (Db (Br (Pu m s.hp m)) (fun j=>(SR m j).bind β) Y) (fun j=>(SR m j).bind β) (Akn m p) v:=by
  intro p v hp;cases p with
  |agg c=>
   obtain⟨vs,e1,e2⟩:=hp;refine⟨vs,e1,Bw.of_at (by simp;exact e2.len) fun i q u hq hu=>?_⟩
   rw[List.getElem?_map] at hq;cases hc:c[i]? with
   |none=>rw[hc] at hq;cases hq
   |some q0=>
    rw[hc] at hq;cases hq;exact hC _ _ (e2.at_ hc hu)
  |view id es off n=>
   have:=hC (.view id es off n) v hp;change Ci _ _ _ (match Zj m id with|some j=>.view j es off n|none=>.top) v at this
   show Ed _ _ _ (match Zj m id with|some j=>.view j es off n|none=>.top) v
   cases hj:Zj m id<;>rw[hj] at this<;>exact this
  |ptr id off=>
   have:=hC (.ptr id off) v hp;change Ci _ _ _ (match Zj m id with|some j=>.ptr j off|none=>.top) v at this
   show Ed _ _ _ (match Zj m id with|some j=>.ptr j off|none=>.top) v
   cases hj:Zj m id<;>rw[hj] at this<;>exact this
  |sc v'=>exact hC (.sc v') v hp
  |lst z es n c=>exact hC (.lst z es n c) v hp
  |iptr c off=>exact hC (.iptr c off) v hp
  |_=>exact Aw.top _
 have hrC:∀p i,i∈Av (Aex m p)->∃k∈Av p,(k,i)∈m:=by
  intro p i hi;cases p with
  |view id es off n=>
   change i∈Av (match Zj m id with|some j=>.view j es off n|none=>.top) at hi
   cases hj:Zj m id<;>rw[hj] at hi
   ·simp[Av] at hi
   ·simp[Av] at hi;subst hi;exact⟨id,by simp[Av],GC hj⟩
  |ptr id off=>
   change i∈Av (match Zj m id with|some j=>.ptr j off|none=>.top) at hi
   cases hj:Zj m id<;>rw[hj] at hi
   ·simp[Av] at hi
   ·simp[Av] at hi;subst hi;exact⟨id,by simp[Av],GC hj⟩
  |_=>simp[Aex,Av] at hi
 have hrV:∀p i,i∈B7 (Akn m p)->∃k∈B7 p,(k,i)∈m:=by
  intro p i hi;cases p with
  |agg c=>
   simp only[Akn,B7,Cj,List.mem_flatMap,List.mem_map] at hi;obtain⟨_,⟨q,hq,rfl⟩,hi⟩:=hi;obtain⟨k,hk,hm⟩:=hrC q i hi;exact⟨k,by simp only[B7,Cj,List.mem_flatMap];exact⟨q,hq,hk⟩,hm⟩
  |view id es off n=>
   refine (hrC (.view id es off n) i ?_).imp fun k hk=>hk
   change i∈B7 (match Zj m id with|some j=>.view j es off n|none=>.top) at hi
   show i∈Av (match Zj m id with|some j=>.view j es off n|none=>.top)
   cases hj:Zj m id<;>rw[hj] at hi<;>exact hi
  |ptr id off=>
   refine (hrC (.ptr id off) i ?_).imp fun k hk=>hk
   change i∈B7 (match Zj m id with|some j=>.ptr j off|none=>.top) at hi
   show i∈Av (match Zj m id with|some j=>.ptr j off|none=>.top)
   cases hj:Zj m id<;>rw[hj] at hi<;>exact hi
  |_=>simp[Akn,Aex,B7,Cj,Av] at hi
 refine⟨h.dfr,h.tsz,?_,?_,?_,?_,?_,?_,?_,?_,?_,?_,?_,?_,h.Ylt,h.fr⟩
 ·intro i hi;show lk _ i=_;rw[YK,if_neg (fun hm=>by have:=hls i hm;omega)]
 ·intro i hi;show Ed w _ _ (lk _ i) _;rw[YK];split
  ·exact hV _ _ (h.tms i hi)
  ·exact Aw.top _
 ·intro j b hb;obtain⟨i,b0,hm,h3,rfl,e⟩:=hold hb;have Mx:=h.box i b0 h3;cases b0 with
  |st c=>
   obtain⟨b,o,e1,e2,e3⟩:=Mx;refine⟨b,o,by show (SR m j).bind β=_;rw[e];exact e1,fun k p hp=>?_,fun k hk=>e3 k (by simpa using hk)⟩
   rw[List.getElem?_map] at hp;cases hc:c[k]? with
   |none=>rw[hc] at hp;cases hp
   |some q=>
    rw[hc] at hp;cases hp;obtain⟨v,hv,hr⟩:=e2 k q hc;exact⟨v,hv,hC _ _ hr⟩
  |ar fz c=>
   have:=Tv.step' hA Mx;show Tv _ _ _ _ (.ar fz c);rcases this with⟨e1,e2⟩|⟨b,o,e1,e2⟩
   ·exact .inl ⟨by show (SR m j).bind β=_;rw[e];exact e1,e2⟩
   ·exact .inr ⟨b,o,by show (SR m j).bind β=_;rw[e];exact e1,e2⟩
  |mv=>exact trivial
 ·intro j j' b o o' hl Nj hb Ip;obtain⟨i,hm,GT,e⟩:=Iv hl;obtain⟨i',Qf,A8h,e'⟩:=Iv Nj;have:=h.inj i i' b o o' GT A8h (by rw[←e];exact hb) (by rw[←e'];exact Ip)
  subst this;exact HG h1 hm Qf
 ·intro j b o hn hb;cases hj:Br (Pu m s.hp m) j with
  |none=>exact absurd hj hn
  |some bx=>
   obtain⟨i,b0,_,h3,_,e⟩:=hold hj;exact h.blt i b o (by rw[h3];simp) (by rw[←e];exact hb)
 ·intro i hi j hj;change j∈B7 (lk _ i) at hj;rw[YK] at hj;split at hj
  ·obtain⟨k,hk,hm⟩:=hrV _ j hj;exact Rf hm (h.wfT i hi k hk)
  ·simp[B7,Cj,Av] at hj
 ·intro j cells hb p hp k hk;obtain⟨i,b0,_,h3,h4,_⟩:=hold hb;cases b0 with
  |st c=>
   cases h4;obtain⟨q,hq,rfl⟩:=List.mem_map.1 hp;obtain⟨k',Iu,hm⟩:=hrC q k hk;exact Rf hm (h.wfB i c h3 q hq k' Iu)
  |ar fz c=>cases h4
  |mv=>cases h4
 ·intro b hb;exact h.ownd b (hX b hb)
 ·intro j bx b o hb hlb hβ1 Cd k hk;obtain⟨i,b0,_,h3,h4,e⟩:=hold hb;subst h4;refine h.rngB i b0 b o h3 ?_ (by rw[←e];exact hβ1) Cd k ?_
  ·cases b0<;>exact hlb
  ·cases b0 with
   |st c=>simpa [BR,Auy] using hk
   |ar fz c=>exact hk
   |mv=>exact hk
 ·intro i hi;exact⟨Rf (hpn i hi) (h.pin i hi).1,(hβ (hpn i hi)).trans (h.pin i hi).2⟩
 ·intro j c b o hb hβ1 Cd;obtain⟨i,b0,hm,h3,h4,e⟩:=hold hb;cases b0 with
  |st c0=>
   obtain⟨k,rfl,hk⟩:=h.stp i c0 b o h3 (by rw[←e];exact hβ1) Cd
   exact⟨k,HG h1 hm (hpn k hk),hk⟩
  |ar fz c0=>cases h4
  |mv=>cases h4
 ·intro b hY hb;exact h.Yx b hY (hX b hb)
theorem Y1 {m:List (Nat × Nat)} {q:Nat × Nat}{o n:Nat}(h:q∈m):q∈VX m o n:=by
 unfold VX;split
 ·exact h
 ·exact List.mem_append.2 (.inl h)
theorem On {q:Nat × Nat}{new:Nat}:∀{c:List PV}{j:Nat}{m:List (Nat × Nat)},q∈m->q∈Vj N new c j m
 |[],_,_,h=>h
 |p::c,j,m,h=>by
  unfold Vj;split
  ·rename_i e;cases e
  ·rename_i e;cases e;exact On (Y1 h)
  ·rename_i e;cases e;exact On h
theorem Ada {q:Nat × Nat}{m:List (Nat × Nat)} {i:Nat}(h:q∈m):q∈NH N s m i:=by
 unfold NH;split
 ·exact Y1 h
 ·split
  ·exact h
  ·split
   ·exact On (Y1 h)
   ·exact Y1 h
 ·exact On h
 ·exact h
theorem EM {q:Nat × Nat}:∀{l:List Nat}{m:List (Nat × Nat)},q∈m->q∈l.foldl (NH N s) m
 |[],_,h=>h
 |_::l,_,h=>EM (l:=l) (Ada h)
theorem Vr {q:Nat × Nat}{m:List (Nat × Nat)} (h:q∈m):∀k,q∈Xo N s.hp k m
 |0=>h
 |k+1=>by
  unfold Xo;split
  ·exact On (Vr h k)
  ·exact Vr h k
theorem VS:∀{k i:Nat},i<k->s.hp (Dh N i)≠none->(Dh N i,Dh N i)∈Aa8 N s.hp k
 |0,_,h,_=>by omega
 |k+1,i,h,hn=>by
  unfold Aa8;by_cases e:i=k
  ·subst e
   have:(s.hp (Dh N i)).isSome=true:=by
    cases hq:s.hp (Dh N i) with
    |none=>exact absurd hq hn
    |some b=>rfl
   rw[this];simp
  ·have:=VS (k:=k) (i:=i) (by omega) hn
   cases (s.hp (Dh N k)).isSome
   ·exact this
   ·exact List.mem_append.2 (.inl this)
theorem JK (h:B4 N w0 X0 Y β s a w){L:Nat}{q:Bool}{K:St->Option R}(hk:Aih N (Pc L N) q s K=some r):∃β' s',K s'=some r∧B4 N w0 X0 Y β' s' a w:=by
 unfold Aih at hk;obtain⟨hb,D4⟩:=As hk;simp only[Bool.and_eq_true] at hb
 obtain⟨β2,h2⟩:∃β2,B4 N w0 X0 Y β2 (bif q then s else (Pc L N).foldl (XM N) ((Pc L N).foldl (NJ N) s)) a w:=by
  cases q
  ·obtain⟨β1,h1⟩:=Su (fun s β h i=>TG h i) (Pc L N) h
   obtain⟨β2,h2⟩:=Su (fun s β h i=>YN h i) (Pc L N) h1
   exact⟨β2,h2⟩
  ·exact⟨β,h⟩
 obtain⟨β3,h3⟩:=ZI h2 hb.1 hb.2 (ls:=Pc L N) (fun i hi=>WS hi) (fun i hi=>EM (Vr (VS (X0.p8 i hi) (h2.pin i hi).1) 8))
 exact⟨β3,_,D4,h3⟩
theorem B6 (h:B4 N w0 X0 Y β s a w){L:Nat}{K:St->Option R}(hk:Ir N L s K=some r):∃β' s',K s'=some r∧B4 N w0 X0 Y β' s' a w:=JK h hk
theorem LD (h:B4 N w0 X0 Y β s a w){L:Nat}{K:St->Option R}(hk:Acb N L s K=some r):∃β' s',K s'=some r∧B4 N w0 X0 Y β' s' a w:=JK h hk
end
open Go.RowKit
section
variable {R:Type} {r:R} {P:Program} {N:Nat} {w0:World} {X0:Fp} {Y:Nat->Prop} {C:I3} {call:Ah}
theorem Y6 {n:Nat}{F:St->Option R}{s:St}(h:PC n F s=some r):F s=some r:=by
 unfold PC at h;split at h
 ·cases h
 ·exact h
theorem KH {β:Bt}{s:St}{a:Act}{w:World}(h:B4 N w0 X0 Y β s a w){c:Operand}{kt kf:St->Option R}(hk:Anc s c kt kf=some r):(a.eval c=.bool true∧kt s=some r)∨(a.eval c=.bool false∧kf s=some r):=by
 unfold Anc at hk;split at hk
 ·rename_i d;split at hk
  ·rename_i b ht;have hv:a.eval (.tmp d)=.bool b:=Dc h (x:=.tmp d) ht;cases b
   ·change kf ⟨Da s.tm d (.sc (.bool false)),s.hp⟩=some r at hk;rw[FQ s.tm ht] at hk;exact .inr ⟨hv,hk⟩
   ·change kt ⟨Da s.tm d (.sc (.bool true)),s.hp⟩=some r at hk;rw[FQ s.tm ht] at hk;exact .inl ⟨hv,hk⟩
  ·rename_i ht;have hu:=Dw h (.tmp d);change Ed _ _ _ (s.tm d) _ at hu;rw[ht] at hu;have Lq:Aw w _ .ub (a.eval (.tmp d)):=hu
   obtain⟨b,hv⟩:∃b,a.eval (.tmp d)=.bool b:=by
    generalize a.eval (.tmp d)=x at Lq;cases Lq with
    |ub b=>exact⟨b,rfl⟩
   obtain⟨h1,h2⟩:=UZ hk;cases b
   ·exact .inr ⟨hv,h2⟩
   ·exact .inl ⟨hv,h1⟩
  ·cases hk
 ·exact .inl ⟨rfl,hk⟩
 ·exact .inr ⟨rfl,hk⟩
 ·cases hk
theorem NT {c:Code}{Q:Exit->Act->World->Prop}{F:(St->Option R)->St->Option R} {nm:St->(St->Option R)->Option R}
  (hnm:∀{β s a w} {K:St->Option R},B4 N w0 X0 Y β s a w->nm s K=some r->∃β' s',K s'=some r∧B4 N w0 X0 Y β' s' a w)
  (hF:∀{β s a w} {K:St->Option R}{Q':Act->World->Prop},B4 N w0 X0 Y β s a w->F K s=some r->(∀s' a' w' β',K s'=some r->B4 N w0 X0 Y β' s' a' w'->Q' a' w')->c.wp P (Exit.then Q' Q) a w):
  ∀(n:Nat) {β s a w},B4 N w0 X0 Y β s a w->SJ F nm n s=some r->Code.rounds P c Q n a w
 |0,_,_,_,_,_,hk=>by cases hk
 |n+1,β,s,a,w,h,hk=>by
  rw[rounds_succ];refine hF h hk fun s' a' w' β' Iu h'=>?_
  obtain⟨β1,s1,D4,h1⟩:=hnm h' Iu;exact NT hnm hF n h1 D4
theorem CK {G:Us}(Ja:JJ P G w0 X0)(C4:∀f args res,call f args=some res->C7 G P f args res)(hm:P.follows .mixedOrders=true){fu:Nat}:
  ∀(c:Code) {ln:Nat} {lx:Nat->Nat} {lr:Nat} {kn:St->Option R} {kx:Nat->St->Option R} {kr:St->Option R} {β:Bt} {s:St} {a:Act} {w:World} {Q:Exit->Act->World->Prop},B4 N w0 X0 Y β s a w ->
   Mq C P fu N call c ln lx lr kn kx kr s=some r->(∀s' a' w' β',kn s'=some r->B4 N w0 X0 Y β' s' a' w'->Q .normal a' w') ->
   (∀id s' a' w' β',kx id s'=some r->B4 N w0 X0 Y β' s' a' w'->Q (.exit id) a' w')->(∀s' a' w' β',kr s'=some r->B4 N w0 X0 Y β' s' a' w'->Q .ret a' w')->c.wp P Q a w:=by
 intro c
 induction c with
 |skip=>intro ln lx lr kn kx kr β s a w Q h hk hn hx hr;exact wp_skip (hn s a w β hk h)
 |region id ops draw=>
  intro ln lx lr kn kx kr β s a w Q h hk hn hx hr;unfold Mq at hk;cases draw
  ·simp only[SI,Bool.false_and,cond_false] at hk;exact ZP h Ja C4 hk hn
  ·simp only[SI,Aoi,Bool.true_and,cond_true] at hk;cases hb:NU C P ops<;>rw[hb] at hk
   ·obtain⟨Ip,D4⟩:=As (show Ar _ _=some r from hk)
    exact Aba h Ja C4 hm Ip D4 hn
   ·exact XS h Ja C4 hm hb hk hn
 |seq c1 c2 ih1 ih2=>
  intro ln lx lr kn kx kr β s a w Q h hk hn hx hr;unfold Mq at hk
  refine wp_seq (ih1 h hk (fun s' a' w' β' Iu h'=>by
    cases hc:Aho P c1 c2
    ·rw[hc] at Iu;exact ih2 h' Iu hn hx hr
    ·rw[hc] at Iu;cases hq:FD c1 c2
     ·rw[hq] at Iu;obtain⟨β1,s1,D4,h1⟩:=B6 h' (show Ir _ _ _ _=some r from Iu)
      exact ih2 h1 (Y6 D4) hn hx hr
     ·rw[hq] at Iu;obtain⟨β1,s1,D4,h1⟩:=LD h' (show Acb _ _ _ _=some r from Iu)
      exact ih2 h1 (Y6 D4) hn hx hr) (fun id s' a' w' β' Iu h'=>hx id s' a' w' β' Iu h') (fun s' a' w' β' Iu h'=>hr s' a' w' β' Iu h'))
 |cond c c1 c2 ih1 ih2=>
  intro ln lx lr kn kx kr β s a w Q h hk hn hx hr;unfold Mq at hk;rcases KH h hk with⟨hc,D4⟩|⟨hc,D4⟩
  ·exact wp_cond_true hc (ih1 h D4 hn hx hr)
  ·exact wp_cond_false hc (ih2 h D4 hn hx hr)
 |block id c ih=>
  intro ln lx lr kn kx kr β s a w Q h hk hn hx hr;unfold Mq at hk;refine wp_block (ih h hk (fun s' a' w' β' Iu h'=>hn s' a' w' β' Iu h') (fun j s' a' w' β' Iu h'=>?_) (fun s' a' w' β' Iu h'=>hr s' a' w' β' Iu h'))
  show (if j=id then _ else _)
  by_cases e:j=id
  ·subst e;rw[if_pos rfl];rw[Nat.beq_refl] at Iu;exact hn s' a' w' β' Iu h'
  ·rw[if_neg e]
   have:Nat.beq j id=false:=by
    cases hb:Nat.beq j id
    ·rfl
    ·exact absurd (Nat.eq_of_beq_eq_true hb) e
   rw[this] at Iu;exact hx j s' a' w' β' Iu h'
 |loop c ih=>
  intro ln lx lr kn kx kr β s a w Q h hk hn hx hr;unfold Mq at hk;obtain⟨β1,s1,D4,h1⟩:=B6 h hk;refine wp_loop_rounds fu (NT (fun h hk=>B6 h hk) (fun h hk hQ=>?_) fu h1 D4)
  exact ih h hk hQ (fun id s' a' w' β' Iu h'=>hx id s' a' w' β' Iu h') (fun s' a' w' β' Iu h'=>hr s' a' w' β' Iu h')
 |«exit» id=>intro ln lx lr kn kx kr β s a w Q h hk hn hx hr;exact wp_exit (hx id s a w β hk h)
 |ret=>intro ln lx lr kn kx kr β s a w Q h hk hn hx hr;exact wp_ret (hr s a w β hk h)
 |_=>intro ln lx lr kn kx kr β s a w Q h hk hn hx hr;cases hk
end
open Go.RowKit
theorem Py:∀{l:List (Nat × Bx)} {i:Nat}{b:Bx},Br l i=some b->(i,b)∈l
 |[],_,_,h=>by cases h
 |(j,c)::l,i,b,h=>by
  unfold Br at h;cases hb:Nat.beq i j<;>rw[hb] at h
  ·exact List.mem_cons_of_mem _ (Py h)
  ·have:=Nat.eq_of_beq_eq_true hb;cases h;rw[this];simp
theorem YW:∀{l:List (Nat × Bx)},(l.map (·.1)).Nodup->∀{i b},(i,b)∈l->Br l i=some b
 |[],_,_,_,h=>by cases h
 |(j,c)::l,hn,i,b,h=>by
  simp only[List.map_cons,List.nodup_cons] at hn;unfold Br;rcases List.mem_cons.1 h with e|h
  ·cases e;simp only[Nat.beq_refl,cond_true]
  ·have:Nat.beq i j=false:=by
    cases hb:Nat.beq i j
    ·rfl
    ·exact absurd (Nat.eq_of_beq_eq_true hb ▸ List.mem_map.2 ⟨_,h,rfl⟩) hn.1
   simp only[this,cond_false];exact YW hn.2 h
section
variable {R:Type} {r:R} {P:Program} {N:Nat} {w0:World} {X0:Fp} {Y:Nat->Prop} {β β':Bt} {s:St} {a:Act} {w w':World} {A:Nat->Prop}
theorem Arq {id:Nat}{t:CT}{p:PV}{K:PV->List (Nat × Bx)->Option R} (hk:Ap3 id t p K=some r):
  (∃c,K c []=some r∧AC c∧∀w A q u,Jf w A q p u->Aw w A c u)∨∃es n cc,p=.own es n cc∧K (.view id es 0 n) [(id,.ar false cc)]=some r:=by
 have tree:∀t',(HJ t' p fun c=>K c [])=some r->∃c,K c []=some r∧AC c∧∀w A q u,Jf w A q p u->Aw w A c u:=by
  intro t' hk;obtain⟨c,hk,hT,PI,hv⟩:=P5 hk;refine⟨c,hk,hT,fun w A q u h=>(hv w A (fun _=>none) u ?_).1⟩
  cases p<;>first|exact h|exact PI.elim
 unfold Ap3 at hk;cases t with
 |sl es=>
  dsimp only at hk;split at hk
  ·rename_i es' n c;cases hb:Nat.beq es' es<;>rw[hb] at hk
   ·cases hk
   ·have:=Nat.eq_of_beq_eq_true hb;subst this;exact .inr ⟨_,_,_,rfl,hk⟩
  ·exact .inl (tree (.sl es) hk)
 |int k=>exact .inl (tree _ hk)
 |bool=>exact .inl (tree _ hk)
 |str=>exact .inl (tree _ hk)
 |any=>exact .inl (tree _ hk)
theorem Uz:∀{ts:List CT}{id:Nat}{ps:List PV}{K:List PV->List (Nat × Bx)->Option R},JB N id ts ps K=some r ->
  ∃cs bs,∃qs:List (Nat × Nat),K cs bs=some r∧cs.length=ps.length∧ps.length=ts.length∧bs.map (·.1)=qs.map (·.1)∧(∀q∈qs,∀q'∈qs,q.2=q'.2->q.1=q'.1) ∧
   (∀i bx,(i,bx)∈bs->∃c,bx=.ar false c)∧(∀c∈cs,SM c)∧(∀c∈cs,∀i∈Av c,∃bx,(i,bx)∈bs) ∧
   ∀(w:World) (A:Nat->Prop) (own β':Bt) (j0:Nat) (us:List Value),(∀q∈qs,β' q.1=own (j0+q.2))->G6 w A own j0 ps us->Bw (Ci w A β') cs us∧∀i bx,(i,bx)∈bs->Tv w A β' i bx
 |[],id,ps,K,hk=>by
  obtain⟨rfl,hk⟩:=Ec hk;refine⟨[],[],[],hk,rfl,rfl,rfl,by simp,by simp,by simp,by simp,fun w A own β' j0 us _ h=>⟨?_,by simp⟩⟩
  cases us with
  |nil=>trivial
  |cons u us=>exact h.elim
 |t::ts,id,ps,K,hk=>by
  unfold JB at hk;obtain⟨p,ps',KX,D4⟩:=Bk hk;subst KX;rcases Arq D4 with⟨c,Gc,hT,hv⟩|⟨es,n,cc,rfl,Gc⟩
  ·obtain⟨cs,bs,qs,Tn,hl,LZ,hb,NG,H3,hF,Nv,Ti⟩:=Uz Gc;refine⟨c::cs,bs,qs.map (fun q=>(q.1,q.2+1)),Tn,by simp[hl],by simp[LZ],by rw[hb];simp,?_,H3,?_,?_,fun w A own β' j0 us hβ ho=>?_⟩
   ·intro q hq q' Ht e;obtain⟨q0,BL,rfl⟩:=List.mem_map.1 hq;obtain⟨q1,Lw,rfl⟩:=List.mem_map.1 Ht;exact NG q0 BL q1 Lw (by simp only at e;omega)
   ·intro y hy;rcases List.mem_cons.1 hy with rfl|hy
    ·exact Vu hT
    ·exact hF y hy
   ·intro y hy i hi;rcases List.mem_cons.1 hy with rfl|hy
    ·rw[J2 hT] at hi;cases hi
    ·exact Nv y hy i hi
   ·cases us with
    |nil=>exact ho.elim
    |cons u us=>
     obtain⟨h1,h2⟩:=Ti w A own β' (j0+1) us (fun q hq=>by rw[hβ _ (List.mem_map_of_mem hq)];congr 1;simp only;omega) ho.2
     exact⟨⟨Am2 (hv w A _ u ho.1),h1⟩,h2⟩
  ·obtain⟨cs,bs,qs,Tn,hl,LZ,hb,NG,H3,hF,Nv,Ti⟩:=Uz Gc;refine⟨_::cs,(id,.ar false cc)::bs,(id,0)::qs.map (fun q=>(q.1,q.2+1)),Tn,by simp[hl],by simp[LZ],by simp only[List.map_cons,hb];simp,?_,?_,?_,?_,fun w A own β' j0 us hβ ho=>?_⟩
   ·intro q hq q' Ht e;rcases List.mem_cons.1 hq with rfl|hq
    ·rcases List.mem_cons.1 Ht with rfl|Ht
     ·rfl
     ·obtain⟨q0,BL,rfl⟩:=List.mem_map.1 Ht;simp only at e;omega
    ·obtain⟨q0,BL,rfl⟩:=List.mem_map.1 hq;rcases List.mem_cons.1 Ht with rfl|Ht
     ·simp only at e;omega
     ·obtain⟨q1,Lw,rfl⟩:=List.mem_map.1 Ht;exact NG q0 BL q1 Lw (by simp only at e;omega)
   ·intro i bx hm;rcases List.mem_cons.1 hm with e|hm
    ·cases e;exact⟨cc,rfl⟩
    ·exact H3 i bx hm
   ·intro y hy;rcases List.mem_cons.1 hy with rfl|hy
    ·trivial
    ·exact hF y hy
   ·intro y hy i hi;rcases List.mem_cons.1 hy with rfl|hy
    ·simp only[Av,List.mem_singleton] at hi;subst hi;exact⟨_,List.mem_cons_self⟩
    ·obtain⟨bx,Mx⟩:=Nv y hy i hi;exact⟨bx,List.mem_cons_of_mem _ Mx⟩
   ·cases us with
    |nil=>exact ho.elim
    |cons u us=>
     obtain⟨h1,h2⟩:=Ti w A own β' (j0+1) us (fun q hq=>by rw[hβ _ (List.mem_cons_of_mem _ (List.mem_map_of_mem hq))];congr 1;simp only;omega) ho.2
     have h0:=hβ (id,0) List.mem_cons_self;simp only[Nat.add_zero] at h0;refine⟨⟨?_,h1⟩,fun i bx hm=>?_⟩
     ·rcases ho.1 with⟨h3,rfl,_,h5⟩|⟨b,ob,cap,h3,h4,h5,h6,h7,_⟩
      ·exact .inl ⟨h0.trans h3,rfl,rfl,h5⟩
      ·exact .inr ⟨b,ob,ob,cap,h0.trans h3,h4,.inl rfl,h5,h6,h7⟩
     ·rcases List.mem_cons.1 hm with e|hm
      ·cases e;exact GI ho.1 h0
      ·exact h2 i bx hm
theorem Asv {i:Nat}{t:TypeId}{p:PV}{K:PV->List (Nat × Bx)->Option R} (hk:inK P N i t p K=some r):
  ∃v bs,∃qs:List (Nat × Nat),K v bs=some r∧bs.map (·.1)=qs.map (·.1)∧(∀q∈qs,∀q'∈qs,q.2=q'.2->q.1=q'.1)∧(GH p=true->(Dh N i,0)∈qs∧i<8) ∧
   (∀id bx,(id,bx)∈bs->Cs (some bx)∧∀c,bx=.st c->id=Dh N i∧GH p=true)∧(∀id∈B7 v,∃bx,(id,bx)∈bs)∧HW bs ∧
   ∀(w:World) (A:Nat->Prop) (bt β':Bt) (u:Value),(∀q∈qs,β' q.1=bt q.2)->Ad7 w A bt p u->Ed w A β' v u∧(∀id bx,(id,bx)∈bs->Tv w A β' id bx) ∧
    ∀id bx b o,(id,bx)∈bs->β' id=some (b,o)->∀j,BR bx o j->A0e bt p b j:=by
 have owns:∀{bs:List (Nat × Bx)} {qs:List (Nat × Nat)},bs.map (·.1)=qs.map (·.1)->(∀i bx,(i,bx)∈bs->∃c,bx=.ar false c)->∀{bt β':Bt},(∀q∈qs,β' q.1=bt (1+q.2))->∀id bx b o,(id,bx)∈bs->β' id=some (b,o)->∀j,BR bx o j->∃k o',bt (k+1)=some (b,o')∧o'<=j:=by
  intro bs qs hb H3 bt β' hβ id bx b o hm YC j hj;have:id∈qs.map (·.1):=by rw[←hb];exact List.mem_map.2 ⟨_,hm,rfl⟩
  obtain⟨q,hq,rfl⟩:=List.mem_map.1 this;obtain⟨c,rfl⟩:=H3 _ _ hm;rw[hβ q hq,Nat.add_comm] at YC;exact⟨q.2,o,YC,hj⟩
 have nost:∀{bs:List (Nat × Bx)},(∀i bx,(i,bx)∈bs->∃c,bx=.ar false c)->HW bs:=by
  intro bs H3 id cells hm;obtain⟨c,e⟩:=H3 id _ hm;cases e
 unfold inK at hk;split at hk
 ·rename_i e he;obtain⟨ps,rfl,D4⟩:=WK hk;obtain⟨hi8,Gc⟩:=As D4;have hi8:i<8:=Nat.lt_of_succ_le (Nat.le_of_ble_eq_true hi8);obtain⟨cs,bs,qs,Tn,hl,LZ,hb,NG,H3,hF,Nv,hv⟩:=Uz Gc;refine⟨_,_,(Dh N i,0)::qs.map (fun q=>(q.1,q.2+1)),Tn,by simp only[List.map_cons,hb];simp,?_,fun _=>⟨List.mem_cons_self,hi8⟩,?_,?_,?_,fun w A bt β' u hβ hp=>?_⟩
  ·intro q hq q' Ht e;rcases List.mem_cons.1 hq with rfl|hq
   ·rcases List.mem_cons.1 Ht with rfl|Ht
    ·rfl
    ·obtain⟨q0,BL,rfl⟩:=List.mem_map.1 Ht;simp only at e;omega
   ·obtain⟨q0,BL,rfl⟩:=List.mem_map.1 hq;rcases List.mem_cons.1 Ht with rfl|Ht
    ·simp only at e;omega
    ·obtain⟨q1,Lw,rfl⟩:=List.mem_map.1 Ht;exact NG q0 BL q1 Lw (by simp only at e;omega)
  ·intro id bx hm;rcases List.mem_cons.1 hm with e|hm
   ·cases e;exact⟨trivial,fun _ _=>⟨rfl,rfl⟩⟩
   ·obtain⟨c,rfl⟩:=H3 id bx hm;exact⟨trivial,fun _ e=>by cases e⟩
  ·intro id Bo;simp only[B7,Cj,Av,List.mem_singleton] at Bo;subst Bo;exact⟨_,List.mem_cons_self⟩
  ·intro id cells hm c hc k hk;rcases List.mem_cons.1 hm with e|hm
   ·cases e;obtain⟨bx,Mx⟩:=Nv c hc k hk;exact⟨bx,List.mem_cons_of_mem _ Mx⟩
   ·obtain⟨c,e⟩:=H3 id _ hm;cases e
  ·obtain⟨b,o,h1,rfl,_,vs,h3,h4,h5⟩:=hp;have h0:=hβ (Dh N i,0) List.mem_cons_self;simp only at h0;have hβ1:∀q∈qs,β' q.1=bt (1+q.2):=fun q hq=>by rw[hβ _ (List.mem_cons_of_mem _ (List.mem_map_of_mem hq)),Nat.add_comm]
   obtain⟨h6,h7⟩:=hv w A bt β' 1 vs hβ1 h3;refine⟨⟨b,o,h0.trans h1,by simp⟩,fun id bx hm=>?_,fun id bx b' o' hm Ip j hj=>?_⟩
   ·rcases List.mem_cons.1 hm with e|hm
    ·cases e;refine⟨b,o,h0.trans h1,fun k c hk=>?_,fun k hk=>h5 k (by omega)⟩
     obtain⟨v,hv,hcr⟩:=h6.get hk;exact⟨v,h4 k v hv,hcr⟩
    ·exact h7 id bx hm
   ·rcases List.mem_cons.1 hm with e|hm
    ·cases e;rw[h0] at Ip;have hj:o'<=j∧j<o'+cs.length:=hj;exact .inr ⟨o',ps,Ip,hj.1,.inl ⟨rfl,by omega⟩⟩
    ·exact .inl (owns hb H3 hβ1 id bx b' o' hm Ip j hj)
 ·split at hk
  ·rename_i ps;obtain⟨e,he,D4⟩:=Dl hk;obtain⟨hi8,Gc⟩:=As D4;have hi8:i<8:=Nat.lt_of_succ_le (Nat.le_of_ble_eq_true hi8);obtain⟨q,qr,hq,Tn⟩:=Bk Gc;subst hq;obtain⟨ML,Tc⟩:=Ec Tn;subst ML;unfold Gl at Tc;split at Tc
   ·rename_i es' n c;cases hb:Nat.beq es' (Bl P e)<;>rw[hb] at Tc
    ·cases Tc
    ·have KE:=Nat.eq_of_beq_eq_true hb;subst KE;refine⟨_,_,[(Dh N i,0)],Tc,rfl,by simp,fun _=>⟨by simp,hi8⟩,?_,?_,?_,fun w A bt β' u hβ hp=>?_⟩
     ·intro id bx hm;simp only[List.mem_singleton] at hm;cases hm;exact⟨trivial,fun _ e=>by cases e⟩
     ·intro id Bo;simp only[B7,Cj,Av,List.mem_singleton] at Bo;subst Bo;exact⟨_,List.mem_cons_self⟩
     ·intro id cells hm;simp only[List.mem_singleton] at hm;cases hm
     ·obtain⟨es,n',c',h1,h2⟩:=hp;cases h1;have h0:=hβ (Dh N i,0) List.mem_cons_self;simp only at h0;refine⟨?_,fun id bx hm=>?_,fun id bx b' o' hm Ip j hj=>?_⟩
      ·rcases h2 with⟨h3,rfl,_,h5⟩|⟨b,ob,cap,h3,h4,h5,h6,h7,_⟩
       ·exact .inl ⟨h0.trans h3,rfl,rfl,h5⟩
       ·exact .inr ⟨b,ob,ob,cap,h0.trans h3,h4,.inl rfl,h5,h6,h7⟩
      ·simp only[List.mem_singleton] at hm;cases hm;exact GI h2 h0
      ·simp only[List.mem_singleton] at hm;cases hm;rw[h0] at Ip;exact .inr ⟨o',_,Ip,hj,.inr rfl⟩
   ·cases Tc
  ·rename_i hnt;cases H6:Cr P t<;>rw[H6] at hk
   ·simp only[cond_false] at hk;obtain⟨cs,bs,qs,Tn,hl,LZ,hb,NG,H3,hF,Nv,hv⟩:=Uz hk;obtain⟨c,cs',WX,Tc⟩:=Bk Tn;subst WX;obtain⟨ML,VL⟩:=Ec Tc;subst ML;have hFc:=hF c (by simp)
    have hnL:GH p=false∨∃ps,p=.pbox ps:=by
     cases p<;>first|exact .inl rfl|exact .inr ⟨_,rfl⟩|exact absurd rfl (hnt _)
    have hpb:∀ps,p ≠ .pbox ps:=by
     rintro ps rfl
     cases hts:Kh P t with
     |nil=>rw[hts] at LZ;simp at LZ
     |cons t' ts=>
      rw[hts] at hk;unfold JB Ap3 at hk;obtain⟨q,qs1,hq,D4⟩:=Bk hk;cases hq;cases t'<;>simp[HJ,Fq,Ae,Bu,Iz,fnK] at D4
    have hpa:∀ps,p ≠ .agg ps:=by
     rintro ps rfl
     cases hts:Kh P t with
     |nil=>rw[hts] at LZ;simp at LZ
     |cons t' ts=>
      rw[hts] at hk;unfold JB Ap3 at hk;obtain⟨q,qs1,hq,D4⟩:=Bk hk;cases hq;cases t'<;>simp[HJ,Fq,Ae,Bu,Iz,fnK] at D4
    have hnL:GH p=false:=hnL.elim id (fun ⟨ps,e⟩=>absurd e (hpb ps))
    have AH:B7 c=Av c:=by cases c<;>first|rfl|exact hFc.elim
    refine⟨c,bs,qs.map (fun q=>(q.1,q.2+1)),VL,by rw[hb];simp,?_,(fun h=>by rw[hnL] at h;cases h),?_,fun id Bo=>Nv c (by simp) id (by rw[←AH];exact Bo),nost H3,fun w A bt β' u hβ hp=>?_⟩
    ·intro q hq q' Ht e;obtain⟨q0,BL,rfl⟩:=List.mem_map.1 hq;obtain⟨q1,Lw,rfl⟩:=List.mem_map.1 Ht;exact NG q0 BL q1 Lw (by simp only at e;omega)
    ·intro id bx hm;obtain⟨c,rfl⟩:=H3 id bx hm;exact⟨trivial,fun _ e=>by cases e⟩
    ·have C1:Jf w A (bt 1) p u:=by cases p<;>first|exact hp.2|exact absurd rfl (hpa _)|exact absurd rfl (hpb _)|exact absurd rfl (hnt _)
     have hβ1:∀q∈qs,β' q.1=bt (1+q.2):=fun q hq=>by rw[hβ _ (List.mem_map_of_mem hq),Nat.add_comm]
     obtain⟨h6,h7⟩:=hv w A bt β' 1 [u] hβ1 ⟨C1,trivial⟩;refine⟨?_,h7,fun id bx b' o' hm Ip j hj=>.inl (owns hb H3 hβ1 id bx b' o' hm Ip j hj)⟩
     have h8:=h6.1;cases c<;>first|exact h8|exact hFc.elim
   ·simp only[cond_true] at hk;obtain⟨ps,hp0,D4⟩:=Jy hk;subst hp0;obtain⟨cs,bs,qs,Tn,hl,LZ,hb,NG,H3,hF,Nv,hv⟩:=Uz D4;refine⟨_,bs,qs.map (fun q=>(q.1,q.2+1)),Tn,by rw[hb];simp,?_,(fun h=>by cases h),?_,fun id Bo=>?_,nost H3,fun w A bt β' u hβ hp=>?_⟩
    ·intro q hq q' Ht e;obtain⟨q0,BL,rfl⟩:=List.mem_map.1 hq;obtain⟨q1,Lw,rfl⟩:=List.mem_map.1 Ht;exact NG q0 BL q1 Lw (by simp only at e;omega)
    ·intro id bx hm;obtain⟨c,rfl⟩:=H3 id bx hm;exact⟨trivial,fun _ e=>by cases e⟩
    ·obtain⟨c,hc,hi⟩:=List.mem_flatMap.1 (show id∈cs.flatMap Av from Bo)
     exact Nv c hc id hi
    ·obtain⟨vs,h1,_,h3⟩:=hp;have hβ1:∀q∈qs,β' q.1=bt (1+q.2):=fun q hq=>by rw[hβ _ (List.mem_map_of_mem hq),Nat.add_comm]
     obtain⟨h6,h7⟩:=hv w A bt β' 1 vs hβ1 h3;exact⟨⟨vs,h1,h6⟩,h7,fun id bx b' o' hm Ip j hj=>.inl (owns hb H3 hβ1 id bx b' o' hm Ip j hj)⟩
theorem Abb:∀{ts:List TypeId}{i:Nat}{ps:List PV}{K:List (Nat × PV)->List (Nat × Bx)->Option R},Afr P N i ts ps K=some r ->
  ∃tms bs,∃qs:List (Nat × Nat × Nat),K tms bs=some r∧bs.map (·.1)=qs.map (·.1)∧(∀q∈qs,i<=q.2.1)∧(∀q∈qs,∀q'∈qs,q.2=q'.2->q.1=q'.1) ∧
   (∀k p,ps[k]?=some p->GH p=true->(Dh N (i+k),i+k,0)∈qs∧i+k<8)∧(∀id bx,(id,bx)∈bs->Cs (some bx)∧∀c,bx=.st c->∃k p,ps[k]?=some p∧GH p=true∧id=Dh N (i+k)) ∧
   (∀j,∀id∈B7 (lk tms j),∃bx,(id,bx)∈bs)∧HW bs ∧
   ∀(w:World) (A:Nat->Prop) (bt:JI) (β':Bt) (us:List Value),(∀q∈qs,β' q.1=bt q.2.1 q.2.2)->Oq w A bt i ps us ->
    (∀j,(∃u,i<=j∧us[j-i]?=some u∧Ed w A β' (lk tms j) u)∨(lk tms j=.top∧(i<=j->us[j-i]?=none)))∧(∀id bx,(id,bx)∈bs->Tv w A β' id bx) ∧
    ∀id bx b o,(id,bx)∈bs->β' id=some (b,o)->∀j,BR bx o j->∃k p,ps[k]?=some p∧A0e (bt (i+k)) p b j
 |[],i,ps,K,hk=>by
  obtain⟨KX,hk⟩:=Ec hk;subst KX;refine⟨[],[],[],hk,rfl,by simp,by simp,by simp,by simp,(fun j id Bo=>by cases Bo),(by intro i cells hm;cases hm),fun w A bt β' us _ h=>?_⟩
  cases us with
  |nil=>exact⟨fun j=>.inr ⟨rfl,fun _=>by simp⟩,by simp,by simp⟩
  |cons u us=>exact h.elim
 |t::ts,i,ps,K,hk=>by
  unfold Afr at hk;obtain⟨p,ps',KX,D4⟩:=Bk hk;subst KX;obtain⟨v,bs,qs,Gc,hb,hqi,Xg,Mx,hr,hri,hv⟩:=Asv D4;obtain⟨tms,bs',qs',Tn,Ip,A0c,A9q,A1z,A5y,hr',Ban,Sh⟩:=Abb Gc;refine⟨(i,v)::tms,bs++bs',qs.map (fun q=>(q.1,i,q.2))++qs',Tn,by simp only[List.map_append,hb,Ip];simp,?_,?_,?_,?_,?_,?_,fun w A bt β' us hβ hp=>?_⟩
  ·intro q hq;rcases List.mem_append.1 hq with hq|hq
   ·obtain⟨q0,BL,rfl⟩:=List.mem_map.1 hq;exact Nat.le_refl _
   ·have:=A0c q hq;omega
  ·intro q hq q' Ht e;rcases List.mem_append.1 hq with hq|hq
   ·obtain⟨q0,BL,rfl⟩:=List.mem_map.1 hq;rcases List.mem_append.1 Ht with Ht|Ht
    ·obtain⟨q1,Lw,rfl⟩:=List.mem_map.1 Ht;simp only[Prod.mk.injEq,true_and] at e;exact hqi q0 BL q1 Lw e
    ·have:=A0c q' Ht;rw[←e] at this;simp only at this;omega
   ·have h5:=A0c q hq;rcases List.mem_append.1 Ht with Ht|Ht
    ·obtain⟨q1,Lw,rfl⟩:=List.mem_map.1 Ht;rw[e] at h5;simp only at h5;omega
    ·exact A9q q hq q' Ht e
  ·intro k p' Iu hL;cases k with
   |zero=>
    simp only[List.getElem?_cons_zero,Option.some.injEq] at Iu;subst Iu;obtain⟨h1,h2⟩:=Xg hL;exact⟨List.mem_append.2 (.inl (List.mem_map.2 ⟨_,h1,rfl⟩)),h2⟩
   |succ k=>
    obtain⟨h1,h2⟩:=A1z k p' (by simpa using Iu) hL
    rw[show i+1+k=i+(k+1) by omega] at h1 h2
    exact⟨List.mem_append.2 (.inr h1),h2⟩
  ·intro id bx hm;rcases List.mem_append.1 hm with hm|hm
   ·obtain⟨h1,h2⟩:=Mx id bx hm;exact⟨h1,fun c hc=>⟨0,p,rfl,(h2 c hc).2,(h2 c hc).1⟩⟩
   ·obtain⟨h1,h2⟩:=A5y id bx hm;refine⟨h1,fun c hc=>?_⟩
    obtain⟨k,p',h3,h4,h5⟩:=h2 c hc;exact⟨k+1,p',by simpa using h3,h4,by rw[h5,show i+1+k=i+(k+1) by omega]⟩
  ·intro j id Bo;unfold lk at Bo;cases hbq:Nat.beq j i<;>rw[hbq] at Bo
   ·obtain⟨bx,h1⟩:=hr' j id Bo;exact⟨bx,List.mem_append.2 (.inr h1)⟩
   ·obtain⟨bx,h1⟩:=hr id Bo;exact⟨bx,List.mem_append.2 (.inl h1)⟩
  ·intro id cells hm c hc k hk;rcases List.mem_append.1 hm with hm|hm
   ·obtain⟨bx,h1⟩:=hri id cells hm c hc k hk;exact⟨bx,List.mem_append.2 (.inl h1)⟩
   ·obtain⟨bx,h1⟩:=Ban id cells hm c hc k hk;exact⟨bx,List.mem_append.2 (.inr h1)⟩
  ·cases us with
   |nil=>exact hp.elim
   |cons u us=>
    obtain⟨h1,h2,h3⟩:=hv w A (bt i) β' u (fun q hq=>hβ _ (List.mem_append.2 (.inl (List.mem_map_of_mem hq)))) hp.1
    obtain⟨VE,h2',h3'⟩:=Sh w A bt β' us (fun q hq=>hβ q (List.mem_append.2 (.inr hq))) hp.2
    refine⟨fun j=>?_,fun id bx hm=>?_,fun id bx b o hm YC j hj=>?_⟩
    ·unfold lk;cases hbq:Nat.beq j i
     ·have F9:=P2 hbq;simp only[cond_false];rcases VE j with⟨u',h4,h5,h6⟩|⟨h4,h5⟩
      ·refine .inl ⟨u',by omega,?_,h6⟩
       rw[show j-i=(j-(i+1))+1 by omega]
       simpa using h5
      ·refine .inr ⟨h4,fun hij=>?_⟩
       rw[show j-i=(j-(i+1))+1 by omega]
       simpa using h5 (by omega)
     ·have:=Nat.eq_of_beq_eq_true hbq;subst this;exact .inl ⟨u,Nat.le_refl _,by simp,h1⟩
    ·rcases List.mem_append.1 hm with hm|hm
     ·exact h2 id bx hm
     ·exact h2' id bx hm
    ·rcases List.mem_append.1 hm with hm|hm
     ·exact⟨0,p,rfl,h3 id bx b o hm YC j hj⟩
     ·obtain⟨k,p',h4,h5⟩:=h3' id bx b o hm YC j hj;exact⟨k+1,p',by simpa using h4,by rw[show i+(k+1)=i+1+k by omega];exact h5⟩
def CY (bt:JI)(args:List PV)(h8:∀k p,args[k]?=some p->GH p=true->k<8):Fp:=
 ⟨BtX bt,WR bt args,fun i=>∃p,args[i]?=some p∧GH p=true,fun i=>bt i 0,fun i ⟨p,h1,h2⟩=>h8 i p h1 h2⟩
theorem HD {ts:List TypeId}{args:List PV}{us:List Value}{bt:JI}{K:List (Nat × PV)->List (Nat × Bx)->Option R} (Y7:Ins w Y bt args us)(hk:Afr P N 0 ts args K=some r):
  ∃tms bs,K tms bs=some r∧(Ck (fun _=>none) bs=true->us.length<=N->∃(h8:∀k p,args[k]?=some p->GH p=true->k<8),∃β0,
   B4 N w (CY bt args h8) Y β0 ⟨lk tms,Br bs⟩ { tmps:=us.toArray++Array.replicate (N-us.toArray.size) undef,defers:=[] } w):=by
 obtain⟨tms,bs,qs,D4,hb,BL,hqi,Xg,Mx,hr,hri,hv⟩:=Abb hk;refine⟨tms,bs,D4,fun Tp hN=>?_⟩
 have Ae9:=Vv Tp
 have h8:∀k p,args[k]?=some p->GH p=true->k<8:=fun k p h1 h2=>by
  have:=(Xg k p h1 h2).2;omega
 have RZ:(qs.map (·.1)).Nodup:=by rw[←hb];exact Ae9
 obtain⟨β0,hβ0⟩:∃β0:Bt,∀q∈qs,β0 q.1=bt q.2.1 q.2.2:=by
  have:∀(l:List (Nat × Nat × Nat)),(l.map (·.1)).Nodup->∃β0:Bt,∀q∈l,β0 q.1=bt q.2.1 q.2.2:=by
   intro l
   induction l with
   |nil=>intro _;exact⟨fun _=>none,by simp⟩
   |cons q l ih=>
    intro hn;simp only[List.map_cons,List.nodup_cons] at hn;obtain⟨b1,h1⟩:=ih hn.2;refine⟨Da b1 q.1 (bt q.2.1 q.2.2),fun q' Ht=>?_⟩
    rcases List.mem_cons.1 Ht with rfl|Ht
    ·exact Au _ _ _
    ·have F9:q'.1≠q.1:=fun e=>hn.1 (by rw[←e];exact List.mem_map.2 ⟨q',Ht,rfl⟩)
     rw[Am _ _ F9];exact h1 q' Ht
  exact this qs RZ
 refine⟨h8,β0,?_⟩;obtain⟨hs,hbr,hL⟩:=hv w _ bt β0 us hβ0 Y7.args
 have hqm:∀id bx,(id,bx)∈bs->∃ik,(id,ik)∈qs∧β0 id=bt ik.1 ik.2:=by
  intro id bx hm;have:id∈qs.map (·.1):=by rw[←hb];exact List.mem_map.2 ⟨_,hm,rfl⟩
  obtain⟨q,hq,rfl⟩:=List.mem_map.1 this;exact⟨q.2,hq,hβ0 q hq⟩
 have hX:∀b,BZ (Br bs) β0 b->BtX bt b:=by
  rintro b ⟨id,o,hl,hβ⟩
  cases hq:Br bs id with
  |none=>rw[hq] at hl;exact hl.elim
  |some bx=>
   obtain⟨ik,_,h2⟩:=hqm id bx (Py hq);rw[h2] at hβ;exact⟨_,_,_,hβ⟩
 have hA:∀b,Db (Br bs) β0 Y b->BtX bt b∨Y b:=fun b hb=>hb.imp (hX b) id
 have As9:∀{p:PV} {u:Value},Ed w (fun b=>BtX bt b∨Y b) β0 p u->Ed w (Db (Br bs) β0 Y) β0 p u:=fun h=>h.step (Co.refl _ _) (fun b _=>hA b) (fun _ _=>rfl)
 refine⟨rfl,by simp;omega,fun i hi=>?_,fun i hi=>?_,?_,?_,?_,fun i hi id Bo=>?_,?_,fun b hb=>.inl (hX b hb),?_,?_,?_,fun b hY hXb=>Y7.Yx b hY (hX b hXb),Y7.Ylt,⟨rfl,rfl,rfl,Co.refl _ _,fun _ _ _ _=>⟨rfl,rfl⟩⟩⟩
 ·rcases hs i with⟨u,_,h,_⟩|⟨h,_⟩
  ·rw[Nat.sub_zero,List.getElem?_eq_none (by omega)] at h;cases h
  ·exact h
 ·rcases hs i with⟨u,_,h,hv⟩|⟨h,h'⟩
  ·rw[Nat.sub_zero] at h
   have Cd:i<us.length:=by
    rcases Nat.lt_or_ge i us.length with h'|h'
    ·exact h'
    ·rw[List.getElem?_eq_none h'] at h;cases h
   have:(us.toArray++Array.replicate (N-us.toArray.size) undef).getD i undef=u:=by
    rw[Array.getD_eq_getD_getElem?,Array.getElem?_append_left (by simpa using Cd)]
    simp[h]
   show Ed w _ _ _ ((us.toArray++Array.replicate (N-us.toArray.size) undef).getD i undef);rw[this];exact As9 hv
  ·show Ed w _ _ (lk tms i) _;rw[h];exact Aw.top _
 ·intro id bx hq;exact (hbr id bx (Py hq)).step' hA
 ·intro id id' b o o' hl Nj hβ hβ';cases hq:Br bs id with
  |none=>change Cs (Br bs id) at hl;rw[hq] at hl;exact hl.elim
  |some bx=>
   cases Ht:Br bs id' with
   |none=>change Cs (Br bs id') at Nj;rw[Ht] at Nj;exact Nj.elim
   |some bx'=>
    obtain⟨ik,h1,h2⟩:=hqm id bx (Py hq);obtain⟨ik',VE,h2'⟩:=hqm id' bx' (Py Ht);rw[h2] at hβ;rw[h2'] at hβ';obtain⟨h3,h4⟩:=Y7.inj _ _ _ _ b o o' hβ hβ';exact hqi _ h1 _ VE (Prod.ext h3 h4)
 ·intro id b o hn hβ;cases hq:Br bs id with
  |none=>exact absurd hq hn
  |some bx=>
   obtain⟨ik,h1,h2⟩:=hqm id bx (Py hq);rw[h2] at hβ;exact Y7.lt b ⟨_,_,_,hβ⟩
 ·obtain⟨bx,hm⟩:=hr i id Bo;show Br bs id≠none;rw[YW Ae9 hm];simp
 ·intro id cells hq c hc k hk;obtain⟨bx,hm⟩:=hri id cells (Py hq) c hc k hk;show Br bs k≠none;rw[YW Ae9 hm];simp
 ·intro id bx b o hq hl hβ _ j hj;obtain⟨k,p,h1,h2⟩:=hL id bx b o (Py hq) hβ j hj;rw[Nat.zero_add] at h2;exact⟨k,p,h1,h2⟩
 ·rintro i ⟨p,h1,h2⟩
  have h3:=(Xg i p h1 h2).1;rw[Nat.zero_add] at h3;refine⟨?_,hβ0 _ h3⟩;have:Dh N i∈bs.map (·.1):=by rw[hb];exact List.mem_map.2 ⟨_,h3,rfl⟩
  obtain⟨⟨id,bx⟩,hm,e⟩:=List.mem_map.1 this;show Br bs (Dh N i)≠none;rw[←e,YW Ae9 hm];simp
 ·intro id c b o hq _ _;obtain⟨k,p,h1,h2,h3⟩:=(Mx id _ (Py hq)).2 c rfl;rw[Nat.zero_add] at h3;exact⟨k,h3,p,h1,h2⟩
end
open Go.RowKit
def Oo (β:Bt)(l:List (Option Nat)) (j:Nat):Option (Nat × Nat):=((l[j]?).bind id).bind β
section
variable {R:Type} {r:R} {P:Program} {N:Nat} {w0:World} {X0:Fp} {Y:Nat->Prop} {β β':Bt} {s:St} {a:Act} {w w':World} {A:Nat->Prop}
def An0 (s:St)(l:List (Option Nat)):Prop:=∀id,some id∈l->Cs (s.hp id)
def Pf (s:St)(z:List Nat):Prop:=∀id∈z,∃f c,s.hp id=some (.ar f c)
theorem UE (h : B4 N w0 X0 Y β s a w) {shr : Bool} {t : CT} {p : PV} {K : PV -> List Nat -> List Nat -> Option R} (hk : Aia shr s.hp t p K = some r) :
    ∃ c q z, K c (Option.toList q) z = some r ∧ (∀ x, c ≠ .agg x ∧ c ≠ .pbox x) ∧ SM p ∧ (∀ id, q = some id -> ∃ c, s.hp id = some (.ar false c)) ∧ Pf s z ∧
      ∀ (fz : List Nat) A u, (∀ i ∈ z, i ∈ fz) -> Pf s fz -> (∀ b, A b -> Db (Ag s.hp fz) β Y b) -> Ci w (Db s.hp β Y) β p u -> Jf w A (q.bind β) c u := by
  have notree : ∀ {c : PV}, AC c -> ∀ x, c ≠ .agg x ∧ c ≠ .pbox x := fun hT x => ⟨DP hT x, by rintro rfl; exact hT⟩
  unfold Aia at hk
  cases shr <;> simp only[cond_true, cond_false] at hk
  · have tree : ∀ t', (∀ es, t' ≠ .sl es) -> (HJ t' p fun c => K c [] []) = some r -> ∃ c q z, K c (Option.toList q) z = some r ∧ (∀ x, c ≠ .agg x ∧ c ≠ .pbox x) ∧ SM p ∧ (∀ id, q = some id -> ∃ c, s.hp id = some (.ar false c)) ∧ Pf s z ∧
        ∀ (fz : List Nat) A u, (∀ i ∈ z, i ∈ fz) -> Pf s fz -> (∀ b, A b -> Db (Ag s.hp fz) β Y b) -> Ci w (Db s.hp β Y) β p u -> Jf w A (q.bind β) c u := by
      intro t' F9 hk
      obtain⟨c, D4, hT, PI, hv⟩ := P5 hk
      refine⟨c, none, [], D4, notree hT, Vu PI, by simp, (by intro i hi; cases hi), fun fz A u _ _ hA hc => Nk hT ?_⟩
      exact (hv w _ β u hc).1.step (Co.refl _ _) (fun b _ hb => Rt (hA b hb))
    unfold Axj at hk
    cases t with
    | sl es =>
      dsimp only at hk
      split at hk
      · rename_i id es' off n
        cases hb : (Nat.beq es' es && Nat.beq off 0) <;> rw[hb] at hk
        · cases hk
        · simp only[Bool.and_eq_true] at hb
          have he := Nat.eq_of_beq_eq_true hb.1
          have ho := Nat.eq_of_beq_eq_true hb.2
          subst he ho
          simp only[cond_true] at hk
          split at hk
          · rename_i c h0
            obtain⟨hl, D4⟩ := As hk
            refine⟨_, some id, [], D4, by simp, trivial, fun i hi => by cases hi; exact⟨c, h0⟩, (by intro i hi; cases hi), fun fz A u _ _ hA hc => ?_⟩
            rcases hc with⟨h1, _, rfl, h4⟩ | ⟨b, o, x, cap, h1, h2, hx, h3, h4, h5⟩
            · exact .inl ⟨h1, rfl, by simp, h4⟩
            · have hx : x = o := by rcases hx with e | ⟨_, e⟩ <;> omega
              subst hx
              rcases h.box id _ h0 with⟨h6, _⟩ | ⟨b', o', h6, h7, h8, _⟩
              · rw[h1] at h6; cases h6
              · rw[h1] at h6
                cases h6
                refine .inr ⟨b, x, cap, h1, h2, h3, h4, h5, fun j q hq => ?_, fun j hj Xe => h8 rfl j hj Xe⟩
                rw[List.getElem?_take] at hq
                split at hq
                · obtain⟨v, hv, h9, ht⟩ := h7 j q hq
                  exact⟨v, hv, h9, ht.step (Co.refl _ _) (fun b _ hb => Rt (hA b hb))⟩
                · cases hq
          · cases hk
      · obtain⟨z, n, c, D4, hp⟩ := Hg hk
        obtain⟨hz, Gc⟩ := As D4
        subst hz
        have hpF : SM p := by rcases hp with e | ⟨e, _⟩ <;> (rw[e]; trivial)
        refine⟨_, none, [], Gc, by simp, hpF, by simp, (by intro i hi; cases hi), fun fz A u _ _ _ hc => ?_⟩
        have hu : u = .slice none 0 0 := by
          rcases hp with rfl | ⟨rfl, _⟩
          · cases hc; rfl
          · exact Aw.val hc
        exact .inl ⟨rfl, rfl, rfl, none, hu⟩
    | int k => exact tree _ (by simp) hk
    | bool => exact tree _ (by simp) hk
    | str => exact tree _ (by simp) hk
    | any => exact tree _ (by simp) hk
  · obtain⟨c, m, D4, hT, hF, hm, hv⟩ := QG h hk
    exact⟨c, none, m, D4, notree hT, hF, by simp, hm, fun fz A u h1 h2 hA hc => Nk hT ((hv fz h1 h2 u hc).1.step (Co.refl _ _) (fun b _ hb => hA b hb))⟩
structure LW (s:St) (β:Bt) (Y:Nat->Prop) (w:World) (cs:List PV) (l:List (Option Nat)) (z:List Nat) (ps:List PV):Prop where
 len:l.length=cs.length
 pl:cs.length=ps.length
 na:∀c∈cs,∀x,c ≠ .agg x∧c ≠ .pbox x
 fr:∀p∈ps,SM p
 own:∀id,some id∈l->∃c,s.hp id=some (.ar false c)
 row:Pf s z
 sem:∀(fz:List Nat) A us,(∀i∈z,i∈fz)->Pf s fz->(∀b,A b->Db (Ag s.hp fz) β Y b)->Bw (Ci w (Db s.hp β Y) β) ps us->∀own j0,(∀j,j<l.length->own (j0+j)=Oo β l j)->G6 w A own j0 cs us
theorem LW.nil:LW s β Y w [] [] [] []:=⟨rfl,rfl,by simp,by simp,by simp,(by intro i hi;cases hi),fun fz A us _ _ _ hu own j0 _=>by
 cases us with
 |nil=>trivial
 |cons u us=>exact hu.elim⟩
theorem LW.cons {c p:PV}{q:Option Nat}{z zs:List Nat}{cs ps:List PV}{l:List (Option Nat)} (HL:∀x,c ≠ .agg x∧c ≠ .pbox x)(hF:SM p)(hq:∀id,q=some id->∃c,s.hp id=some (.ar false c)) (hz:Pf s z)
  (hv:∀(fz:List Nat) A u,(∀i∈z,i∈fz)->Pf s fz->(∀b,A b->Db (Ag s.hp fz) β Y b)->Ci w (Db s.hp β Y) β p u->Jf w A (q.bind β) c u) (H:LW s β Y w cs l zs ps):LW s β Y w (c::cs) (q::l) (z++zs) (p::ps):=by
 refine⟨by simp[H.len],by simp[H.pl],?_,?_,?_,?_,fun fz A us hz1 hz2 hA hu own j0 Gx=>?_⟩
 ·intro x hx;rcases List.mem_cons.1 hx with rfl|hx
  ·exact HL
  ·exact H.na x hx
 ·intro x hx;rcases List.mem_cons.1 hx with rfl|hx
  ·exact hF
  ·exact H.fr x hx
 ·intro id Bo;rcases List.mem_cons.1 Bo with e|Bo
  ·exact hq id e.symm
  ·exact H.own id Bo
 ·intro i hi;rcases List.mem_append.1 hi with hi|hi
  ·exact hz i hi
  ·exact H.row i hi
 ·cases us with
  |nil=>exact hu.elim
  |cons u us=>
   have h0:=Gx 0 (by simp)
   rw[Nat.add_zero] at h0;refine⟨?_,H.sem fz A us (fun i hi=>hz1 i (by simp[hi])) hz2 hA hu.2 own (j0+1) fun j hj=>?_⟩
   ·rw[h0];exact hv fz A u (fun i hi=>hz1 i (by simp[hi])) hz2 hA hu.1
   ·have:=Gx (j+1) (by simp;omega)
    rw[show j0+1+j=j0+(j+1) by omega,this]
    simp[Oo]
theorem V7 (h:B4 N w0 X0 Y β s a w){shr:Bool}:∀{ts:List CT}{ps:List PV}{K:List PV->List Nat->List Nat->Option R},II shr s.hp ts ps K=some r ->
  ∃cs l z,K cs (l.filterMap id) z=some r∧LW s β Y w cs l z ps
 |[],[],K,hk=>⟨[],[],[],hk,LW.nil⟩
 |[],_::_,K,hk=>by cases hk
 |_::_,[],K,hk=>by cases hk
 |t::ts,p::ps,K,hk=>by
  unfold II at hk;obtain⟨c,q,z,D4,HL,hF,hq,hz,hv⟩:=UE h hk;obtain⟨cs,l,zs,Gc,H⟩:=V7 h D4;refine⟨c::cs,q::l,z++zs,?_,LW.cons HL hF hq hz hv H⟩;cases q<;>exact Gc
theorem KG (h:B4 N w0 X0 Y β s a w):∀{ts:List CT}{ws ps:List PV}{K:List PV->List Nat->List Nat->Option R},NL s.hp ts ws ps K=some r ->
  ∃cs l z,K cs (l.filterMap id) z=some r∧cs.length=ws.length∧LW s β Y w cs l z ps
 |[],[],[],K,hk=>⟨[],[],[],hk,rfl,LW.nil⟩
 |[],_::_,_,K,hk=>by cases hk
 |[],[],_::_,K,hk=>by cases hk
 |_::_,[],_,K,hk=>by cases hk
 |_::_,_::_,[],K,hk=>by cases hk
 |t::ts,x::ws,p::ps,K,hk=>by
  unfold NL at hk;obtain⟨c,q,z,D4,HL,hF,hq,hz,hv⟩:=UE h hk;obtain⟨cs,l,zs,Gc,hl,H⟩:=KG h D4;refine⟨c::cs,q::l,z++zs,?_,by simp[hl],LW.cons HL hF hq hz hv H⟩
  cases q<;>exact Gc
theorem Af4 {own:Bt}{zz j:Nat}{p:PV}{u:Value}(hp:∀x,p ≠ .agg x∧p ≠ .pbox x)(h:G6 w A own j [p] [u]):Ati w A own zz j p u:=by
 cases p<;>first|exact h.1|exact absurd rfl (hp _).1|exact absurd rfl (hp _).2
theorem Ahq (h:B4 N w0 X0 Y β s a w){id b o:Nat}{c cs:List PV}{l:List (Option Nat)} {z:List Nat}(h0:s.hp id=some (.st c)) (hβ:β id=some (b,o)) (H:LW s β Y w cs l z c){fz:List Nat}{A:Nat->Prop}(h1:∀i∈z,i∈fz)(h2:Pf s fz)(hA:∀b,A b->Db (Ag s.hp fz) β Y b)
  {own:Bt} {j0:Nat} (Gx:∀j,j<l.length->own (j0+j)=Oo β l j):Ave w A own j0 b o cs:=by
 obtain⟨b',o',H3,Nv,hb3⟩:=h.box id _ h0;rw[hβ] at H3;cases H3;refine⟨c.mapIdx (fun j _=>(w.cell? ⟨b,o+j,none⟩).getD undef),H.sem fz A _ h1 h2 hA ?_ own j0 Gx,?_,fun k hk=>hb3 k (by have:=H.pl;omega)⟩
 ·refine Bw.of_at (by simp) fun j p v hp hv=>?_
  obtain⟨u,hu,hcr⟩:=Nv j p hp;rw[List.getElem?_mapIdx,hp,Option.map_some,hu] at hv;simp at hv;subst hv;exact hcr
 ·intro k v hkv;rw[List.getElem?_mapIdx] at hkv;cases hp:c[k]? with
  |none=>rw[hp] at hkv;cases hkv
  |some p=>
   obtain⟨u,hu,hcr⟩:=Nv k p hp;rw[hp,Option.map_some,hu] at hkv;simp at hkv;subst hkv;exact hu
theorem Ajq (h:B4 N w0 X0 Y β s a w){shr:Bool}{t:TypeId}{p:PV}{u:Value}(hp:Ed w (Db s.hp β Y) β p u) {K:PV->List Nat->List Nat->Option R}(hk:An2 P shr s.hp t p K=some r):
  ∃v l z,K v (l.filterMap id) z=some r∧l.length=plc v∧An0 s l∧Pf s z ∧
   ∀(fz:List Nat) A zz,(∀i∈z,i∈fz)->Pf s fz->(∀b,A b->Db (Ag s.hp fz) β Y b)->(∀id c b o,some id∈l->s.hp id=some (.st c)->β id=some (b,o)->zz<=b) ->
    ∀own j0,(∀j,j<l.length->own (j0+j)=Oo β l j)->Ati w A own zz j0 v u:=by
 unfold An2 at hk;split at hk
 ·rename_i e he;split at hk
  ·rename_i id off;split at hk
   ·rename_i c h0;obtain⟨hof,D4⟩:=As hk;have hof:=Nat.eq_of_beq_eq_true hof;subst hof;obtain⟨cs,l,z,Gc,H⟩:=V7 h D4;obtain⟨b,o,hβ,hu⟩:=hp;refine⟨.pbox cs,some id::l,z,Gc,by simp only[plc,List.length_cons,H.len];omega,?_,H.row,fun fz A zz h1 h2 hA hz own j0 Gx=>?_⟩
    ·intro i hi;rcases List.mem_cons.1 hi with e|hi
     ·cases e;rw[h0];trivial
     ·obtain⟨c',Vo⟩:=H.own i hi;rw[Vo];trivial
    ·have h3:=Gx 0 (by simp)
     rw[Nat.add_zero] at h3;refine⟨b,o,by rw[h3];exact hβ,hz id c b o (by simp) h0 hβ,by rw[hu,Nat.add_zero],Ahq h h0 hβ H h1 h2 hA fun j hj=>?_⟩
     have:=Gx (j+1) (by simp;omega)
     rw[show j0+1+j=j0+(j+1) by omega,this]
     simp[Oo]
   ·cases hk
  ·cases hk
 ·cases H6:Cr P t<;>rw[H6] at hk<;>simp only[cond_true,cond_false] at hk
  ·obtain⟨cs,l,z,D4,H⟩:=V7 h hk;obtain⟨c,cs',WX,Gc⟩:=Bk D4;subst WX;obtain⟨ML,Tn⟩:=Ec Gc;subst ML;have HL:=H.na c (by simp)
   have hc1:plc c=1:=by cases c<;>first|rfl|exact absurd rfl (HL _).1|exact absurd rfl (HL _).2
   have hF:=H.fr p (by simp)
   refine⟨c,l,z,Tn,by rw[hc1];exact H.len,fun i hi=>?_,H.row,fun fz A zz h1 h2 hA _ own j0 Gx=>Af4 HL (H.sem fz A [u] h1 h2 hA ⟨?_,trivial⟩ own j0 Gx)⟩
   ·obtain⟨c',Vo⟩:=H.own i hi;rw[Vo];trivial
   ·cases p<;>first|exact hp|exact hF.elim
  ·obtain⟨ps,KX,D4⟩:=Jy hk;subst KX;obtain⟨cs,l,z,Gc,H⟩:=V7 h D4;obtain⟨vs,hu,Ti⟩:=hp;refine⟨.agg cs,l,z,Gc,H.len,fun i hi=>?_,H.row,fun fz A zz h1 h2 hA _ own j0 Gx=>⟨vs,hu,H.sem fz A vs h1 h2 hA Ti own j0 Gx⟩⟩
   obtain⟨c',Vo⟩:=H.own i hi;rw[Vo];trivial
def ZJ (P:Program)(tmps:Array Value)(w:World)(rv:ResultVar)(u:Value):Prop:=
  (match rv with
   |.tmp t=>(pure (tmps.getD t undef):Sem Value)
   |.cell a t=>do loadVar t (←asAddr (tmps.getD a undef))).run P w=.ok u w
theorem An1 (h:B4 N w0 X0 Y β s a w)(t:Nat):Ed w (Db s.hp β Y) β (s.tm t) (a.tmps.getD t undef):=by
 rcases Nat.lt_or_ge t N with h'|h'
 ·exact h.tms t h'
 ·rw[h.tmo t h'];exact Aw.top _
theorem Ak3 (h:B4 N w0 X0 Y β s a w){rv:ResultVar}{K:PV->Option R}(hk:Ani P s rv K=some r):∃p u,K p=some r∧ZJ P a.tmps w rv u∧Ed w (Db s.hp β Y) β p u:=by
 unfold Ani at hk;split at hk
 ·rename_i t;exact⟨_,_,hk,rfl,An1 h t⟩
 ·rename_i x t;obtain⟨v,ad,val,D4,D3,hl,hv,_⟩:=Adg h (An1 h x) hk;refine⟨v,val,D4,?_,hv⟩;unfold ZJ;simp[D3,asAddr,hl]
theorem AW {l l':List (Option Nat)} {j:Nat}(h:j<l.length):Oo β (l++l') j=Oo β l j:=by
 unfold Oo;rw[List.getElem?_append_left h]
theorem CC {l l':List (Option Nat)} {j:Nat}:Oo β (l++l') (l.length+j)=Oo β l' j:=by
 unfold Oo;rw[List.getElem?_append_right (by omega),Nat.add_sub_cancel_left]
theorem PM (h:B4 N w0 X0 Y β s a w){shr:Bool}:∀{rs:List ResultVar}{ts:List TypeId}{K:List PV->List Nat->List Nat->Option R},ZZ P shr s rs ts K=some r ->
  ∃vs l z us,K vs (l.filterMap id) z=some r∧Bw (ZJ P a.tmps w) rs us∧l.length=Rv vs∧An0 s l∧Pf s z ∧
   ∀(fz:List Nat) A zz,(∀i∈z,i∈fz)->Pf s fz->(∀b,A b->Db (Ag s.hp fz) β Y b)->(∀id c b o,some id∈l->s.hp id=some (.st c)->β id=some (b,o)->zz<=b) ->
    ∀own j0,(∀j,j<l.length->own (j0+j)=Oo β l j)->Ahb w A own zz j0 vs us
 |[],[],K,hk=>⟨[],[],[],[],hk,trivial,rfl,(by intro id Bo;cases Bo),(by intro id Bo;cases Bo),fun _ _ _ _ _ _ _ _ _ _=>trivial⟩
 |[],_::_,K,hk=>by cases hk
 |_::_,[],K,hk=>by cases hk
 |rv::rs,t::ts,K,hk=>by
  unfold ZZ at hk;obtain⟨p,u,D4,hu,hp⟩:=Ak3 h hk;obtain⟨v,l,z,Gc,hl,hL,hz,hv⟩:=Ajq h hp D4;obtain⟨vs,l',z',us,Tn,hus,Nj,hL',hz',Ti⟩:=PM h Gc;refine⟨v::vs,l++l',z++z',u::us,?_,⟨hu,hus⟩,by simp only[List.length_append,Rv,List.map_cons,List.sum_cons,hl];rw[Nj];rfl,?_,?_,fun fz A zz h1 h2 hA Gk own j0 Gx=>⟨?_,?_⟩⟩
  ·rw[List.filterMap_append];exact Tn
  ·intro id Bo;rcases List.mem_append.1 Bo with Bo|Bo
   ·exact hL id Bo
   ·exact hL' id Bo
  ·intro id Bo;rcases List.mem_append.1 Bo with Bo|Bo
   ·exact hz id Bo
   ·exact hz' id Bo
  ·exact hv fz A zz (fun i hi=>h1 i (by simp[hi])) h2 hA (fun id c b o hi=>Gk id c b o (by simp[hi])) own j0 fun j hj=>by rw[Gx j (by simp;omega),AW hj]
  ·refine Ti fz A zz (fun i hi=>h1 i (by simp[hi])) h2 hA (fun id c b o hi=>Gk id c b o (by simp[hi])) own (j0+plc v) fun j hj=>?_
   rw[←hl,Nat.add_assoc,Gx (l.length+j) (by simp;omega),CC]
theorem V9 (h:B4 N w0 X0 Y β s a w){bt:JI}(hpt:∀i,X0.pt i=bt i 0):∀{ts:List TypeId}{i:Nat}{ps:List PV}{K:List (List PV)->List Nat->List Nat->List Nat->Option R},HI P N s.hp i ts ps K=some r ->
  (∀k p,ps[k]?=some p->GH p=true->X0.pn (i+k)) ->
  ∃os l z q,K os (l.filterMap id) z q=some r∧(∀id,some id∈l->∃c,s.hp id=some (.ar false c))∧Pf s z∧(∀id∈q,Cs (s.hp id))∧(∀k p,ps[k]?=some p->GH p=true->Dh N (i+k)∈q) ∧
   ∀(fz:List Nat) A,(∀i∈z,i∈fz)->Pf s fz->(∀i∈q,i ∉ fz)->(∀b,A b->Db (Ag s.hp fz) β Y b) ->
    ∀own j0,(∀j,j<l.length->own (j0+j)=Oo β l j)->AK w A own bt j0 i ps os
 |[],i,ps,K,hk,_=>by
  obtain⟨KX,hk⟩:=Ec hk;subst KX;exact⟨[],[],[],[],hk,by simp,(by intro id Bo;cases Bo),by simp,by simp,fun _ _ _ _ _ _ _ _ _=>rfl⟩
 |t::ts,i,ps,K,hk,hpn=>by
  unfold HI at hk;obtain⟨p,ps',KX,D4⟩:=Bk hk;subst KX
  have Aya:∀k p,ps'[k]?=some p->GH p=true->X0.pn (i+1+k):=fun k p' h1 h2=>by
   have:=hpn (k+1) p' (by simpa using h1) h2
   rw[show i+1+k=i+(k+1) by omega]
   exact this
  have hpq:∀{q:List Nat},(GH p=true->Dh N i∈q)->(∀k p,ps'[k]?=some p->GH p=true->Dh N (i+1+k)∈q)->∀k p',(p::ps')[k]?=some p'->GH p'=true->Dh N (i+k)∈q:=by
   intro q h1 h2 k p' h3 h4;cases k with
   |zero=>
    simp only[List.getElem?_cons_zero,Option.some.injEq] at h3;subst h3;exact h1 h4
   |succ k=>
    have:=h2 k p' (by simpa using h3) h4
    rw[show i+1+k=i+(k+1) by omega] at this
    exact this
  split at D4
  ·rename_i ws;obtain⟨e,he,Gc⟩:=Dl D4;split at Gc
   ·rename_i c h0;obtain⟨cs,l,z,Tn,W9,H⟩:=KG h Gc;obtain⟨os,l',z',q,Tc,hL',hz',Ht,hpi,hv⟩:=V9 h hpt Tn Aya;refine⟨cs::os,l++l',z++z',Dh N i::q,by rw[List.filterMap_append];exact Tc,?_,?_,?_,hpq (fun _=>List.mem_cons_self) (fun k p h1 h2=>List.mem_cons_of_mem _ (hpi k p h1 h2)),fun fz A h1 h2 h3 hA own j0 Gx=>?_⟩
    ·intro id Bo;rcases List.mem_append.1 Bo with Bo|Bo
     ·exact H.own id Bo
     ·exact hL' id Bo
    ·intro id Bo;rcases List.mem_append.1 Bo with Bo|Bo
     ·exact H.row id Bo
     ·exact hz' id Bo
    ·intro id Bo;rcases List.mem_cons.1 Bo with rfl|Bo
     ·rw[h0];trivial
     ·exact Ht id Bo
    ·have Xg:=(h.pin i (by have:=hpn 0 _ rfl rfl;rwa [Nat.add_zero] at this)).2
     obtain⟨b,o,H3,_,_⟩:=h.box _ _ h0;rw[H3,hpt] at Xg;refine⟨⟨b,o,Xg.symm,W9,Ahq h h0 H3 H (fun i hi=>h1 i (by simp[hi])) h2 hA fun j hj=>by rw[Gx j (by simp;omega),AW hj]⟩,?_⟩
     refine hv fz A (fun i hi=>h1 i (by simp[hi])) h2 (fun i hi=>h3 i (by simp[hi])) hA own (j0+cs.length) fun j hj=>?_
     rw[←H.len,Nat.add_assoc,Gx (l.length+j) (by simp;omega),CC]
   ·cases Gc
  ·split at D4
   ·rename_i c h0;obtain⟨os,l',z',q,Tc,hL',hz',Ht,hpi,hv⟩:=V9 h hpt D4 Aya;refine⟨c::os,l',z',Dh N i::q,Tc,hL',hz',?_,hpq (fun _=>List.mem_cons_self) (fun k p h1 h2=>List.mem_cons_of_mem _ (hpi k p h1 h2)),fun fz A h1 h2 h3 hA own j0 Gx=>⟨?_,hv fz A h1 h2 (fun i hi=>h3 i (by simp[hi])) hA own j0 Gx⟩⟩
    ·intro id Bo;rcases List.mem_cons.1 Bo with rfl|Bo
     ·rw[h0];trivial
     ·exact Ht id Bo
    ·have Xg:=(h.pin i (by have:=hpn 0 _ rfl rfl;rwa [Nat.add_zero] at this)).2
     rw[hpt] at Xg;rcases h.box _ _ h0 with⟨h4,h5⟩|⟨b,o,h4,h5,h6,_⟩
     ·exact .inl ⟨by rw[←Xg];exact h4,h5⟩
     ·exact .inr ⟨b,o,by rw[←Xg];exact h4,h5.weak (fun b _ hb=>Rt (hA b hb)),h6 rfl⟩
   ·cases D4
  ·rename_i hn1 hn2;have hnL:GH p=false:=by cases p<;>first|rfl|exact absurd rfl (hn1 _)|exact absurd rfl (hn2 _)
   obtain⟨os,l',z',q,Tc,hL',hz',Ht,hpi,hv⟩:=V9 h hpt D4 Aya;refine⟨os,l',z',q,Tc,hL',hz',Ht,hpq (fun e=>by rw[hnL] at e;cases e) hpi,fun fz A h1 h2 h3 hA own j0 Gx=>?_⟩
   have:=hv fz A h1 h2 h3 hA own j0 Gx;cases p<;>first|exact this|cases hnL
theorem Ad8 {f:ResultVar->Sem Value}:∀{rs:List ResultVar}{us:List Value},Bw (fun rv u=>(f rv).run P w=.ok u w) rs us->(rs.mapM f).run P w=.ok us w
 |[],[],_=>by simp
 |[],_::_,h=>h.elim
 |_::_,[],h=>h.elim
 |rv::rs,u::us,h=>by
  rw[List.mapM_cons];simp[h.1,Ad8 h.2]
theorem Ab2 {fn:Func}{us:List Value}(h:Bw (ZJ P a.tmps w) fn.results.toList us):(results fn a.tmps).run P w=.ok (K5 us) w:=by
 unfold results;rw[Array.mapM_eq_mapM_toList];simp only[map_eq_pure_bind,bind_assoc,pure_bind,Sem.run_bind];refine Eq.trans (congrArg (fun x=>Result.andThen x _) (Ad8 h)) ?_
 simp only[Result.andThen_ok,Sem.run_pure]
 congr 1
 clear h
 match us with
 |[]=>rfl
 |[u]=>rfl
 |u::v::us=>exact dif_neg (by simp)
theorem Ad0:∀{l:List (Option Nat)},Fh (l.filterMap id)=true->∀{j j' i:Nat},l[j]?=some (some i)->l[j']?=some (some i)->j=j'
 |[],_,j,j',i,h,_=>by simp at h
 |q::l,hn,j,j',i,h,h'=>by
  have hn':Fh (l.filterMap id)=true:=by
   cases q with
   |none=>exact hn
   |some x=>
    simp only[List.filterMap_cons,id_eq,Fh,Bool.and_eq_true] at hn;exact hn.2
  have hq:∀(x k:Nat),q=some x->l[k]?≠some (some x):=by
   intro x k e hk;subst e;simp only[List.filterMap_cons,id_eq,Fh,Bool.and_eq_true,Bool.not_eq_true'] at hn;exact Wb hn.1 (List.mem_filterMap.2 ⟨some x,List.mem_of_getElem? hk,rfl⟩)
  cases j with
  |zero=>
   cases j' with
   |zero=>rfl
   |succ k'=>
    simp at h h';exact absurd h' (hq i k' h)
  |succ k=>
   cases j' with
   |zero=>
    simp at h h';exact absurd h (hq i k h')
   |succ k'=>
    simp at h h';rw[Ad0 hn' h h']
theorem Y4 {C:I3}{f:FuncId}{fn:Func}{args:List PV}{res:A5}{w:World}{Y:Nat->Prop}{bt:JI}{us:List Value}(Y7:Ins w Y bt args us){h8:∀k p,args[k]?=some p->GH p=true->k<8}
  {s':St} {a':Act} {w':World} {β':Bt} (hr:Acx C P f fn args s'=some res) (h:B4 fn.ntmps w (CY bt args h8) Y β' s' a' w'):
  a'.defers=[]∧∃v,(results fn a'.tmps).run P w'=.ok v w'∧∃vs own,Ending.returned v=.returned (K5 vs)∧Out w w' Y bt args own res vs:=by
 unfold Acx at hr;obtain⟨vs,l,z,us',hr1,hus,hll,hL,hz,hv⟩:=PM h hr;obtain⟨os,l',z',q,hr2,hL',hz',hq,hpi,Sh⟩:=V9 h (bt:=bt) (fun _=>rfl) hr1 (fun k p h1 h2=>by rw[Nat.zero_add];exact⟨p,h1,h2⟩)
 obtain⟨SA,hr3⟩:=As hr2;cases hr3;simp only[Bool.and_eq_true] at SA;obtain⟨SA,Axu⟩:=SA;obtain⟨hn1,hn2,hn3⟩:=K0 SA
 have HO:∀i∈z++z',i ∉ (l.filterMap id++l'.filterMap id)++q:=by
  intro i hi Qf;have:=List.all_eq_true.1 Axu i hi;have h2:((l.filterMap id++l'.filterMap id)++q).any (Nat.beq i)=true:=List.any_eq_true.2 ⟨i,Qf,Nat.beq_refl i⟩;rw[h2] at this;cases this
 have Alj:Pf s' (z++z'):=by
  intro i hi;rcases List.mem_append.1 hi with hi|hi
  ·exact hz i hi
  ·exact hz' i hi
 refine⟨h.dfr,K5 us',Ab2 hus,us',Oo β' (l++l'),rfl,?_⟩;have A57:Fh ((l++l').filterMap id)=true:=by rw[List.filterMap_append];exact hn1
 have Gx:∀j b o,Oo β' (l++l') j=some (b,o)->∃id,(l++l')[j]?=some (some id)∧β' id=some (b,o):=by
  intro j b o hj;unfold Oo at hj;cases hlj:(l++l')[j]? with
  |none=>rw[hlj] at hj;cases hj
  |some q=>
   cases q with
   |none=>rw[hlj] at hj;cases hj
   |some id=>
    rw[hlj] at hj;exact⟨id,rfl,hj⟩
 have Ns:∀(j i:Nat),(l++l')[j]?=some (some i)->i∈l.filterMap id++l'.filterMap id:=by
  intro j i hj;rw[←List.filterMap_append];exact List.mem_filterMap.2 ⟨some i,List.mem_of_getElem? hj,rfl⟩
 have Iv:∀(j i:Nat),(l++l')[j]?=some (some i)->Cs (s'.hp i):=by
  intro j i hj;rcases List.mem_append.1 (List.mem_of_getElem? hj) with Qf|Qf
  ·exact hL i Qf
  ·obtain⟨c,hc⟩:=hL' i Qf;rw[hc];trivial
 have Axn:∀i,i∈(l.filterMap id++l'.filterMap id)++q->Ag s'.hp (z++z') i=s'.hp i:=by
  intro i hi;rw[Cn,if_neg (fun Qf=>HO i Qf hi)]
 have Awt:∀i b o,bt i 0=some (b,o)->Dh fn.ntmps i∈q∧Cs (s'.hp (Dh fn.ntmps i))∧β' (Dh fn.ntmps i)=some (b,o):=by
  intro i b o RW;obtain⟨p,h1,h2⟩:=Y7.l0 i _ RW;have h3:=hpi i p h1 h2;rw[Nat.zero_add] at h3;exact⟨h3,hq _ h3,(h.pin i ⟨p,h1,h2⟩).2.trans RW⟩
 have hAO:∀b,RE bt (Oo β' (l++l')) Y b->Db (Ag s'.hp (z++z')) β' Y b:=by
  rintro b (⟨j,o,hj⟩|⟨i,o,RW⟩|hY)
  ·obtain⟨id,h1,h2⟩:=Gx j b o hj;refine .inl ⟨id,o,?_,h2⟩;rw[Axn id (List.mem_append.2 (.inl (Ns j id h1)))];exact Iv j id h1
  ·obtain⟨h1,h2,h3⟩:=Awt i b o RW;refine .inl ⟨_,o,?_,h3⟩;rw[Axn _ (List.mem_append.2 (.inr h1))];exact h2
  ·exact .inr hY
 have CF:∀(j id b o:Nat),(l++l')[j]?=some (some id)->β' id=some (b,o)->b<w.heap.size->∃i k o',bt i (k+1)=some (b,o'):=by
  intro j id b o hj hβ Cd;rcases h.ownd b ⟨id,o,Iv j id hj,hβ⟩ with⟨i,k,o',RW⟩|hge
  ·cases k with
   |zero=>
    obtain⟨h1,h2,h3⟩:=Awt i b o' RW;have:=h.inj id _ b o o' (Iv j id hj) h2 hβ h3;subst this;exact absurd h1 (hn3 _ (Ns j _ hj))
   |succ k=>exact⟨i,k,o',RW⟩
  ·omega
 refine⟨h.fr.os,h.fr.tape,h.fr.output,h.fr.step,h.fr.rng,?_,?_,?_,?_⟩
 ·refine hv (z++z') _ _ (fun i hi=>List.mem_append.2 (.inl hi)) Alj hAO (fun id c b o hi hc hβ=>?_) _ 0 (fun j hj=>by rw[Nat.zero_add,AW hj])
  rcases Nat.lt_or_ge b w.heap.size with Cd|hge
  ·obtain⟨k,Iu,p,h1,h2⟩:=h.stp id c b o hc hβ Cd;have h3:=hpi k p h1 h2;rw[Nat.zero_add,←Iu] at h3;obtain⟨j,hj⟩:=List.mem_iff_getElem?.1 hi;refine absurd h3 (hn3 id ?_);exact List.mem_append.2 (.inl (List.mem_filterMap.2 ⟨some id,hi,rfl⟩))
  ·exact hge
 ·refine Sh (z++z') _ (fun i hi=>List.mem_append.2 (.inr hi)) Alj (fun i hi Qf=>HO i Qf (List.mem_append.2 (.inr hi))) hAO _ _ (fun j hj=>?_)
  rw[←hll,CC]
 ·intro j b o hj;obtain⟨id,h1,h2⟩:=Gx j b o hj;refine⟨h.blt id b o (Dg (Iv j id h1)) h2,fun Cd=>⟨CF j id b o h1 h2 Cd,fun x hx=>?_⟩⟩
  cases Mx:s'.hp id with
  |none=>have:=Iv j id h1;rw[Mx] at this;exact this.elim
  |some bx=>
   have GT:=Iv j id h1;rw[Mx] at GT;cases bx with
   |st c=>
    obtain⟨k,Iu,p,h3,h4⟩:=h.stp id c b o Mx h2 Cd;have h5:=hpi k p h3 h4;rw[Nat.zero_add,←Iu] at h5;exact absurd h5 (hn3 _ (Ns j _ h1))
   |ar fz c=>exact h.rngB id _ b o Mx GT h2 Cd x hx
   |mv=>exact GT.elim
 ·intro j j' b o o' hj Xe;obtain⟨id,h1,h2⟩:=Gx j b o hj;obtain⟨id',VE,h2'⟩:=Gx j' b o' Xe;have:=h.inj id id' b o o' (Iv j id h1) (Iv j' id' VE) h2 h2';subst this;exact Ad0 A57 h1 VE
theorem RR {G:Us}(Ja:NoNG P)(hm:P.follows .mixedOrders=true){C:I3}{fu:Nat}{call:Ah}(C4:∀f args res,call f args=some res->C7 G P f args res){f:FuncId}{fn:Func}{c:Code}(hf:P.funcs[f]?=some fn) (hb:fn.body=some c)
  {args:List PV} {res:A5} (hk:Aug C P fu call f fn c args=some res):C7 G P f args res:=by
 refine⟨⟨fn,hf,by rw[hb];rfl⟩,fun w Y bt us Y7 hG hGY=>?_⟩
 unfold Aug at hk;obtain⟨tms,bs,D4,Gk⟩:=HD Y7 hk;obtain⟨H3,Gc⟩:=As D4;simp only[Bool.and_eq_true] at H3
 have Gv:us.length<=fn.ntmps:=by
  rw[←Y7.args.len];exact Nat.le_of_ble_eq_true H3.1
 obtain⟨h8,β0,hs⟩:=Gk H3.2 Gv;refine calls_of_wp hf hb ?_;have hE:JJ P G w (CY bt args h8):=⟨Ja,fun w' TJ=>G.stable w w' (fun b hb Cd=>TJ.step.keep b Cd (hGY b hb).2) hG,hGY⟩
 refine CK hE C4 hm c hs Gc (fun s' a' w' β' hr h=>Y4 Y7 hr h) (fun id s' a' w' β' hr h=>by cases hr) (fun s' a' w' β' hr h=>Y4 Y7 hr h)
def Ai8 (G:Us)(P:Program)(C:I3):Prop:=∀f g args res,C.ext f=some g->g args=some res->C7 G P f args res
theorem Yk {G:Us}(Ja:NoNG P)(hm:P.follows .mixedOrders=true){C:I3}(hx:Ai8 G P C){fu:Nat}:∀(d:Nat)(f:FuncId)(args:List PV)(res:A5),Ad C P fu d f args=some res->C7 G P f args res
 |0,_,_,_,h=>by cases h
 |d+1,f,args,res,h=>by
  unfold Ad at h;split at h
  ·rename_i g hg;exact hx f g args res hg h
  ·split at h
   ·cases h
   ·rename_i fn hf;split at h
    ·cases h
    ·rename_i c hb;exact RR Ja hm (Yk Ja hm hx d) hf hb h
end
open Go.ChangeShapes Go.WideShapes Go.ChangeAt Go.RowKit Go.Deep
def Aam (P:Program):List Field->Nat->Nat->Bool
 |[],i,n=>Nat.beq i n
 |f::r,i,n=>Nat.beq f.offset i&&Aam P r (i+P.cellsOf f.type) n
def P0 (P:Program):Nat->TypeId->Bool
 |0,_=>false
 |d+1,t=>
  match P.underlying t with
  |some .bool=>true
  |some (.int _)=>true
  |some .string=>true
  |some (.slice e)=>P0 P d e&&Nat.blt 0 (P.cellsOf e)
  |some (.struct fs)=>Aam P fs.toList 0 (P.cellsOf t)&&fs.toList.all fun f=>P0 P d f.type
  |some (.array n e)=>Nat.beq (P.cellsOf t) (n*P.cellsOf e)&&P0 P d e
  |_=>false
def WT (P:Program):Nat->TypeId->List PV->Prop
 |0,_,_=>False
 |d+1,t,ps=>
  match P.underlying t with
  |some .bool=>∃b,ps=[.sc (.bool b)]
  |some (.int k)=>∃n,ps=[.sc (.int k n)]∧(Lit.int k n).wf=true
  |some .string=>∃s:ByteArray,ps=[.sc (.string s)]∧s.size<=maxLen
  |some (.slice e)=>∃rows:List (List PV),ps=[.lst false (P.cellsOf e) rows.length rows.flatten]∧rows.length<=maxLen∧∀r∈rows,r.length=P.cellsOf e∧WT P d e r
  |some (.struct fs)=>∃rows:List (List PV),ps=rows.flatten∧Bw (fun f r=>WT P d f.type r) fs.toList rows
  |some (.array n e)=>∃rows:List (List PV),ps=rows.flatten∧rows.length=n∧∀r∈rows,r.length=P.cellsOf e∧WT P d e r
  |_=>False
def WTv (P:Program)(t:TypeId)(p:PV):Prop:=
 match Cr P t with
 |true=>∃ps,p=.agg ps∧WT P 12 t ps
 |false=>WT P 12 t [p]
section
variable {P:Program} {d:Nat} {t e:TypeId} {ps:List PV}
theorem As0 (hu:P.underlying t=some .bool):WT P (d+1) t ps↔∃b,ps=[.sc (.bool b)]:=by
 show (match P.underlying t with|some .bool=>_|some (.int k)=>_|some .string=>_|some (.slice e)=>_|some (.struct fs)=>_|some (.array n e)=>_|_=>_)↔_
 rw[hu]
theorem Apq {k:IntKind}(hu:P.underlying t=some (.int k)):WT P (d+1) t ps↔∃n,ps=[.sc (.int k n)]∧(Lit.int k n).wf=true:=by
 show (match P.underlying t with|some .bool=>_|some (.int k)=>_|some .string=>_|some (.slice e)=>_|some (.struct fs)=>_|some (.array n e)=>_|_=>_)↔_
 rw[hu]
theorem Akz (hu:P.underlying t=some .string):WT P (d+1) t ps↔∃s:ByteArray,ps=[.sc (.string s)]∧s.size<=maxLen:=by
 show (match P.underlying t with|some .bool=>_|some (.int k)=>_|some .string=>_|some (.slice e)=>_|some (.struct fs)=>_|some (.array n e)=>_|_=>_)↔_
 rw[hu]
theorem Abx (hu:P.underlying t=some (.slice e)):WT P (d+1) t ps↔∃rows:List (List PV),ps=[.lst false (P.cellsOf e) rows.length rows.flatten]∧rows.length<=maxLen∧∀r∈rows,r.length=P.cellsOf e∧WT P d e r:=by
 show (match P.underlying t with|some .bool=>_|some (.int k)=>_|some .string=>_|some (.slice e)=>_|some (.struct fs)=>_|some (.array n e)=>_|_=>_)↔_
 rw[hu]
theorem Aja {fs:Array Field}(hu:P.underlying t=some (.struct fs)):WT P (d+1) t ps↔∃rows:List (List PV),ps=rows.flatten∧Bw (fun f r=>WT P d f.type r) fs.toList rows:=by
 show (match P.underlying t with|some .bool=>_|some (.int k)=>_|some .string=>_|some (.slice e)=>_|some (.struct fs)=>_|some (.array n e)=>_|_=>_)↔_
 rw[hu]
theorem Aq7 {n:Nat}(hu:P.underlying t=some (.array n e)):WT P (d+1) t ps↔∃rows:List (List PV),ps=rows.flatten∧rows.length=n∧∀r∈rows,r.length=P.cellsOf e∧WT P d e r:=by
 show (match P.underlying t with|some .bool=>_|some (.int k)=>_|some .string=>_|some (.slice e)=>_|some (.struct fs)=>_|some (.array n e)=>_|_=>_)↔_
 rw[hu]
end
inductive Ki where
 |bool
 |int (k:IntKind)
 |str
 |sl (e:TypeId)
 |st (ts:List TypeId)
 |ar (n:Nat) (e:TypeId)
 |no
def Vg (P:Program)(t:TypeId):Ki:=
 match P.underlying t with
 |some .bool=>.bool
 |some (.int k)=>.int k
 |some .string=>.str
 |some (.slice e)=>.sl e
 |some (.struct fs)=>.st (fs.toList.map (·.type))
 |some (.array n e)=>.ar n e
 |_=>.no
section
variable {P:Program} {d:Nat} {t e:TypeId} {ps:List PV} {p:PV}
theorem Bw.cons_inv {α β:Type}{R:α->β->Prop}{a:α}{zs:List α}:∀{rs:List β},Bw R (a::zs) rs->∃r rs',rs=r::rs'∧R a r∧Bw R zs rs'
 |[],h=>h.elim
 |r::rs,h=>⟨r,rs,rfl,h.1,h.2⟩
theorem Bw.nil_inv {α β:Type}{R:α->β->Prop}:∀{rs:List β},Bw R ([]:List α) rs->rs=[]
 |[],_=>rfl
 |_::_,h=>h.elim
theorem Aq0 {k:IntKind}(hk:Vg P t=.int k)(h:WT P d t ps):∃n,ps=[.sc (.int k n)]∧(Lit.int k n).wf=true:=by
 cases d with
 |zero=>exact h.elim
 |succ d=>
 unfold Vg at hk;split at hk<;>first|cases hk|skip
 rename_i hu;exact (Apq hu).1 h
theorem A4d (hk:Vg P t=.sl e)(h:WT P d t ps):∃rows:List (List PV),ps=[.lst false (P.cellsOf e) rows.length rows.flatten]∧rows.length<=maxLen∧∀r∈rows,r.length=P.cellsOf e∧WT P (d-1) e r:=by
 cases d with
 |zero=>exact h.elim
 |succ d=>
 rw[Nat.add_sub_cancel];unfold Vg at hk;split at hk<;>first|cases hk|skip
 rename_i hu;exact (Abx hu).1 h
theorem Aix (hk:Cr P t=false)(h:WTv P t p):WT P 12 t [p]:=by
 unfold WTv at h;rw[hk] at h;exact h
theorem Atn {k:IntKind}(ha:Cr P t=false)(hk:Vg P t=.int k)(h:WTv P t p):∃n,p=.sc (.int k n)∧(Lit.int k n).wf=true:=by
 obtain⟨b,e,h⟩:=Aq0 hk (Aix ha h);exact⟨b,by injection e,h⟩
theorem KR {α:Type}(f:α->List PV)(Q:α->Prop):∀{rows:List (List PV)},(∀r∈rows,∃x,r=f x∧Q x)->∃xs:List α,rows.flatten=xs.flatMap f∧rows.length=xs.length∧∀x∈xs,Q x
 |[],_=>⟨[],rfl,rfl,by simp⟩
 |r::rows,h=>by
  obtain⟨x,h1,h2⟩:=h r (by simp)
  obtain⟨xs,h3,h4,h5⟩:=KR (rows:=rows) f Q fun r hr=>h r (by simp[hr])
  refine⟨x::xs,by simp[h1,h3],by simp[h4],fun y hy=>?_⟩
  rcases List.mem_cons.1 hy with rfl|hy
  ·exact h2
  ·exact h5 y hy
end
abbrev No:Nat->Prop:=fun _=>False
section
variable {H:Type} {enc:TypeId × Value->H} {P:Program} {w:World} {base:Nat} {held:Bool}
theorem Bw.flat {α β:Type}{R:α->β->Prop}:∀{l:List Nat}{f:Nat->List α}{g:Nat->List β},(∀i∈l,Bw R (f i) (g i))->Bw R (l.map f).flatten (l.map g).flatten
 |[],_,_,_=>trivial
 |i::l,f,g,h=>by
  simp only[List.map_cons,List.flatten_cons];exact (h i (by simp)).app (Bw.flat fun j hj=>h j (by simp[hj]))
theorem Akd {a:Addr}{v:Value}(h:w.cell? a=some v):a.spot=none∧a.block<w.heap.size:=by
 unfold World.cell? at h;split at h
 ·rename_i c t f e;refine⟨?_,?_⟩
  ·cases hs:a.spot with
   |none=>rfl
   |some x=>rw[hs] at h;simp at h
  ·rcases Nat.lt_or_ge a.block w.heap.size with h1|h1
   ·exact h1
   ·rw[Array.getElem?_eq_none h1] at e;cases e
 ·cases h
theorem RD {α:Type}{g:Nat->List α}{es:Nat}:∀{n:Nat},(∀i,i<n->(g i).length=es)->((List.range n).map g).flatten.length=n*es
 |0,_=>by simp
 |n+1,h=>by
  rw[List.range_succ,List.map_append,List.flatten_append,List.length_append,RD (fun i hi=>h i (by omega))]
  simp[h n (by omega),Nat.succ_mul]
theorem QH {a:Addr}{g:Nat->List Value}{es:Nat}:∀{n:Nat},(∀i,i<n->(g i).length=es)->(∀i,i<n->∀k,k<es->w.cell? (a.add (i*es+k))=(g i)[k]?) ->
  ∀j,j<n*es->w.cell? (a.add j)=(((List.range n).map g).flatten)[j]?
 |0,_,_,j,hj=>by omega
 |n+1,hl,hc,j,hj=>by
  have VP:=RD (fun i (hi:i<n)=>hl i (by omega))
  rw[List.range_succ,List.map_append,List.flatten_append,List.getElem?_append,VP];rw[Nat.succ_mul] at hj;split
  ·rename_i h1;exact QH (fun i hi=>hl i (by omega)) (fun i hi=>hc i (by omega)) j h1
  ·rename_i h1;have:=hc n (by omega) (j-n*es) (by omega)
   rw[show n*es+(j-n*es)=j by omega] at this
   simpa using this
abbrev TR (w:World)(c:PV)(v:Value):Prop:=(AC c∧Aw w No c v)∧v.oneCell'=true
theorem JD {d:Nat}{cs:List Value}{n:Nat}(hn:cs.length=n):∀(l:List Field)(i:Nat),Aam P l i n=true ->
  (∀f∈l,∃ps,WT P d f.type ps∧Bw (TR w) ps ((cs.drop f.offset).take (P.cellsOf f.type)))->∃rows:List (List PV),Bw (fun f r=>WT P d f.type r) l rows∧Bw (TR w) rows.flatten (cs.drop i)
 |[],i,ho,_=>by
  have:=Nat.eq_of_beq_eq_true ho;refine⟨[],trivial,?_⟩;rw[List.drop_of_length_le (by omega)]
  trivial
 |f::l,i,ho,h=>by
  simp only[Aam,Bool.and_eq_true] at ho;have ho1:=Nat.eq_of_beq_eq_true ho.1;obtain⟨ps,h1,h2⟩:=h f (by simp)
  obtain⟨rows,h3,h4⟩:=JD hn l _ ho.2 fun g hg=>h g (by simp[hg])
  refine⟨ps::rows,⟨h1,h3⟩,?_⟩;rw[ho1] at h2;have:cs.drop i=(cs.drop i).take (P.cellsOf f.type)++cs.drop (i+P.cellsOf f.type):=by rw[←List.drop_drop];exact (List.take_append_drop _ _).symm
  rw[this,List.flatten_cons];exact h2.app h4
theorem QD {d:Nat}{e:TypeId}{cs:List Value}{k:Nat}:∀(n:Nat),n*k<=cs.length ->
  (∀i,i<n->∃ps,(ps.length=k∧WT P d e ps)∧Bw (TR w) ps ((cs.drop (i*k)).take k))->∃rows:List (List PV),rows.length=n∧(∀r∈rows,r.length=k∧WT P d e r)∧Bw (TR w) rows.flatten (cs.take (n*k))
 |0,_,_=>⟨[],rfl,by simp,by simp[Bw]⟩
 |n+1,hl,h=>by
  rw[Nat.succ_mul] at hl;obtain⟨rows,h1,h2,h3⟩:=QD n (by omega) fun i hi=>h i (by omega)
  obtain⟨ps,h4,h5⟩:=h n (by omega)
  refine⟨rows++[ps],by simp[h1],?_,?_⟩
  ·intro r hr;rcases List.mem_append.1 hr with hr|hr
   ·exact h2 r hr
   ·rw[List.mem_singleton.1 hr];exact h4
  ·rw[List.flatten_append,Nat.succ_mul,List.take_add];refine h3.app ?_
   simpa using h5
theorem Yt:∀(d:Nat)(t:TypeId),P0 P d t=true->∀(fuel:Nat)(cs:List Value)(x:DataW H × List MemPlace),DataW.trod enc P w base (fun _=>true) held fuel t cs=some x ->
  ∃ps,WT P d t ps∧Bw (TR w) ps cs
 |0,_,h,_,_,_,_=>by cases h
 |d+1,t,hp,fuel,cs,x,h=>by
  unfold P0 at hp;split at hp
  ·rename_i hu;obtain⟨b,rfl,_⟩:=DataW.trod_bool hu h;simp only[As0 hu];exact⟨[.sc (.bool b)],⟨b,rfl⟩,⟨⟨trivial,Aw.sc _⟩,rfl⟩,trivial⟩
  ·rename_i k hu;obtain⟨n,rfl,_,hw⟩:=DataW.trod_int hu h;simp only[Apq hu];exact⟨[.sc (.int k n)],⟨n,rfl,hw⟩,⟨⟨trivial,Aw.sc _⟩,rfl⟩,trivial⟩
  ·rename_i hu;obtain⟨s,rfl,_,hw⟩:=DataW.trod_string hu h;simp only[Akz hu];exact⟨[.sc (.string s)],⟨s,rfl,hw⟩,⟨⟨trivial,Aw.sc _⟩,rfl⟩,trivial⟩
  ·rename_i e hu;simp only[Bool.and_eq_true] at hp;have KE:0<P.cellsOf e:=Nat.lt_of_succ_le (Nat.le_of_ble_eq_true hp.2);simp only[Abx hu];rcases open_slice hu h with⟨rfl,_⟩|⟨a,len,cap,m,n,D,Pl,rfl,_,hl,hm,hmm,_,hi⟩
   ·exact⟨[.lst false (P.cellsOf e) 0 []],⟨[],by simp,by simp,by simp⟩,⟨⟨trivial,Aw.lnil _ _⟩,rfl⟩,trivial⟩
   ·simp only[if_true] at hmm;subst hmm
    have hi':∀i,i<len->∃q:List PV × List Value,(q.2.length=P.cellsOf e∧(∀k,k<P.cellsOf e->w.cell? (a.add (i*P.cellsOf e+k))=q.2[k]?))∧WT P d e q.1∧Bw (TR w) q.1 q.2:=by
     intro i Cd;obtain⟨cs',hc,ht⟩:=hi i (by omega)
     obtain⟨_,W9,hat⟩:=World.cells?_some hc;obtain⟨ps,h1,h2⟩:=Yt d e hp.1 _ _ _ ht;exact⟨(ps,cs'),⟨W9,fun k hk=>by rw[←Pv.add_add];exact hat k hk⟩,h1,h2⟩
    obtain⟨F,hF⟩:=choose_lt hi';refine⟨[.lst false (P.cellsOf e) len ((List.range len).map fun i=>(F i).1).flatten],⟨(List.range len).map fun i=>(F i).1,by simp,by simp;omega,?_⟩,⟨⟨trivial,?_⟩,rfl⟩,trivial⟩
    ·intro r hr;obtain⟨i,hi1,rfl⟩:=List.mem_map.1 hr;have hi2:=List.mem_range.1 hi1;exact⟨by rw[(hF i hi2).2.2.len];exact (hF i hi2).1.1,(hF i hi2).2.1⟩
    ·rcases Nat.eq_zero_or_pos len with h0|h0
     ·subst h0;exact Aw.lemp _ _ _
     ·have Vi:Bw (TR w) ((List.range len).map fun i=>(F i).1).flatten ((List.range len).map fun i=>(F i).2).flatten:=Bw.flat fun i hi=>(hF i (List.mem_range.1 hi)).2.2
      have hcell:=QH (w:=w) (a:=a) (g:=fun i=>(F i).2) (fun i hi=>(hF i hi).1.1) (fun i hi=>(hF i hi).1.2)
      have Gv:=RD (g:=fun i=>(F i).2) (fun i (hi:i<len)=>(hF i hi).1.1)
      have h00:w.cell? a≠none:=by
       have:=hcell 0 (Nat.mul_pos h0 KE);rw[show a.add 0=a by unfold Addr.add;simp] at this
       rw[this,List.getElem?_eq_getElem (by rw[Gv];exact Nat.mul_pos h0 KE)]
       simp
      obtain⟨v0,hv0⟩:=Option.ne_none_iff_exists'.1 h00;obtain⟨hs,hb⟩:=Akd hv0
      have key:∀j c,(((List.range len).map fun i=>(F i).1).flatten)[j]?=some c->∃v,w.cell? (a.add j)=some v∧TR w c v:=by
       intro j c hj
       have hlj:j<len*P.cellsOf e:=by
        rw[←Gv,←Vi.len];rcases Nat.lt_or_ge j (((List.range len).map fun i=>(F i).1).flatten).length with h1|h1
        ·exact h1
        ·rw[List.getElem?_eq_none h1] at hj;cases hj
       have h1:=hcell j hlj;rw[List.getElem?_eq_getElem (by rw[Gv];exact hlj)] at h1
       exact⟨_,h1,Vi.at_ hj (List.getElem?_eq_getElem (by rw[Gv];exact hlj))⟩
      refine Aw.lst _ _ _ a _ (fun j=>(w.cell? (a.add j)).getD undef) hs hb (fun h=>h) hl (fun j c hj=>?_) (fun j c hj=>?_) (fun j c hj=>?_)
      ·obtain⟨v,hv,_⟩:=key j c hj;rw[hv];rfl
      ·obtain⟨v,hv,ht⟩:=key j c hj;rw[hv];exact ht.2
      ·obtain⟨v,hv,ht⟩:=key j c hj;rw[hv];exact ht.1.2
  ·rename_i fs hu;simp only[Bool.and_eq_true] at hp;simp only[Aja hu];obtain⟨xs,n,_,_,Gv,hxl,hf⟩:=DataW.trod_struct hu h
   obtain⟨rows,h1,h2⟩:=JD (P:=P) (w:=w) (d:=d) Gv fs.toList 0 hp.1 fun f XW=>by
    obtain⟨i,hi⟩:=List.mem_iff_getElem?.1 XW;have hi':fs[i]?=some f:=by simpa using hi
    have Cd:i<fs.size:=(Array.getElem?_eq_some_iff.1 hi').1;have h3:=hf i f hi';rw[List.getElem?_eq_getElem (by omega)] at h3
    exact Yt d f.type (List.all_eq_true.1 hp.2 f XW) _ _ _ h3
   exact⟨_,⟨rows,rfl,h1⟩,by simpa using h2⟩
  ·rename_i n e hu;simp only[Bool.and_eq_true] at hp;simp only[Aq7 hu];obtain⟨xs,m,_,_,Gv,hxl,hf⟩:=DataW.trod_array hu h;have Ku:=Nat.eq_of_beq_eq_true hp.1
   obtain⟨rows,h1,h2,h3⟩:=QD (P:=P) (w:=w) (d:=d) (e:=e) (cs:=cs) (k:=P.cellsOf e) n (by omega) fun i hi=>by
    have h3:=hf i hi;rw[List.getElem?_eq_getElem (by omega)] at h3
    obtain⟨ps,h4,h5⟩:=Yt d e hp.2 _ _ _ h3;refine⟨ps,⟨?_,h4⟩,h5⟩;rw[h5.len,List.length_take,List.length_drop,Gv,Ku];have:(i+1)*P.cellsOf e<=n*P.cellsOf e:=Nat.mul_le_mul_right _ hi;rw[Nat.succ_mul] at this;omega
   refine⟨_,⟨rows,rfl,h1,h2⟩,?_⟩;rw[List.take_of_length_le (by omega)] at h3
   exact h3
  ·cases hp
theorem Apj {r:Reach}{b0:Nat}{t:TypeId}{v:Value}{dd:DataW H}{p:List MemPlace}(hp:P0 P 12 t=true)(hv:Value.okWide P w r b0 t v)(h:DataW.Trod enc P w base (fun _=>true) held t v dd p):
  ∃q,WTv P t q∧Ue w No q v:=by
 obtain⟨fuel,hf⟩:=h;obtain⟨ps,h1,h2⟩:=Yt 12 t hp fuel _ _ hf;unfold WTv Cr
 have two:∀{cs:Array Value},v=.agg cs->∃q,(∃ps,q=.agg ps∧WT P 12 t ps)∧Ue w No q v:=by
  intro cs e;subst e;exact⟨.agg ps,⟨ps,rfl,h1⟩,cs.toList,by simp,h2.mono fun c v h=>h.1⟩
 have one:v.cells.toList=[v]->∃q,WT P 12 t [q]∧Ue w No q v:=by
  intro e;rw[e] at h2
  match ps,h2 with
  |[q],h2=>
   refine⟨q,h1,?_⟩;have h3:=h2.1.1;cases q<;>first|exact h3|exact h3.1.elim
  |[],h2=>exact h2.elim
  |_::_::_,h2=>exact h2.2.elim
 unfold P0 at hp;split at hp
 ·rename_i hu;simp only[hu];obtain⟨b,rfl,_⟩:=open_bool hu hv ⟨fuel,hf⟩;exact one rfl
 ·rename_i k hu;simp only[hu];obtain⟨b,rfl,_⟩:=open_int hu hv ⟨fuel,hf⟩;exact one rfl
 ·rename_i hu;simp only[hu];obtain⟨b,rfl,_⟩:=ChangeMaps.open_string hu hv ⟨fuel,hf⟩;exact one rfl
 ·rename_i e hu;simp only[hu];obtain⟨a,len,cap,rfl⟩:=okWide_slice hu hv;exact one rfl
 ·rename_i fs hu;simp only[hu];obtain⟨cs,rfl,_⟩:=okWide_struct hu hv;exact two rfl
 ·rename_i n e hu;simp only[hu];unfold Value.okWide at hv;simp only[hu] at hv;obtain⟨cs,rfl,_⟩:=hv;exact two rfl
 ·cases hp
theorem VR:∀{ts:List TypeId}{vs:List Value}{ds:List (DataW H)} {p:List MemPlace}{r:Reach}{b0:Nat},(ts.all fun t=>P0 P 12 t)=true->(∀(j:Nat) t v,ts[j]?=some t->vs[j]?=some v->Value.okWide P w r b0 t v) ->
  DataW.TrodAll enc P w base (fun _=>true) held ts vs ds p->∃qs,Bw (WTv P) ts qs∧Bw (Ue w No) qs vs
 |[],[],[],_,_,_,_,_,_=>⟨[],trivial,trivial⟩
 |t::ts,v::vs,d::ds,_,r,b0,hp,hv,⟨p,q,h1,h2,_⟩=>by
  simp only[List.all_cons,Bool.and_eq_true] at hp;obtain⟨x,h3,h4⟩:=Apj hp.1 (hv 0 t v rfl rfl) h1;obtain⟨xs,h5,h6⟩:=VR hp.2 (fun j t v ht Sh=>hv (j+1) t v ht Sh) h2
  exact⟨x::xs,⟨h3,h5⟩,h4,h6⟩
 |[],_::_,_,_,_,_,_,_,h=>by cases h
 |[],[],_::_,_,_,_,_,_,h=>by cases h
 |_::_,[],_,_,_,_,_,_,h=>by cases h
 |_::_,_::_,[],_,_,_,_,_,h=>by cases h
theorem AP (hl:laidOutB P=true){W W':World}{sp:Nat->Bool}:∀{ts:List TypeId}{vs:List Value}{ds:List (DataW H)} {p:List MemPlace},(ts.all fun t=>P.readableRec t&&Nat.blt t P.types.size)=true ->
  DataW.TrodAll enc P W 0 (fun _=>true) true ts vs ds p->(∀x∈p,W.sameAt W' x)->(∀x∈p,sp x.block=true)->DataW.TrodAll enc P W' 0 sp true ts vs ds p
 |[],[],[],_,_,h,_,_=>h
 |t::ts,v::vs,d::ds,_,hr,⟨p,q,h1,h2,e⟩,hs,hsp=>by
  simp only[List.all_cons,Bool.and_eq_true] at hr;refine⟨p,q,WideElems.Trod_stays hl hr.1.1 (Nat.lt_of_succ_le (Nat.le_of_ble_eq_true hr.1.2)) h1 (fun x hx=>hs x ?_) (fun x hx=>hsp x ?_),AP hl hr.2 h2 (fun x hx=>hs x ?_) (fun x hx=>hsp x ?_),e⟩
  all_goals rw[e,List.mem_append]
  ·exact .inl hx
  ·exact .inl hx
  ·exact .inr hx
  ·exact .inr hx
 |[],_::_,_,_,_,h,_,_=>by cases h
 |[],[],_::_,_,_,h,_,_=>by cases h
 |_::_,[],_,_,_,h,_,_=>by cases h
 |_::_,_::_,[],_,_,h,_,_=>by cases h
theorem SQ {f:Func}{s:ChangeSpec}{apart fresh XY again:Bool}{W W':World}{args:Array Value}{v:Value}{ds gs:List (DataW H)} {before pa pv:List MemPlace}
  (hW:DataW.Whole enc P f.params.toList s.vars apart W args.toList ds gs before)
  (A3s:∀(b:Nat)(sp:Nat->Bool)(hd:Bool),DataW.TrodAll enc P W' b sp hd f.resultTypes.toList (v.resultList f.resultTypes.size) (s.fn H (ds++gs)).results [])
  (Es:∀sp:Nat->Bool,(∀p∈before,sp p.block=true)->DataW.TrodAll enc P W' 0 sp true f.params.toList args.toList (s.fn H (ds++gs)).args pa)
  (Abg:∀sp:Nat->Bool,(∀p∈before,sp p.block=true)->DataW.TrodVars enc P W' sp s.vars (s.fn H (ds++gs)).vars pv)
  (KX:before=pa++pv)(hb:Below W.heap.size W W')
  (hok:∀(j:Nat)(t:TypeId)(r:Value),f.resultTypes[j]?=some t->(v.resultList f.resultTypes.size)[j]?=some r->Value.okWide P W' .any 0 t r):
  s.post enc P f apart fresh XY again W args v W':=by
 have Cd:∀p∈before,p.block<W.heap.size:=fun p hp=>hW.lt p hp
 have hold:∀p∈before,(fun b=>decide (b<W.heap.size)) p.block=true:=fun p hp=>by simpa using Cd p hp
 refine⟨ds,gs,before,[],pa,pv,hW,A3s _ _ _,Es _ hold,Abg _ hold,World.keptBut_mono (fun p hp=>⟨hp,?_⟩) (hb.frame (· ∈ before)),fun _=>?_⟩
 ·rw[KX,List.mem_append] at hp;exact Or.inr hp
 ·obtain⟨_,_,_,_,_,hz,hn⟩:=hW;refine⟨hok,_,_,([]++pa)++pv,⟨[]++pa,pv,trodAll_append (Es _ (fun _ _=>rfl)) (A3s _ _ _),Abg _ (fun _ _=>rfl),rfl,?_,?_⟩,?_⟩
  ·intro b off hp;have Y7:MemPlace.cell b off∈before:=by rw[KX];simpa using hp
   rw[hb.frozen (Cd _ Y7)];exact hz b off Y7
  ·intro ha;have:=hn ha;rw[KX] at this
   simpa using this
  ·intro p hp _;rw[KX]
   simpa using hp
theorem law_contract {G:Us}{C:I3}(hx:Ai8 G P C)(Ja:NoNG P)(hm:P.follows .mixedOrders=true)(hl:laidOutB P=true){f:FuncId}{fn:Func}{s:ChangeSpec}{tb:TypeId}(hfn:P.funcs[f]?=some fn)
  (Abg:s.vars=[]) (A4l:∀ds:List (DataW H),ds.length=fn.params.size->s.fn H ds={ results:=[.lit (.bool true)],args:=ds }) (Axr:(fn.params.toList.all fun t=>P0 P 12 t)=true)
  (A15:(fn.params.toList.all fun t=>P.readableRec t&&Nat.blt t P.types.size)=true) (hrt:fn.resultTypes = #[tb]) (hub:P.underlying tb=some .bool)
  {apart fresh XY again:Bool} (W:World) (base:Nat) (args:Array Value) (ds gs:List (DataW H)) (before:List MemPlace)
  (hval:∀(j:Nat) t v,fn.params[j]?=some t->args[j]?=some v->Value.okWide P W .any base t v)
  (hW:DataW.Whole enc P fn.params.toList s.vars apart W args.toList ds gs before)
  (A7u:∀qs:List PV,Bw (WTv P) fn.params.toList qs->∃fu d,Ad C P fu d f qs=some ⟨[.sc (.bool true)],[]⟩) (hG:G.ok W)(hGY:∀b,G.bl b->b<W.heap.size):
  Calls P f args W fun e W'=>∃v,e=.returned v∧s.post enc P fn apart fresh XY again W args v W':=by
 have hW':=hW;obtain⟨p,q,hA,hV,rfl,HO,SA⟩:=hW;rw[Abg] at hV;obtain⟨rfl,rfl⟩:=trodVars_none hV;obtain⟨qs,h1,h2⟩:=VR Axr (fun j t v ht hv=>hval j t v (by simpa using ht) (by simpa using hv)) hA
 obtain⟨fu,d,hc⟩:=A7u qs h1;have hS:=(Yk Ja hm hx d f qs _ hc).2 W No Xj args.toList (Adx (fun b h=>h.elim) h2) hG (fun b hb=>⟨hGY b hb,Pk b⟩)
 rw[Array.toArray_toList] at hS;refine hS.mono fun e W' ⟨vs,own,he,ho⟩=>?_
 have hv:=ho.vals
 have Ti:vs=[.bool true]:=by
  match vs,hv with
  |[u],hv=>
   have:Aw W' _ (.sc (.bool true)) u:=hv.1;rw[this.val]
  |[],hv=>exact hv.elim
  |_::_::_,hv=>exact hv.2.elim
 subst Ti;subst he;have hb:Below W.heap.size W W':=⟨ho.os,ho.tape,ho.output,ho.ext.size,fun k hk=>ho.ext.keep k hk (Pk k)⟩
 have Cd:∀x∈p,x.block<W.heap.size:=fun x hx=>hW'.lt x (by simpa using hx)
 have Gv:ds.length=fn.params.size:=by
  have:∀{ts:List TypeId} {vs:List Value} {ds:List (DataW H)} {p:List MemPlace},DataW.TrodAll enc P W 0 (fun _=>true) true ts vs ds p->ds.length=ts.length:=by
   intro ts
   induction ts with
   |nil=>intro vs ds p h;cases vs<;>cases ds<;>first|rfl|cases h
   |cons t ts ih=>
    intro vs ds p h;cases vs with
    |nil=>cases h
    |cons v vs=>
     cases ds with
     |nil=>cases h
     |cons d ds=>obtain⟨_,_,_,h2,_⟩:=h;simp[ih h2]
  simpa using this hA
 have hsp:=A4l (ds++[]) (by simpa using Gv)
 refine⟨_,rfl,SQ (pa:=p) (pv:=[]) hW' ?_ ?_ ?_ rfl hb ?_⟩
 ·intro b sp hd;rw[hsp,hrt];exact trodAll_mk1 (shut_bool hub _)
 ·intro sp A7z;rw[hsp];simp only[List.append_nil];exact AP hl A15 hA (fun x hx=>hb.same (Cd x hx)) (fun x hx=>A7z x (by simpa using hx))
 ·intro sp _;rw[hsp,Abg];rfl
 ·exact ok_one hrt rfl (okWide_bool_mk hub _)
end
end
section
open Go.Proofs.Tryd (prog)
set_option maxRecDepth 100000
theorem Avo {d:Nat}{ps:List PV}{k:IntKind}{t e:TypeId}(hk:Vg prog t=.sl e)(hc:prog.cellsOf e=1)(he:Vg prog e=.int k)(h:WT prog d t ps):
  ∃l:List Int,ps=[.lst false 1 l.length (Af k l)]∧l.length<=maxLen∧∀n∈l,(Lit.int k n).wf=true:=by
 obtain⟨rows,rfl,hl,hr⟩:=A4d hk h;obtain⟨l,h1,h2,h3⟩:=KR (Aym k) (fun n=>(Lit.int k n).wf=true) fun r hrr=>Aq0 he (hr r hrr).2
 refine⟨l,?_,by omega,h3⟩
 rw[h1,h2,hc]
theorem Awv {n:Int}(h:(Lit.int .u8 n).wf=true):0<=n∧n<=255:=by
 simp[Lit.wf,IntKind.min,IntKind.max,IntKind.signed,IntKind.bits] at h;omega
theorem Apy {p:PV}{k:IntKind}{t e:TypeId}(ha:Cr prog t=false)(hk:Vg prog t=.sl e)(hc:prog.cellsOf e=1)(he:Vg prog e=.int k)(h:WTv prog t p):
  ∃l:List Int,p=.lst false 1 l.length (Af k l)∧l.length<=maxLen∧∀n∈l,(Lit.int k n).wf=true:=by
 have h':=Aix (P:=prog) (t:=t) (p:=p) ha h;obtain⟨l,h1,h2,h3⟩:=Avo hk hc he h';exact⟨l,by injection h1,h2,h3⟩
end
section
open Go.IntKind (wrap)
theorem D2:type_of% @Bool.not_true:=@Bool.not_true
theorem Lt:type_of% @Bool.not_false:=@Bool.not_false
theorem Dp:type_of% @Nat.mul_one:=@Nat.mul_one
theorem C8:type_of% @Nat.zero_add:=@Nat.zero_add
theorem Fg:type_of% @List.drop_zero.{0}:=@List.drop_zero
theorem My:type_of% @List.take_of_length_le.{0}:=@List.take_of_length_le
theorem Kb:type_of% @List.length_append.{0}:=@List.length_append
theorem W5:type_of% @List.length_nil.{0}:=@List.length_nil
theorem Io:type_of% @List.length_cons.{0}:=@List.length_cons
theorem Hs:type_of% @Int.toNat_natCast:=@Int.toNat_natCast
theorem Bj:type_of% @if_neg.{1}:=@if_neg
theorem Cy:type_of% @if_pos.{1}:=@if_pos
theorem Zzp:type_of% @List.cons_append.{0}:=@List.cons_append
theorem Zzq:type_of% @List.nil_append.{0}:=@List.nil_append
theorem XX:type_of% @List.append_assoc.{0}:=@List.append_assoc
theorem VO:type_of% @List.map_cons.{0,0}:=@List.map_cons
end
section
open Go.Proofs.Tryd (prog)
open Go.IntKind (wrap)
set_option maxRecDepth 100000
abbrev Pt:FuncId:=87
theorem Zq {xs:FuncId->Option (List PV->Option A5)} (fu d:Nat)(a0 a1:Int):Ad (CX xs) prog fu (d+1) Pt [.sc (.int .u64 a0),.sc (.int .i64 a1)]=(fun (call:Ah)=>Aa (wrap .u64 a1) fun x1=>Aa (W7 .u64 x1 63) fun x2=>Ar (decide (0<=x2))<|Aa (Jj .u64 a0 x2) fun x3=>Aa (wrap .u64 (64-x2)) fun x4=>Ar (decide (0<=x4))<|Aa (Ik .u64 a0 x4) fun x5=>Aa (UF .u64 x3 x5) fun x6=>some (A5.mk [.sc (.int .u64 x6)] [])) (Ad (CX xs) prog fu d):=by kernel_rfl
abbrev Gr:FuncId:=32
noncomputable def Iw (fu:Nat)(call:Ah)(Bd:Nat)(a0:List PV)(nn y0 y1:Nat)(y2:List PV)(y3 y4:Int)(y5:List PV):Option A5:=Du CB prog fu call 32 Tryd.f32 (Ca Tryd.f32) [.lst false 1 Bd a0] [.r,.r,.l,.r,.l] nn ⟨lk [(3,(.view 3 1 0 y0)),(11,(.lst false 1 y1 y2)),(12,(.sc (.int .i64 y3))),(13,(.sc (.int .i64 y4)))],Br [(3,(.ar false y5))]⟩
noncomputable def Kt (fu:Nat)(call:Ah)(Bd:Nat)(a0:List PV)(m0 nn y0:Nat)(y1:Int)(y2:Nat)(y3:List PV)(y4 y5 y6:Int)(y7:List PV):Option A5:=Du CB prog fu call 32 Tryd.f32 (Ca Tryd.f32) [.lst false 1 Bd a0] [.r,.r,.l,.r,.l,.i m0,.r,.r,.l,.l,.r,.r,.l] nn ⟨lk [(3,(.view 3 1 0 y0)),(5,(.sc (.int .u64 y1))),(11,(.lst false 1 y2 y3)),(12,(.sc (.int .i64 y4))),(13,(.sc (.int .i64 y5))),(17,(.sc (.int .i64 y6)))],Br [(3,(.ar false y7))]⟩
theorem Sy (fu:Nat)(call:Ah)(Bd:Nat)(a0:List PV)(nn y0 y1:Nat)(y2:List PV)(y3 y4:Int)(y5:List PV):Iw fu call Bd a0 (nn+1) y0 y1 y2 y3 y4 y5=(Bi (decide (y4<y3)) (Ar (decide (0<=y4)&&decide (y4<(↑y1:Int)))<|Ae .u64 (List.getD y2 (Int.toNat y4*1) .top) fun x2=>Kt fu call Bd a0 nn (fu) (y0) x2 (y1) (y2) (y3) (y4) 0 (y5)) (Ar (decide (y0*1<=y5.length))<|some (A5.mk [.own 1 y0 (List.take (y0*1) y5)] []))):=by kernel_rfl
theorem Sv (fu:Nat)(call:Ah)(Bd:Nat)(a0:List PV)(m0 nn y0:Nat)(y1:Int)(y2:Nat)(y3:List PV)(y4 y5 y6:Int)(y7:List PV):Kt fu call Bd a0 m0 (nn+1) y0 y1 y2 y3 y4 y5 y6 y7=(Bi (decide (y6<8)) (Aa (wrap .i64 (8*y6)) fun x3=>Aa (wrap .i64 (56-x3)) fun x4=>Ar (decide (0<=x4))<|Aa (Ik .u64 y1 x4) fun x5=>Aa (wrap .u8 x5) fun x6=>Ar (decide (y0*1<=y7.length)&&true&&decide ((y0+1)*1<=1099511627776)&&decide (y0+1<=1099511627776))<|Aa (y0+1) fun x7=>Aa (List.take (y0*1) y7++[.sc (.int .u8 x6)]) fun x8=>Aa (wrap .i64 (y6+1)) fun x9=>Kt fu call Bd a0 m0 (nn) x7 (y1) (y2) (y3) (y4) (y5) x9 x8) (Aa (wrap .i64 (y5+1)) fun C6=>Iw fu call Bd a0 (m0) (y0) (y2) (y3) (y4) C6 (y7))):=by kernel_rfl
theorem RM {xs:FuncId->Option (List PV->Option A5)} (fu d Bd:Nat)(a0:List PV):Ad (CX xs) prog fu (d+1) Gr [.lst false 1 Bd a0]=(fun (call:Ah)=>Aa (wrap .i64 (8*(↑Bd:Int))) fun x1=>Ar (decide (0<=x1)&&decide (x1*1<=1099511627776)&&decide (x1<=1099511627776))<|Iw fu call Bd a0 (fu) 0 (Bd) (a0) ((↑Bd:Int)) 0 ([])) (Ad (CX xs) prog fu d):=by kernel_rfl
abbrev Wh:FuncId:=67
noncomputable def J1 (fu:Nat)(call:Ah)(Bd:Nat)(a0:List PV)(nn:Nat)(y0:Int)(y1:Nat)(y2:List PV)(y3 y4:Int):Option A5:=Du CB prog fu call 67 Tryd.f67 (Ca Tryd.f67) [.lst false 1 Bd a0] [.r,.r,.l,.r,.l] nn ⟨lk [(3,(.sc (.int .u64 y0))),(6,(.lst false 1 y1 y2)),(7,(.sc (.int .i64 y3))),(8,(.sc (.int .i64 y4)))],Br []⟩
theorem Ra (fu:Nat)(call:Ah)(Bd:Nat)(a0:List PV)(nn:Nat)(y0:Int)(y1:Nat)(y2:List PV)(y3 y4:Int):J1 fu call Bd a0 (nn+1) y0 y1 y2 y3 y4=(Bi (decide (y4<y3)) (Ar (decide (0<=y4)&&decide (y4<(↑y1:Int)))<|Ae .u8 (List.getD y2 (Int.toNat y4*1) .top) fun x1=>Aa (wrap .u64 x1) fun x2=>Aa (wrap .i64 (8*y4)) fun x3=>Ar (decide (0<=x3))<|Aa (Jj .u64 x2 x3) fun x4=>Aa (UF .u64 y0 x4) fun x5=>Aa (wrap .i64 (y4+1)) fun x6=>J1 fu call Bd a0 (nn) x5 (y1) (y2) (y3) x6) (some (A5.mk [.sc (.int .u64 y0)] []))):=by kernel_rfl
theorem MC {xs:FuncId->Option (List PV->Option A5)} (fu d Bd:Nat)(a0:List PV):Ad (CX xs) prog fu (d+1) Wh [.lst false 1 Bd a0]=(fun (call:Ah)=>J1 fu call Bd a0 (fu) 0 (Bd) (a0) ((↑Bd:Int)) 0) (Ad (CX xs) prog fu d):=by kernel_rfl
abbrev Nb:FuncId:=68
noncomputable def Gd (fu:Nat)(call:Ah)(Aj Ao:Int)(Bc Cv a1:Int)(nn:Nat)(y0 y1:Int)(y2 y3:Int)(y4 y5:Int):Option A5:=Du CB prog fu call 68 Tryd.f68 (Ca Tryd.f68) [.pbox [.sc (.int .u64 Aj),.sc (.int .u64 Ao),.sc (.int .u64 Bc),.sc (.int .u64 Cv)],.sc (.int .i64 a1)] [.r,.l] nn ⟨lk [(0,(.ptr 288000 0)),(4,(.sc (.int .i64 y0))),(5,(.sc (.int .i64 y1)))],Br [(288000,(.st [(.sc (.int .u64 y2)),(.sc (.int .u64 y3)),(.sc (.int .u64 y4)),(.sc (.int .u64 y5))]))]⟩
theorem Kj (fu:Nat)(call:Ah)(Aj Ao:Int)(Bc Cv a1:Int)(nn:Nat)(y0 y1:Int)(y2 y3:Int)(y4 y5:Int):Gd fu call Aj Ao Bc Cv a1 (nn+1) y0 y1 y2 y3 y4 y5=(Bi (decide (y1<y0)) (Aa (wrap .u64 (y2+y3)) fun x1=>Ai (call 87 [.sc (.int .u64 y3),.sc (.int .i64 13)]) fun x2 x3=>Ac x3<|Ab x2 fun x4 x5=>Ae .u64 x4 fun x6=>Ac x5<|Aa (Ev .u64 x6 x1) fun x7=>Ai (call 87 [.sc (.int .u64 x1),.sc (.int .i64 32)]) fun x8 x9=>Ac x9<|Ab x8 fun C6 Dr=>Ae .u64 C6 fun Eg=>Ac Dr<|Aa (wrap .u64 (y4+y5)) fun Ez=>Ai (call 87 [.sc (.int .u64 y5),.sc (.int .i64 16)]) fun D7 Ew=>Ac Ew<|Ab D7 fun Fw Gm=>Ae .u64 Fw fun G4=>Ac Gm<|Aa (Ev .u64 G4 Ez) fun Gi=>Aa (wrap .u64 (Eg+Gi)) fun Gy=>Ai (call 87 [.sc (.int .u64 Gi),.sc (.int .i64 21)]) fun Jk Ia=>Ac Ia<|Ab Jk fun Je Fn=>Ae .u64 Je fun Eu=>Ac Fn<|Aa (Ev .u64 Eu Gy) fun Hv=>Aa (wrap .u64 (Ez+x7)) fun J8=>Ai (call 87 [.sc (.int .u64 x7),.sc (.int .i64 17)]) fun G3 O6=>Ac O6<|Ab G3 fun M7 Kw=>Ae .u64 M7 fun Mz=>Ac Kw<|Aa (Ev .u64 Mz J8) fun O8=>Ai (call 87 [.sc (.int .u64 J8),.sc (.int .i64 32)]) fun Pn O5=>Ac O5<|Ab Pn fun Ry Vb=>Ae .u64 Ry fun Ic=>Ac Vb<|Aa (wrap .i64 (y1+1)) fun Ln=>Gd fu call Aj Ao Bc Cv a1 (nn) (y0) Ln Gy O8 Ic Hv) (some (A5.mk [] [[.sc (.int .u64 y2),.sc (.int .u64 y3),.sc (.int .u64 y4),.sc (.int .u64 y5)]]))):=by kernel_rfl
theorem W0 {xs:FuncId->Option (List PV->Option A5)} (fu d:Nat)(Aj Ao:Int)(Bc Cv a1:Int):Ad (CX xs) prog fu (d+1) Nb [.pbox [.sc (.int .u64 Aj),.sc (.int .u64 Ao),.sc (.int .u64 Bc),.sc (.int .u64 Cv)],.sc (.int .i64 a1)]=(fun (call:Ah)=>Gd fu call Aj Ao Bc Cv a1 (fu) (a1) 0 (Aj) (Ao) (Bc) (Cv)) (Ad (CX xs) prog fu d):=by kernel_rfl
abbrev Nf:FuncId:=66
theorem W8 {xs:FuncId->Option (List PV->Option A5)} (fu d:Nat)(Aj Ao:Int)(Bc Cv a1:Int):Ad (CX xs) prog fu (d+1) Nf [.pbox [.sc (.int .u64 Aj),.sc (.int .u64 Ao),.sc (.int .u64 Bc),.sc (.int .u64 Cv)],.sc (.int .u64 a1)]=(fun (call:Ah)=>Aa (Ev .u64 Cv a1) fun x1=>Ai (call 68 [.pbox [.sc (.int .u64 Aj),.sc (.int .u64 Ao),.sc (.int .u64 Bc),.sc (.int .u64 x1)],.sc (.int .i64 2)]) fun x2 x3=>Ac x2<|Ab x3 fun x4 x5=>Ab x4 fun x6 x7=>Ae .u64 x6 fun x8=>Ab x7 fun x9 C6=>Ae .u64 x9 fun Dr=>Ab C6 fun Eg Ez=>Ae .u64 Eg fun D7=>Ab Ez fun Ew Fw=>Ae .u64 Ew fun Gm=>Ac Fw<|Ac x5<|Aa (Ev .u64 x8 a1) fun G4=>some (A5.mk [] [[.sc (.int .u64 G4),.sc (.int .u64 Dr),.sc (.int .u64 D7),.sc (.int .u64 Gm)]])) (Ad (CX xs) prog fu d):=by kernel_rfl
abbrev FL:FuncId:=43
noncomputable def Kk (fu:Nat)(call:Ah)(a0 a1:Int)(Ko:Nat)(a2:List PV)(nn y0:Nat)(y1:List PV)(y2 y3:Int)(y4 y5:Int)(y6 y7 y8:Int):Option A5:=Du CB prog fu call 43 Tryd.f43 (Ca Tryd.f43) [.sc (.int .u64 a0),.sc (.int .u64 a1),.lst false 1 Ko a2] [.r,.r,.r,.l,.r,.l] nn ⟨lk [(2,(.lst false 1 y0 y1)),(7,(.ptr 7 0)),(8,(.sc (.int .i64 y2))),(22,(.sc (.int .i64 y3))),(23,(.sc (.int .i64 y4)))],Br [(7,(.st [(.sc (.int .u64 y5)),(.sc (.int .u64 y6)),(.sc (.int .u64 y7)),(.sc (.int .u64 y8))]))]⟩
theorem Wv (fu:Nat)(call:Ah)(a0 a1:Int)(Ko:Nat)(a2:List PV)(nn y0:Nat)(y1:List PV)(y2 y3:Int)(y4 y5:Int)(y6 y7 y8:Int):Kk fu call a0 a1 Ko a2 (nn+1) y0 y1 y2 y3 y4 y5 y6 y7 y8=(Bi (decide (y4<y3)) (Aa (wrap .i64 (8*y4)) fun x6=>Aa (wrap .i64 (8*y4)) fun x7=>Aa (wrap .i64 (x7+8)) fun x8=>Ar (decide (0<=x6))<|Ar (decide (0<=x8))<|Ar (decide (Int.toNat x6<=Int.toNat x8)&&decide (Int.toNat x8<=y0))<|Aa (Int.toNat x8-Int.toNat x6) fun x9=>Aa (List.take (x9*1) (List.drop (Int.toNat x6*1) y1)) fun C6=>Ai (call 67 [.lst false 1 x9 C6]) fun Dr Eg=>Ac Eg<|Ab Dr fun Ez D7=>Ae .u64 Ez fun Ew=>Ac D7<|Ai (call 66 [.pbox [.sc (.int .u64 y5),.sc (.int .u64 y6),.sc (.int .u64 y7),.sc (.int .u64 y8)],.sc (.int .u64 Ew)]) fun Fw Gm=>Ac Fw<|Ab Gm fun G4 Gi=>Ab G4 fun Gy Jk=>Ae .u64 Gy fun Ia=>Ab Jk fun Je Fn=>Ae .u64 Je fun Eu=>Ab Fn fun Hv J8=>Ae .u64 Hv fun G3=>Ab J8 fun O6 M7=>Ae .u64 O6 fun Kw=>Ac M7<|Ac Gi<|Aa (wrap .i64 (y4+1)) fun Mz=>Kk fu call a0 a1 Ko a2 (nn) (y0) (y1) (y2) (y3) Mz Ia Eu G3 Kw) (Aa (wrap .i64 (8*y2)) fun O8=>Ar (decide (0<=O8))<|Ar (decide (Int.toNat O8<=y0)&&decide (y0<=y0))<|Aa (y0-Int.toNat O8) fun Pn=>Aa (List.take (Pn*1) (List.drop (Int.toNat O8*1) y1)) fun O5=>Ai (call 67 [.lst false 1 Pn O5]) fun Ry Vb=>Ac Vb<|Ab Ry fun Ic Ln=>Ae .u64 Ic fun S4=>Ac Ln<|Aa (wrap .u64 (↑y0:Int)) fun Xb=>Aa (Jj .u64 Xb 56) fun R9=>Aa (UF .u64 S4 R9) fun Ye=>Ai (call 66 [.pbox [.sc (.int .u64 y5),.sc (.int .u64 y6),.sc (.int .u64 y7),.sc (.int .u64 y8)],.sc (.int .u64 Ye)]) fun Za X6=>Ac Za<|Ab X6 fun Xc Yd=>Ab Xc fun Yq Yu=>Ae .u64 Yq fun BD=>Ab Yu fun Zz Zg=>Ae .u64 Zz fun BX=>Ab Zg fun EJ DK=>Ae .u64 EJ fun CJ=>Ab DK fun CI Z3=>Ae .u64 CI fun GV=>Ac Z3<|Ac Yd<|Aa (Ev .u64 CJ 255) fun AF=>Ai (call 68 [.pbox [.sc (.int .u64 BD),.sc (.int .u64 BX),.sc (.int .u64 AF),.sc (.int .u64 GV)],.sc (.int .i64 4)]) fun CU FF=>Ac CU<|Ab FF fun DM AA=>Ab DM fun Y9 Xd=>Ae .u64 Y9 fun EH=>Ab Xd fun GU DN=>Ae .u64 GU fun FH=>Ab DN fun DJ FS=>Ae .u64 DJ fun GW=>Ab FS fun AL KL=>Ae .u64 AL fun MX=>Ac KL<|Ac AA<|Aa (Ev .u64 EH FH) fun DH=>Aa (Ev .u64 DH GW) fun LX=>Aa (Ev .u64 LX MX) fun QU=>some (A5.mk [.sc (.int .u64 QU)] []))):=by kernel_rfl
theorem YF {xs:FuncId->Option (List PV->Option A5)} (fu d:Nat)(a0 a1:Int)(Ko:Nat)(a2:List PV):Ad (CX xs) prog fu (d+1) FL [.sc (.int .u64 a0),.sc (.int .u64 a1),.lst false 1 Ko a2]=(fun (call:Ah)=>Aa (Ev .u64 a0 8317987319222330741) fun x1=>Aa (Ev .u64 a1 7237128888997146477) fun x2=>Aa (Ev .u64 a0 7816392313619706465) fun x3=>Aa (Ev .u64 a1 8387220255154660723) fun x4=>Aa (wrap .i64 (Int.tdiv (↑Ko:Int) 8)) fun x5=>Kk fu call a0 a1 Ko a2 (fu) (Ko) (a2) x5 x5 0 x1 x2 x3 x4) (Ad (CX xs) prog fu d):=by kernel_rfl
abbrev Tg:FuncId:=21
theorem SN {xs:FuncId->Option (List PV->Option A5)} (fu d:Nat)(a0:Int)(P4:Nat)(a1:List PV):Ad (CX xs) prog fu (d+1) Tg [.sc (.int .i64 a0),.lst false 1 P4 a1]=(fun (call:Ah)=>Aa (wrap .u64 a0) fun x1=>Ai (call 43 [.sc (.int .u64 x1),.sc (.int .u64 0),.lst false 1 P4 a1]) fun x2 x3=>Ac x3<|Ab x2 fun x4 x5=>Ae .u64 x4 fun x6=>Ac x5<|some (A5.mk [.sc (.int .u64 x6)] [])) (Ad (CX xs) prog fu d):=by kernel_rfl
abbrev DQ:FuncId:=69
theorem Aah {xs:FuncId->Option (List PV->Option A5)} (fu d:Nat)(a0 a1:Int)(Ko:Nat)(a2:List PV):Ad (CX xs) prog fu (d+1) DQ [.sc (.int .u64 a0),.sc (.int .i64 a1),.lst false 1 Ko a2]=(fun (call:Ah)=>Aa (wrap .u64 a1) fun x1=>Aa (wrap .u64 (1+x1)) fun x2=>Ai (call 43 [.sc (.int .u64 a0),.sc (.int .u64 x2),.lst false 1 Ko a2]) fun x3 x4=>Ac x4<|Ab x3 fun x5 x6=>Ae .u64 x5 fun x7=>Ac x6<|some (A5.mk [.sc (.int .u64 x7)] [])) (Ad (CX xs) prog fu d):=by kernel_rfl
abbrev Rg:FuncId:=99
theorem BU {xs:FuncId->Option (List PV->Option A5)} (fu d:Nat)(a0 a1:Int):Ad (CX xs) prog fu (d+1) Rg [.sc (.int .u64 a0),.sc (.int .u64 a1)]=(fun (call:Ah)=>Ar (decide (0<=a1))<|Aa (Jj .u64 a0 a1) fun x1=>Aa (wrap .u64 (64-a1)) fun x2=>Ar (decide (0<=x2))<|Aa (Ik .u64 a0 x2) fun x3=>Aa (UF .u64 x1 x3) fun x4=>some (A5.mk [.sc (.int .u64 x4)] [])) (Ad (CX xs) prog fu d):=by kernel_rfl
abbrev Ph:FuncId:=97
theorem Z5 {xs:FuncId->Option (List PV->Option A5)} (fu d:Nat)(Aj Ao:Int)(Bc Cv:Int):Ad (CX xs) prog fu (d+1) Ph [.agg [.sc (.int .u64 Aj),.sc (.int .u64 Ao),.sc (.int .u64 Bc),.sc (.int .u64 Cv)]]=(fun (call:Ah)=>Aa (wrap .u64 (Aj+Ao)) fun x1=>Ai (call 99 [.sc (.int .u64 Ao),.sc (.int .u64 13)]) fun x2 x3=>Ac x3<|Ab x2 fun x4 x5=>Ae .u64 x4 fun x6=>Ac x5<|Aa (Ev .u64 x6 x1) fun x7=>Ai (call 99 [.sc (.int .u64 x1),.sc (.int .u64 32)]) fun x8 x9=>Ac x9<|Ab x8 fun C6 Dr=>Ae .u64 C6 fun Eg=>Ac Dr<|Aa (wrap .u64 (Bc+Cv)) fun Ez=>Ai (call 99 [.sc (.int .u64 Cv),.sc (.int .u64 16)]) fun D7 Ew=>Ac Ew<|Ab D7 fun Fw Gm=>Ae .u64 Fw fun G4=>Ac Gm<|Aa (Ev .u64 G4 Ez) fun Gi=>Aa (wrap .u64 (Eg+Gi)) fun Gy=>Ai (call 99 [.sc (.int .u64 Gi),.sc (.int .u64 21)]) fun Jk Ia=>Ac Ia<|Ab Jk fun Je Fn=>Ae .u64 Je fun Eu=>Ac Fn<|Aa (Ev .u64 Eu Gy) fun Hv=>Aa (wrap .u64 (Ez+x7)) fun J8=>Ai (call 99 [.sc (.int .u64 x7),.sc (.int .u64 17)]) fun G3 O6=>Ac O6<|Ab G3 fun M7 Kw=>Ae .u64 M7 fun Mz=>Ac Kw<|Aa (Ev .u64 Mz J8) fun O8=>Ai (call 99 [.sc (.int .u64 J8),.sc (.int .u64 32)]) fun Pn O5=>Ac O5<|Ab Pn fun Ry Vb=>Ae .u64 Ry fun Ic=>Ac Vb<|some (A5.mk [.agg [.sc (.int .u64 Gy),.sc (.int .u64 O8),.sc (.int .u64 Ic),.sc (.int .u64 Hv)]] [])) (Ad (CX xs) prog fu d):=by kernel_rfl
abbrev Se:FuncId:=95
noncomputable def Gp (fu:Nat)(call:Ah)(a0 a1:Int)(Ko:Nat)(a2:List PV)(nn y0:Nat)(y1:List PV)(y2:Int)(y3:List PV):Option A5:=Du CB prog fu call 95 Tryd.f95 (Ca Tryd.f95) [.sc (.int .u64 a0),.sc (.int .u64 a1),.lst false 1 Ko a2] [.r,.r,.l,.r,.l] nn ⟨lk [(2,(.lst false 1 y0 y1)),(7,(.ptr 7 0)),(8,(.sc (.int .i64 y2)))],Br [(7,(.ar false y3))]⟩
noncomputable def Fs (fu:Nat)(call:Ah)(a0 a1:Int)(Ko:Nat)(a2:List PV)(m0 nn y0:Nat)(y1:List PV)(y2 y3 y4:Int)(y5:List PV):Option A5:=Du CB prog fu call 95 Tryd.f95 (Ca Tryd.f95) [.sc (.int .u64 a0),.sc (.int .u64 a1),.lst false 1 Ko a2] [.r,.r,.l,.r,.l,.i m0,.r,.l,.l,.r,.l,.r,.l] nn ⟨lk [(2,(.lst false 1 y0 y1)),(7,(.ptr 7 0)),(8,(.sc (.int .i64 y2))),(9,(.sc (.int .u64 y3))),(10,(.sc (.int .i64 y4)))],Br [(7,(.ar false y5))]⟩
theorem Oh (fu:Nat)(call:Ah)(a0 a1:Int)(Ko:Nat)(a2:List PV)(nn y0:Nat)(y1:List PV)(y2:Int)(y3:List PV):Gp fu call a0 a1 Ko a2 (nn+1) y0 y1 y2 y3=(Bi (decide (y2<=(↑y0:Int))) (Fs fu call a0 a1 Ko a2 nn (fu) (y0) (y1) (y2) 0 7 (y3)) (Ae .u64 (List.getD y3 2 .top) fun x5=>Aa (Ev .u64 x5 255) fun x6=>Ar (decide (3<=y3.length))<|Aa (Bn y3 [.sc (.int .u64 x6)] 2) fun x7=>Ae .u64 (List.getD x7 0 .top) fun x8=>Ae .u64 (List.getD x7 1 .top) fun x9=>Ae .u64 (List.getD x7 2 .top) fun C6=>Ae .u64 (List.getD x7 3 .top) fun Dr=>Ai (call 97 [.agg [.sc (.int .u64 x8),.sc (.int .u64 x9),.sc (.int .u64 C6),.sc (.int .u64 Dr)]]) fun Eg Ez=>Ac Ez<|Ab Eg fun D7 Ew=>Fm D7 fun Fw=>Ab Fw fun Gm G4=>Ae .u64 Gm fun Gi=>Ab G4 fun Gy Jk=>Ae .u64 Gy fun Ia=>Ab Jk fun Je Fn=>Ae .u64 Je fun Eu=>Ab Fn fun Hv J8=>Ae .u64 Hv fun G3=>Ac J8<|Ac Ew<|Ai (call 97 [.agg [.sc (.int .u64 Gi),.sc (.int .u64 Ia),.sc (.int .u64 Eu),.sc (.int .u64 G3)]]) fun O6 M7=>Ac M7<|Ab O6 fun Kw Mz=>Fm Kw fun O8=>Ab O8 fun Pn O5=>Ae .u64 Pn fun Ry=>Ab O5 fun Vb Ic=>Ae .u64 Vb fun Ln=>Ab Ic fun S4 Xb=>Ae .u64 S4 fun R9=>Ab Xb fun Ye Za=>Ae .u64 Ye fun X6=>Ac Za<|Ac Mz<|Ai (call 97 [.agg [.sc (.int .u64 Ry),.sc (.int .u64 Ln),.sc (.int .u64 R9),.sc (.int .u64 X6)]]) fun Xc Yd=>Ac Yd<|Ab Xc fun Yq Yu=>Fm Yq fun BD=>Ab BD fun Zz Zg=>Ae .u64 Zz fun BX=>Ab Zg fun EJ DK=>Ae .u64 EJ fun CJ=>Ab DK fun CI Z3=>Ae .u64 CI fun GV=>Ab Z3 fun AF CU=>Ae .u64 AF fun FF=>Ac CU<|Ac Yu<|Ai (call 97 [.agg [.sc (.int .u64 BX),.sc (.int .u64 CJ),.sc (.int .u64 GV),.sc (.int .u64 FF)]]) fun DM AA=>Ac AA<|Ab DM fun Y9 Xd=>Fm Y9 fun EH=>Ab EH fun GU DN=>Ae .u64 GU fun FH=>Ab DN fun DJ FS=>Ae .u64 DJ fun GW=>Ab FS fun AL KL=>Ae .u64 AL fun MX=>Ab KL fun DH LX=>Ae .u64 DH fun QU=>Ac LX<|Ac Xd<|Ar (decide (4<=x7.length))<|Aa (Bn x7 [.sc (.int .u64 FH),.sc (.int .u64 GW),.sc (.int .u64 MX),.sc (.int .u64 QU)] 0) fun RT=>Ae .u64 (List.getD RT 0 .top) fun OM=>Ae .u64 (List.getD RT 1 .top) fun TH=>Aa (Ev .u64 OM TH) fun x83=>Ae .u64 (List.getD RT 2 .top) fun VU=>Aa (Ev .u64 x83 VU) fun x85=>Ae .u64 (List.getD RT 3 .top) fun YL=>Aa (Ev .u64 x85 YL) fun x87=>some (A5.mk [.sc (.int .u64 x87)] []))):=by kernel_rfl
theorem Ob (fu:Nat)(call:Ah)(a0 a1:Int)(Ko:Nat)(a2:List PV)(m0 nn y0:Nat)(y1:List PV)(y2 y3 y4:Int)(y5:List PV):Fs fu call a0 a1 Ko a2 m0 (nn+1) y0 y1 y2 y3 y4 y5=(Bi (decide (y4>=0)) (Aa (wrap .i64 (y2+y4)) fun YA=>Bi (decide (YA<(↑y0:Int))) (Aa (wrap .i64 (y2+y4)) fun NB=>Ar (decide (0<=NB)&&decide (NB<(↑y0:Int)))<|Ae .u8 (List.getD y1 (Int.toNat NB*1) .top) fun RV=>Aa (Jj .u64 y3 8) fun UR=>Aa (wrap .u64 RV) fun x92=>Aa (UF .u64 UR x92) fun x93=>Aa (wrap .i64 (y4-1)) fun x94=>Fs fu call a0 a1 Ko a2 m0 (nn) (y0) (y1) (y2) x93 x94 (y5)) (Bi (y4==7) (Aa (wrap .u8 (↑y0:Int)) fun x95=>Aa (Jj .u64 y3 8) fun x96=>Aa (wrap .u64 x95) fun WG=>Aa (UF .u64 x96 WG) fun SB=>Aa (wrap .i64 (y4-1)) fun x99=>Fs fu call a0 a1 Ko a2 m0 (nn) (y0) (y1) (y2) SB x99 (y5)) (Aa (Jj .u64 y3 8) fun T0=>Aa (UF .u64 T0 0) fun ES=>Aa (wrap .i64 (y4-1)) fun Jq=>Fs fu call a0 a1 Ko a2 m0 (nn) (y0) (y1) (y2) ES Jq (y5)))) (Ae .u64 (List.getD y5 3 .top) fun M0=>Aa (Ev .u64 M0 y3) fun Z4=>Ar (decide (4<=y5.length))<|Aa (Bn y5 [.sc (.int .u64 Z4)] 3) fun We=>Ae .u64 (List.getD We 0 .top) fun Ww=>Ae .u64 (List.getD We 1 .top) fun Qd=>Ae .u64 (List.getD We 2 .top) fun HM=>Ae .u64 (List.getD We 3 .top) fun MD=>Ai (call 97 [.agg [.sc (.int .u64 Ww),.sc (.int .u64 Qd),.sc (.int .u64 HM),.sc (.int .u64 MD)]]) fun PW QN=>Ac QN<|Ab PW fun Ma Q2=>Fm Ma fun SP=>Ab SP fun SF MJ=>Ae .u64 SF fun TZ=>Ab MJ fun SZ QW=>Ae .u64 SZ fun TO=>Ab QW fun LU EB=>Ae .u64 LU fun SG=>Ab EB fun QE CO=>Ae .u64 QE fun DF=>Ac CO<|Ac Q2<|Ai (call 97 [.agg [.sc (.int .u64 TZ),.sc (.int .u64 TO),.sc (.int .u64 SG),.sc (.int .u64 DF)]]) fun IV HA=>Ac HA<|Ab IV fun QT MK=>Fm QT fun Ae1=>Ab Ae1 fun HF MI=>Ae .u64 HF fun YX=>Ab MI fun XZ MO=>Ae .u64 XZ fun Abw=>Ab MO fun Ac7 Ab5=>Ae .u64 Ac7 fun MT=>Ab Ab5 fun ME ZV=>Ae .u64 ME fun YG=>Ac ZV<|Ac MK<|Ar (decide (4<=We.length))<|Aa (Bn We [.sc (.int .u64 YX),.sc (.int .u64 Abw),.sc (.int .u64 MT),.sc (.int .u64 YG)] 0) fun TT=>Ae .u64 (List.getD TT 0 .top) fun HN=>Aa (Ev .u64 HN y3) fun MP=>Ar (decide (1<=TT.length))<|Aa (Bn TT [.sc (.int .u64 MP)] 0) fun YD=>Aa (wrap .i64 (y2+8)) fun ZU=>Gp fu call a0 a1 Ko a2 (m0) (y0) (y1) ZU YD)):=by kernel_rfl
theorem ER {xs:FuncId->Option (List PV->Option A5)} (fu d:Nat)(a0 a1:Int)(Ko:Nat)(a2:List PV):Ad (CX xs) prog fu (d+1) Se [.sc (.int .u64 a0),.sc (.int .u64 a1),.lst false 1 Ko a2]=(fun (call:Ah)=>Aa (Ev .u64 a0 8317987319222330741) fun x1=>Aa (Ev .u64 a1 7237128888997146477) fun x2=>Aa (Ev .u64 a0 7816392313619706465) fun x3=>Aa (Ev .u64 a1 8387220255154660723) fun x4=>Gp fu call a0 a1 Ko a2 (fu) (Ko) (a2) 0 ([.sc (.int .u64 x1),.sc (.int .u64 x2),.sc (.int .u64 x3),.sc (.int .u64 x4)])) (Ad (CX xs) prog fu d):=by kernel_rfl
abbrev Le:FuncId:=85
theorem AV {xs:FuncId->Option (List PV->Option A5)} (fu d:Nat)(a0:Int)(P4:Nat)(a1:List PV):Ad (CX xs) prog fu (d+1) Le [.sc (.int .i64 a0),.lst false 1 P4 a1]=(fun (call:Ah)=>Aa (wrap .u64 a0) fun x1=>Ai (call 95 [.sc (.int .u64 x1),.sc (.int .u64 0),.lst false 1 P4 a1]) fun x2 x3=>Ac x3<|Ab x2 fun x4 x5=>Ae .u64 x4 fun x6=>Ac x5<|some (A5.mk [.sc (.int .u64 x6)] [])) (Ad (CX xs) prog fu d):=by kernel_rfl
abbrev S7:FuncId:=94
theorem GK {xs:FuncId->Option (List PV->Option A5)} (fu d:Nat)(a0 a1:Int)(Ko:Nat)(a2:List PV):Ad (CX xs) prog fu (d+1) S7 [.sc (.int .u64 a0),.sc (.int .i64 a1),.lst false 1 Ko a2]=(fun (call:Ah)=>Aa (wrap .u64 a1) fun x1=>Aa (wrap .u64 (1+x1)) fun x2=>Ai (call 95 [.sc (.int .u64 a0),.sc (.int .u64 x2),.lst false 1 Ko a2]) fun x3 x4=>Ac x4<|Ab x3 fun x5 x6=>Ae .u64 x5 fun x7=>Ac x6<|some (A5.mk [.sc (.int .u64 x7)] [])) (Ad (CX xs) prog fu d):=by kernel_rfl
abbrev Fb:FuncId:=86
noncomputable def F1 (fu:Nat)(call:Ah)(Bd:Nat)(a0:List PV)(nn y0:Nat)(y1:List PV)(y2:Nat)(y3:Int)(y4:List PV):Option A5:=Du CB prog fu call 86 Tryd.f86 (Ca Tryd.f86) [.lst false 1 Bd a0] [.r,.r,.l,.r,.l] nn ⟨lk [(0,(.lst false 1 y0 y1)),(3,(.view 3 1 0 y2)),(4,(.sc (.int .i64 y3)))],Br [(3,(.ar false y4))]⟩
noncomputable def Hb (fu:Nat)(call:Ah)(Bd:Nat)(a0:List PV)(m0 nn y0:Nat)(y1:List PV)(y2:Nat)(y3 y4:Int)(y5:List PV):Option A5:=Du CB prog fu call 86 Tryd.f86 (Ca Tryd.f86) [.lst false 1 Bd a0] [.r,.r,.l,.r,.l,.i m0,.r,.l,.l,.r,.l] nn ⟨lk [(0,(.lst false 1 y0 y1)),(3,(.view 3 1 0 y2)),(4,(.sc (.int .i64 y3))),(5,(.sc (.int .i64 y4)))],Br [(3,(.ar false y5))]⟩
theorem Mf (fu:Nat)(call:Ah)(Bd:Nat)(a0:List PV)(nn y0:Nat)(y1:List PV)(y2:Nat)(y3:Int)(y4:List PV):F1 fu call Bd a0 (nn+1) y0 y1 y2 y3 y4=(Bi (decide (y3<(↑y0:Int))) (Hb fu call Bd a0 nn (fu) (y0) (y1) (y2) (y3) 7 (y4)) (Ar (decide (y2*1<=y4.length))<|some (A5.mk [.own 1 y2 (List.take (y2*1) y4)] []))):=by kernel_rfl
theorem Mp (fu:Nat)(call:Ah)(Bd:Nat)(a0:List PV)(m0 nn y0:Nat)(y1:List PV)(y2:Nat)(y3 y4:Int)(y5:List PV):Hb fu call Bd a0 m0 (nn+1) y0 y1 y2 y3 y4 y5=(Bi (decide (y4>=0)) (Ar (decide (0<=y3)&&decide (y3<(↑y0:Int)))<|Ae .u64 (List.getD y1 (Int.toNat y3*1) .top) fun x1=>Aa (wrap .i64 (8*y4)) fun x2=>Aa (wrap .u64 x2) fun x3=>Ar (decide (0<=x3))<|Aa (Ik .u64 x1 x3) fun x4=>Aa (wrap .u8 x4) fun x5=>Ar (decide (y2*1<=y5.length)&&true&&decide ((y2+1)*1<=1099511627776)&&decide (y2+1<=1099511627776))<|Aa (y2+1) fun x6=>Aa (List.take (y2*1) y5++[.sc (.int .u8 x5)]) fun x7=>Aa (wrap .i64 (y4-1)) fun x8=>Hb fu call Bd a0 m0 (nn) (y0) (y1) x6 (y3) x8 x7) (Aa (wrap .i64 (y3+1)) fun x9=>F1 fu call Bd a0 (m0) (y0) (y1) (y2) x9 (y5))):=by kernel_rfl
theorem Zr {xs:FuncId->Option (List PV->Option A5)} (fu d Bd:Nat)(a0:List PV):Ad (CX xs) prog fu (d+1) Fb [.lst false 1 Bd a0]=(fun (call:Ah)=>F1 fu call Bd a0 (fu) (Bd) (a0) 0 0 ([])) (Ad (CX xs) prog fu d):=by kernel_rfl
end
section
open Go.IntKind (wrap)
def rot (x k:Int):Int:=UF .u64 (Jj .u64 x k) (Ik .u64 x (64-k))
structure W4 where
 a:Int
 b:Int
 c:Int
 d:Int
def W4.cells (v:W4):List PV:=[.sc (.int .u64 v.a),.sc (.int .u64 v.b),.sc (.int .u64 v.c),.sc (.int .u64 v.d)]
def A8k (v:W4):W4:=⟨rot (wrap .u64 (v.a+v.b)) 32,Ev .u64 (rot v.b 13) (wrap .u64 (v.a+v.b)),wrap .u64 (v.c+v.d),Ev .u64 (rot v.d 16) (wrap .u64 (v.c+v.d))⟩
def A8l (v:W4):W4:=⟨wrap .u64 (v.a+v.d),Ev .u64 (rot v.b 17) (wrap .u64 (v.c+v.b)),rot (wrap .u64 (v.c+v.b)) 32,Ev .u64 (rot v.d 21) (wrap .u64 (v.a+v.d))⟩
def SD (v:W4):W4:=A8l (A8k v)
def Aff:Nat->W4->W4
 |0,v=>v
 |n+1,v=>Aff n (SD v)
def A4f (r:W4)(m:Int):W4:=⟨Ev .u64 r.a m,r.b,r.c,r.d⟩
def Uw (v:W4)(m:Int):W4:=A4f (Aff 2 ⟨v.a,v.b,v.c,Ev .u64 v.d m⟩) m
def Uy:List Int->Int
 |[]=>0
 |b::r=>b+256*Uy r
def TK:Nat->W4->List Int->W4
 |0,v,_=>v
 |n+1,v,l=>TK n (Uw v (Uy (l.take 8))) (l.drop 8)
def Axy (k0 k1:Int):W4:=⟨Ev .u64 k0 8317987319222330741,Ev .u64 k1 7237128888997146477,Ev .u64 k0 7816392313619706465,Ev .u64 k1 8387220255154660723⟩
def Ajf (v:W4):W4:=Aff 4 ⟨v.a,v.b,Ev .u64 v.c 255,v.d⟩
def Ajv (v:W4):Int:=Ev .u64 (Ev .u64 (Ev .u64 v.a v.b) v.c) v.d
def Pj (l:List Int):Int:=Uy (l.drop (8*(l.length / 8)))+72057594037927936*((l.length:Int) % 256)
def Auz (k0 k1:Int)(l:List Int):Int:=Ajv (Ajf (Uw (TK (l.length / 8) (Axy k0 k1) l) (Pj l)))
def Q0 (dom:Int)(l:List Int):Int:=Auz (wrap .u64 dom) 0 l
def Au7 (key dom:Int)(l:List Int):Int:=Auz key (wrap .u64 (1+wrap .u64 dom)) l
def Kg (l:List Int):Prop:=∀b∈l,0<=b∧b<=255
theorem Vt:∀{l:List Int},Kg l->0<=Uy l∧Uy l<256 ^ l.length
 |[],_=>by simp[Uy]
 |b::r,h=>by
  have h1:=h b (by simp)
  have h2:=Vt (l:=r) fun x hx=>h x (by simp[hx])
  have h3:(256:Int) ^ (b::r).length=256 ^ r.length*256:=by rw[Io,Int.pow_succ]
  simp only[Uy];omega
theorem CG:∀(l r:List Int),Uy (l++r)=Uy l+256 ^ l.length*Uy r
 |[],r=>by simp[Uy]
 |b::l,r=>by
  have ih:=CG l r;simp only[Zzp,Uy,Io,Int.pow_succ];rw[ih,Int.mul_add];have:(256:Int)*(256 ^ l.length*Uy r)=256 ^ l.length*256*Uy r:=by rw[←Int.mul_assoc,Int.mul_comm 256]
  omega
theorem ZE {a c:Int}(k b:Nat)(h0:0<=a)(h1:a<((2 ^ k:Nat):Int)) (hc:c=((b*2 ^ k:Nat):Int)) (h:a+c<=18446744073709551615):UF .u64 a c=a+c∧UF .u64 c a=a+c:=by
 obtain⟨n,rfl⟩:=Int.eq_ofNat_of_zero_le h0;subst hc;have hn:n<2 ^ k:=by omega
 generalize hB:b*2 ^ k=m at h
 have e4:(BitVec.ofInt 64 (n:Int)).toNat=n:=by
  rw[BitVec.toNat_ofInt];omega
 have e5:(BitVec.ofInt 64 (m:Int)).toNat=m:=by
  rw[BitVec.toNat_ofInt];omega
 have e6:m ||| n=m+n:=by
  have:=Nat.shiftLeft_add_eq_or_of_lt hn b;rw[Nat.shiftLeft_eq,hB] at this;exact this.symm
 constructor
 ·show wrap .u64 ((BitVec.ofInt 64 (n:Int) ||| BitVec.ofInt 64 (m:Int)).toNat:Int)=_;rw[BitVec.toNat_or,e4,e5,Nat.or_comm,e6,Ea (by omega) (by omega)]
  omega
 ·show wrap .u64 ((BitVec.ofInt 64 (m:Int) ||| BitVec.ofInt 64 (n:Int)).toNat:Int)=_;rw[BitVec.toNat_or,e4,e5,e6,Ea (by omega) (by omega)]
  omega
theorem Ah6 {a k:Int}(h0:0<=a)(hk:0<=k)(Iu:k<=64)(h:a*((2 ^ k.toNat:Nat):Int)<=18446744073709551615):Jj .u64 a k=a*((2 ^ k.toNat:Nat):Int):=by
 show wrap .u64 (a*2 ^ (min k.toNat IntKind.u64.bits))=_;have e:min k.toNat IntKind.u64.bits=k.toNat:=Nat.min_eq_left (by show k.toNat<=64;omega)
 have e2:(2:Int) ^ k.toNat=((2 ^ k.toNat:Nat):Int):=by simp
 rw[e,e2,Ea (Int.mul_nonneg h0 (Int.natCast_nonneg _)) h]
end
end Go.Proofs.YtpogefhpiaaliaaDoor.Pv
