/-
  The proof of MetadataBack, part 3.
-/
import Derived.Test.YtpogefhpiaaliaaGreatDoorKB
import Derived.StillTail
import Derived.WalkKit
import Derived.ProofKit
import Derived.OpenShut
import Derived.ShutString
import Derived.ChangeOld
import Derived.Below
import Derived.Deep.Slices
import Derived.ChangeSame
import Derived.WideKeyArgs
import Derived.Carry
import Derived.Test.YtpogefhpiaaliaaGreatDoorRows
set_option linter.unusedSimpArgs false
set_option linter.unusedVariables false
namespace Go.Proofs.YtpogefhpiaaliaaGreatDoor.Pv
section
section
variable {R R':Type} {Rel:Option R->Option R'->Prop}
theorem Lm (hn:Rel none none){k:IntKind}{p:PV}{K:Int->Option R}{K':Int->Option R'}(hK:∀n,Rel (K n) (K' n)):Rel (Ae k p K) (Ae k p K'):=by
 unfold Ae;split
 ·split<;>first|exact hK _|exact hn
 ·exact hn
theorem Fj (hn:Rel none none){p:PV}{K:IntKind->Int->Option R}{K':IntKind->Int->Option R'}(hK:∀k n,Rel (K k n) (K' k n)):Rel (Ei p K) (Ei p K'):=by
 unfold Ei;split<;>first|exact hK _ _|exact hn
theorem Jb (hn:Rel none none){p:PV}{K:Bool->Option R}{K':Bool->Option R'}(hK:∀n,Rel (K n) (K' n)):Rel (Bv p K) (Bv p K'):=by
 unfold Bv;split<;>first|exact hK _|exact hn
theorem H9 (hn:Rel none none){p:PV}{K:ByteArray->Option R}{K':ByteArray->Option R'}(hK:∀n,Rel (K n) (K' n)):Rel (Iv p K) (Iv p K'):=by
 unfold Iv;split<;>first|exact hK _|exact hn
theorem Hn (hn:Rel none none){es:Nat}{p:PV}{K:Bool->Nat->List PV->Option R}{K':Bool->Nat->List PV->Option R'}(hK:∀z n c,Rel (K z n c) (K' z n c)):Rel (Em es p K) (Em es p K'):=by
 unfold Em;split
 ·rename_i es' _ _;cases Nat.beq es' es
  ·exact hn
  ·exact hK _ _ _
 ·exact hK _ _ _
 ·exact hn
theorem Au7 (hn:Rel none none){es:Nat}{p:PV}{K:PV->Option R}{K':PV->Option R'}(hK:∀p,Rel (K p) (K' p)):Rel (fsK es p K) (fsK es p K'):=by
 unfold fsK;split
 ·rename_i es' _ _;cases Nat.beq es' es
  ·exact hn
  ·exact hK _
 ·exact Hn hn fun _ _ _=>hK _
theorem Ajw (hn:Rel none none){es:Nat}{p:PV}{K:Nat->List PV->Option R}{K':Nat->List PV->Option R'}(hK:∀n c,Rel (K n c) (K' n c)):Rel (Gw es p K) (Gw es p K'):=by
 unfold Gw;split
 ·rename_i es' _ _;cases Nat.beq es' es
  ·exact hn
  ·exact hK _ _
 ·exact hn
theorem A9 (hn:Rel none none){b:Bool}{K:Option R}{K':Option R'}(hK:b=true->Rel K K'):Rel (Ar b K) (Ar b K'):=by
 cases b
 ·exact hn
 ·exact hK rfl
theorem OS {b:Bool}{x y:Option R}{x' y':Option R'}(hx:Rel x x')(hy:Rel y y'):Rel (Bk b x y) (Bk b x' y'):=by
 cases b
 ·exact hy
 ·exact hx
theorem Ee (hn:Rel none none){α:Type}{o:Option α}{K:α->Option R}{K':α->Option R'}(hK:∀a,o=some a->Rel (K a) (K' a)):Rel (F7 o K) (F7 o K'):=by
 cases o
 ·exact hn
 ·exact hK _ rfl
theorem Bz (hn:Rel none none){α:Type}{l:List α}{K:α->List α->Option R}{K':α->List α->Option R'}(hK:∀a r,l=a::r->Rel (K a r) (K' a r)):Rel (Ab l K) (Ab l K'):=by
 cases l
 ·exact hn
 ·exact hK _ _ rfl
theorem G5 (hn:Rel none none){α:Type}{l:List α}{K:Option R}{K':Option R'}(hK:Rel K K'):Rel (Ac l K) (Ac l K'):=by
 cases l
 ·exact hK
 ·exact hn
theorem M0 (hn:Rel none none){p:PV}{K:List PV->Option R}{K':List PV->Option R'}(hK:∀c,p=.agg c->Rel (K c) (K' c)):Rel (Ft p K) (Ft p K'):=by
 unfold Ft;split
 ·exact hK _ rfl
 ·exact hn
theorem Anc (hn:Rel none none){p:PV}{K:List PV->Option R}{K':List PV->Option R'}(hK:∀c,Rel (K c) (K' c)):Rel (BX p K) (BX p K'):=by
 unfold BX;split
 ·exact hK _
 ·exact hn
theorem YK (hn:Rel none none){r:Option A5}{K:List PV->List (List PV)->Option R} {K':List PV->List (List PV)->Option R'} (hK:∀v o,Rel (K v o) (K' v o)):Rel (Aj r K) (Aj r K'):=by
 unfold Aj;split
 ·exact hK _ _
 ·exact hn
theorem Akf (hn:Rel none none){p:PV}{K:Value->Option R}{K':Value->Option R'}(hK:∀v,Rel (K v) (K' v)):Rel (fnK p K) (fnK p K'):=by
 unfold fnK;split
 ·exact hK _
 ·exact hn
theorem Av6 (hn:Rel none none){p:PV}{K:FuncId->Option R}{K':FuncId->Option R'}(hK:∀v,Rel (K v) (K' v)):Rel (fvK p K) (fvK p K'):=by
 unfold fvK;split
 ·rename_i f a b;cases (a.isEmpty&&b.isEmpty)
  ·exact hn
  ·exact hK _
 ·exact hn
theorem T0 (hn:Rel none none){t:CT}{p:PV}{K:PV->Option R}{K':PV->Option R'}(hK:∀p,Rel (K p) (K' p)):Rel (JL t p K) (JL t p K'):=by
 unfold JL;split
 ·exact Lm hn fun _=>hK _
 ·exact Jb hn fun _=>hK _
 ·exact H9 hn fun _=>hK _
 ·exact Hn hn fun _ _ _=>hK _
 ·exact Akf hn fun _=>hK _
theorem Au1 (hn:Rel none none){t:CT}{p:PV}{K:PV->Option R}{K':PV->Option R'}(hK:∀p,Rel (K p) (K' p)):Rel (fcK t p K) (fcK t p K'):=by
 unfold fcK;split
 ·exact Au7 hn hK
 ·exact T0 hn hK
theorem Vb (hn:Rel none none):∀{ts:List CT}{cells:List PV}{off:Nat}{K:List PV->Option R}{K':List PV->Option R'},(∀c,Rel (K c) (K' c))->Rel (Y8 ts cells off K) (Y8 ts cells off K')
 |[],_,_,_,_,hK=>hK _
 |_::_,_,_,_,_,hK=>T0 hn fun _=>Vb hn fun _=>hK _
theorem Rj (hn:Rel none none):∀{ts:List CT}{cells:List PV}{off:Nat}{K:List PV->Option R}{K':List PV->Option R'},(∀c,Rel (K c) (K' c))->Rel (Ue ts cells off K) (Ue ts cells off K')
 |[],_,_,_,_,hK=>hK _
 |_::_,_,_,_,_,hK=>Au1 hn fun _=>Rj hn fun _=>hK _
theorem GV (hn:Rel none none){g:Bool}{cells:List PV}{K:PV->Option R}{K':PV->Option R'}(hK:∀p,Rel (K p) (K' p)):Rel (mkV g cells K) (mkV g cells K'):=by
 cases g
 ·exact Bz hn fun _ _ _=>G5 hn (hK _)
 ·exact hK _
theorem Aud (hn:Rel none none){P:Program}{t:TypeId}{v:Value}{K:PV->Option R}{K':PV->Option R'}(hK:∀p,B8 p=[]->Rel (K p) (K' p)) (hK':∀c,Rel (K (.agg c)) (K' (.agg c))):Rel (cvK P t v K) (cvK P t v K'):=by
 unfold cvK;split
 ·exact A9 hn fun _=>Vb hn fun _=>hK' _
 ·split
  ·exact hK _ rfl
  ·exact hn
 ·exact hK _ rfl
theorem Aqh (hn:Rel none none){op:BinOp}{x y:Int}{K:Bool->Option R}{K':Bool->Option R'}(hK:∀n,Rel (K n) (K' n)):Rel (Av9 op x y K) (Av9 op x y K'):=by
 unfold Av9;split<;>first|exact hK _|exact hn
theorem Ail (hn:Rel none none){op:BinOp}{k:IntKind}{x y:Int}{K:PV->Option R}{K':PV->Option R'}(hK:∀n,Rel (K n) (K' n)):Rel (QL op k x y K) (QL op k x y K'):=by
 unfold QL;split<;>first|exact hK _|exact A9 hn fun _=>hK _|exact Aqh hn fun _=>hK _
theorem Af1 (hn:Rel none none){op:BinOp}{x y:ByteArray}{K:PV->Option R}{K':PV->Option R'}(hK:∀n,Rel (K n) (K' n)):Rel (QA op x y K) (QA op x y K'):=by
 unfold QA;split<;>first|exact hK _|exact A9 hn fun _=>hK _|exact hn
theorem WL (hn:Rel none none){e:Bool}{p:PV}{K:PV->Option R}{K':PV->Option R'}(hK:∀n,Rel (K n) (K' n)):Rel (SS e p K) (SS e p K'):=by
 unfold SS;split<;>first|exact hK _|exact OS (hK _) (OS (hK _) (hK _))|exact OS (hK _) (hK _)|exact hn
theorem Aeg (hn:Rel none none):∀{ts:List CT}{ps qs:List PV}{K:Bool->Option R}{K':Bool->Option R'},(∀b,Rel (K b) (K' b))->Rel (Pk ts ps qs K) (Pk ts ps qs K'):=by
 intro ts
 induction ts with
 |nil=>
  intro ps qs K K' hK;cases ps<;>cases qs<;>first|exact hK _|exact hn
 |cons t ts ih=>
  intro ps qs K K' hK;cases ps with
  |nil=>cases t<;>cases qs<;>exact hn
  |cons p ps=>
   cases qs with
   |nil=>cases t<;>exact hn
   |cons q qs=>
    cases t
    ·exact Lm hn fun _=>Lm hn fun _=>ih fun _=>hK _
    ·exact Jb hn fun _=>Jb hn fun _=>ih fun _=>hK _
    ·exact H9 hn fun _=>H9 hn fun _=>ih fun _=>hK _
    ·exact hn
    ·exact hn
theorem Aqq (hn:Rel none none){P:Program}{op:BinOp}{t:TypeId}{x y:PV}{K:PV->Option R}{K':PV->Option R'}(hK:∀p,Rel (K p) (K' p)):Rel (Aro P op t x y K) (Aro P op t x y K'):=by
 unfold Aro;split
 ·split
  ·exact Lm hn fun _=>Fj hn fun _ _=>A9 hn fun _=>hK _
  ·exact Lm hn fun _=>Fj hn fun _ _=>A9 hn fun _=>hK _
  ·exact Lm hn fun _=>Lm hn fun _=>Ail hn hK
 ·exact H9 hn fun _=>H9 hn fun _=>Af1 hn hK
 ·split
  ·exact Jb hn fun _=>Jb hn fun _=>hK _
  ·exact Jb hn fun _=>Jb hn fun _=>hK _
  ·exact hn
 ·split
  ·exact WL hn fun _=>hK _
  ·exact WL hn fun _=>hK _
  ·exact hn
 ·exact hn
theorem Acg (hn:Rel none none){P:Program}{op:BinOp}{t:TypeId}{x y:PV}{K:PV->Option R}{K':PV->Option R'}(hK:∀p,Rel (K p) (K' p)):Rel (AD P op t x y K) (AD P op t x y K'):=by
 unfold AD;split
 ·split
  ·exact A9 hn fun _=>M0 hn fun _ _=>M0 hn fun _ _=>Aeg hn fun _=>hK _
  ·exact A9 hn fun _=>M0 hn fun _ _=>M0 hn fun _ _=>Aeg hn fun _=>hK _
  ·exact hn
 ·exact Aqq hn hK
theorem Av5 (hn:Rel none none){op:UnOp}{x:PV}{K:PV->Option R}{K':PV->Option R'}(hK:∀p,Rel (K p) (K' p)):Rel (unK op x K) (unK op x K'):=by
 unfold unK;split<;>first|exact Jb hn fun _=>hK _|exact Fj hn fun _ _=>hK _|exact hn
theorem Fd (hn:Rel none none){p:Option PV}{d:Nat}{K:Nat->Option R}{K':Nat->Option R'}(hK:∀n,Rel (K n) (K' n)):Rel (Jf p d K) (Jf p d K'):=by
 unfold Jf;split
 ·exact hK _
 ·exact Fj hn fun _ _=>A9 hn fun _=>hK _
theorem JU (hn:Rel none none){x:PV}{d:Nat}{K:PV->Option R}{K':PV->Option R'}(hK:∀n,Rel (K n) (K' n)):Rel (Yz x d K) (Yz x d K'):=by
 unfold Yz;split<;>first|exact hK _|exact hn
theorem RM (hn:Rel none none){P:Program}{t:TypeId}{x:PV}{i:Int}{K:PV->Option R}{K':PV->Option R'}(hK:∀p,Rel (K p) (K' p)):Rel (Ov P t x i K) (Ov P t x i K'):=by
 unfold Ov;split
 ·exact A9 hn fun _=>A9 hn fun _=>JU hn hK
 ·refine A9 hn fun _=>?_
  split
  ·exact A9 hn fun _=>A9 hn fun _=>hK _
  ·exact Hn hn fun _ _ _=>A9 hn fun _=>hK _
 ·exact hn
theorem IY (hn:Rel none none){Jt:Nat->Option (Nat × Nat)}:∀{ps:List (Nat × PV)} {cells:List PV}{K:List PV->Option R}{K':List PV->Option R'},(∀c,Rel (K c) (K' c))->Rel (Yl Jt ps cells K) (Yl Jt ps cells K')
 |[],_,_,_,hK=>hK _
 |(_,_)::_,_,_,_,hK=>Ee hn fun _ _=>A9 hn fun _=>IY hn hK
theorem Yh (hn:Rel none none){P:Program}{t:TypeId}{K:List PV->Option R}{K':List PV->Option R'}(hK:∀p,Rel (K p) (K' p)):Rel (Jz P t K) (Jz P t K'):=
 Ee hn fun _ _=>A9 hn fun _=>Vb hn hK
theorem Asl (hn:Rel none none){x y:PV}{K:PV->Option R}{K':PV->Option R'}(hK:∀p,Rel (K p) (K' p)):Rel (Avx x y K) (Avx x y K'):=
 Fj hn fun _ _=>Lm hn fun _=>hK _
theorem Ast (hn:Rel none none){x y:PV}{K:PV->Option R}{K':PV->Option R'}(hK:∀p,Rel (K p) (K' p)):Rel (Aun x y K) (Aun x y K'):=
 Fj hn fun _ _=>Lm hn fun _=>hK _
theorem Asy (hn:Rel none none){P:Program}{t:TypeId}{x:PV}{K:Nat->Option R}{K':Nat->Option R'}(hK:∀p,Rel (K p) (K' p)):Rel (Amf P t x K) (Amf P t x K'):=by
 unfold Amf;split
 ·exact H9 hn fun _=>hK _
 ·exact hK _
 ·split
  ·exact A9 hn fun _=>hK _
  ·exact Hn hn fun _ _ _=>hK _
 ·exact hn
def Agr (Rel:Option R->Option R'->Prop)(f f':Nat->Option (List PV)) (l:List Nat):Prop:=∀i∈l,f i=f' i∨(f i=none∧∀b,Rel none b)
variable {f f':Nat->Option (List PV)}
theorem Agr.sub {l l':List Nat}(h:Agr Rel f f' l)(hs:∀i∈l',i∈l):Agr Rel f f' l':=fun i hi=>h i (hs i hi)
theorem GZ (hn:Rel none none){l:List Nat}{id:Nat}(hf:Agr Rel f f' l)(hi:id∈l){K:List PV->Option R}{K':List PV->Option R'}(hK:∀c,f id=some c->Rel (K c) (K' c)):Rel (F7 (f id) K) (F7 (f' id) K'):=by
 rcases hf id hi with h|⟨h,hb⟩
 ·rw[←h];exact Ee hn hK
 ·rw[h];exact hb _
theorem HL (hn:Rel none none){es:Nat}{p:PV}{K:Nat->List PV->Option R}{K':Nat->List PV->Option R'}(hf:Agr Rel f f' (Az p)) (hK:∀n c,Rel (K n c) (K' n c)):Rel (Ahj f es p K) (Ahj f' es p K'):=by
 unfold Ahj;split
 ·rename_i id es' off n;cases Nat.beq es' es
  ·exact hn
  ·exact GZ hn hf (by simp[Az]) fun _ _=>A9 hn fun _=>hK _ _
 ·exact Hn hn fun _ _ _=>hK _ _
theorem Aqy (hn:Rel none none){t:CT}{p:PV}{K:PV->List Nat->Option R}{K':PV->List Nat->Option R'}(hf:Agr Rel f f' (Az p)) (hK:∀c m,(∀i∈m,f i≠none)->Rel (K c m) (K' c m)):Rel (Sy f t p K) (Sy f' t p K'):=by
 unfold Sy;split
 ·split
  ·rename_i id es' off n;cases Nat.beq es' _
   ·exact hn
   ·exact GZ hn hf (by simp[Az]) fun c hc=>A9 hn fun _=>hK _ _ (by simp[hc])
  ·exact Hn hn fun _ _ _=>hK _ _ (by simp)
 ·exact T0 hn fun _=>hK _ _ (by simp)
theorem Zr (hn:Rel none none):∀{ts:List CT}{ps:List PV}{K:List PV->List Nat->Option R}{K':List PV->List Nat->Option R'},Agr Rel f f' (ps.flatMap Az)->(∀c m,(∀i∈m,f i≠none)->Rel (K c m) (K' c m))->Rel (R2 f ts ps K) (R2 f' ts ps K')
 |[],[],_,_,_,hK=>hK _ _ (by simp)
 |[],_::_,_,_,_,_=>hn
 |_::_,[],_,_,_,_=>hn
 |_::_,p::ps,_,_,hf,hK=>Aqy hn (fun i hi=>hf i (by simp only[List.flatMap_cons,List.mem_append];exact .inl hi)) fun _ m hm=>Zr hn (fun i hi=>hf i (by simp only[List.flatMap_cons,List.mem_append];exact .inr hi)) fun _ ms OY=>hK _ _ fun i hi=>by
   rcases List.mem_append.1 hi with h|h
   ·exact hm i h
   ·exact OY i h
theorem Asb (hn:Rel none none){P:Program}{t:TypeId}{p:PV}{K:PV->List Nat->Option R}{K':PV->List Nat->Option R'}(hf:Agr Rel f f' (Cl p)) (hK:∀c m,(∀i∈m,f i≠none)->Rel (K c m) (K' c m)):Rel (Ahn P f t p K) (Ahn P f' t p K'):=by
 unfold Ahn
 have h1:∀i,i∈[p].flatMap Az->i∈Cl p:=by
  intro i hi;simp only[List.flatMap_cons,List.flatMap_nil,List.append_nil] at hi;cases p<;>first|exact hi|simp[Az] at hi
 cases Cx P t
 ·exact Zr hn (fun i hi=>hf i (h1 i hi)) fun _ _ hm=>Bz hn fun _ _ _=>G5 hn (hK _ _ hm)
 ·refine M0 hn fun c hc=>?_
  subst hc;exact Zr hn (fun i hi=>hf i hi) fun _ _ hm=>hK _ _ hm
theorem VT (hn:Rel none none){P:Program}:∀{ts:List TypeId}{ps:List PV}{K:List PV->List Nat->Option R}{K':List PV->List Nat->Option R'},Agr Rel f f' (ps.flatMap Cl)->(∀c m,(∀i∈m,f i≠none)->Rel (K c m) (K' c m))->Rel (SY P f ts ps K) (SY P f' ts ps K')
 |[],[],_,_,_,hK=>hK _ _ (by simp)
 |[],_::_,_,_,_,_=>hn
 |_::_,[],_,_,_,_=>hn
 |_::_,p::ps,_,_,hf,hK=>Asb hn (fun i hi=>hf i (by simp only[List.flatMap_cons,List.mem_append];exact .inl hi)) fun _ m hm=>VT hn (fun i hi=>hf i (by simp only[List.flatMap_cons,List.mem_append];exact .inr hi)) fun _ ms OY=>hK _ _ fun i hi=>by
   rcases List.mem_append.1 hi with h|h
   ·exact hm i h
   ·exact OY i h
theorem Ahc (hn:Rel none none){P:Program}{t:TypeId}{x:PV}{lo hi:Option PV}{K:PV->Option R}{K':PV->Option R'}(hf:(∃n e,P.underlying t=some (.array n e))->Agr Rel f f' (Az x)) (hK:∀c,Rel (K c) (K' c)):Rel (IK P f t x lo hi K) (IK P f' t x lo hi K'):=by
 unfold IK;split
 ·exact H9 hn fun _=>Fd hn fun _=>Fd hn fun _=>A9 hn fun _=>hK _
 ·refine A9 hn fun _=>?_
  split
  ·exact A9 hn fun _=>Fd hn fun _=>Fd hn fun _=>A9 hn fun _=>hK _
  ·exact Hn hn fun _ _ _=>Fd hn fun _=>Fd hn fun _=>A9 hn fun _=>hK _
 ·rename_i n e hu;refine A9 hn fun _=>?_
  split
  ·rename_i id off;exact GZ hn (hf ⟨_,_,hu⟩) (by simp[Az]) fun _ _=>A9 hn fun _=>Fd hn fun _=>Fd hn fun _=>A9 hn fun _=>hK _
  ·exact hn
 ·exact hn
theorem Ady (hn:Rel none none){P:Program}{d:Nat}{t:TypeId}{x:PV}{lo hi mx:Option PV}{K:PV->List (Nat × Bx)->Option R} {K':PV->List (Nat × Bx)->Option R'} (hK:∀c,Rel (K c [(d,.ar false [])]) (K' c [(d,.ar false [])])):Rel (Zy P d t x lo hi mx K) (Zy P d t x lo hi mx K'):=by
 unfold Zy;split
 ·refine A9 hn fun _=>?_
  split
  ·exact A9 hn fun _=>Fd hn fun _=>Fd hn fun _=>Fd hn fun _=>A9 hn fun _=>hK _
  ·exact Hn hn fun _ _ _=>Fd hn fun _=>Fd hn fun _=>Fd hn fun _=>A9 hn fun _=>hK _
 ·exact hn
theorem YL {g g':Nat->Option (List PV)} (hn:Rel none none){P:Program}{t:TypeId}{x:PV}{K:PV->Option R}{K':PV->Option R'}(hf:∀i∈Az x,(f i=f' i∧g i=g' i)∨(f i=none∧g i=none∧∀b,Rel none b)) (hK:∀c,Rel (K c) (K' c)):Rel (HH P f g t x K) (HH P f' g' t x K'):=by
 unfold HH;split
 ·rename_i id off;refine A9 hn fun _=>?_
  rcases hf id (by simp[Az]) with⟨h1,h2⟩|⟨h1,h2,h3⟩
  ·rw[←h1,←h2];split
   ·exact Vb hn fun _=>GV hn fun _=>hK _
   ·exact Ee hn fun _ _=>Rj hn fun _=>GV hn hK
  ·rw[h1,h2];exact h3 _
 ·exact A9 hn fun _=>Vb hn fun _=>GV hn fun _=>hK _
 ·exact hn
theorem Akt (hn:Rel none none){P:Program}{d:Nat}{src dst:TypeId}{x:PV}{K:PV->List (Nat × Bx)->Option R} {K':PV->List (Nat × Bx)->Option R'} (hf:P.underlying dst=some .string->Agr Rel f f' (Az x)) (hK:∀v b,(∀q∈b,q.1=d)->Rel (K v b) (K' v b)):Rel (SL P f d src dst x K) (SL P f' d src dst x K'):=by
 unfold SL;split
 ·exact A9 hn fun _=>Fj hn fun _ _=>hK _ _ (by simp)
 ·rename_i hds;split
  ·exact H9 hn fun _=>hK _ _ (by simp)
  ·split
   ·exact HL hn (hf hds) fun _ _=>A9 hn fun _=>Ee hn fun _ _=>hK _ _ (by simp)
   ·exact hn
  ·exact hn
 ·split
  ·exact H9 hn fun _=>A9 hn fun _=>hK _ _ (by simp)
  ·exact hn
 ·exact hn
theorem An0 (hn:Rel none none){shr:Bool}{id:Nat}{t:CT}{p:PV}{K:PV->List (Nat × Bx)->Option R} {K':PV->List (Nat × Bx)->Option R'} (hK:∀c b,(∀q∈b,q.1=id)->Rel (K c b) (K' c b)):Rel (Ar7 shr id t p K) (Ar7 shr id t p K'):=by
 unfold Ar7;split
 ·cases shr
  ·exact Ajw hn fun _ _=>hK _ _ (by simp)
  ·exact Hn hn fun _ _ _=>hK _ _ (by simp)
 ·exact T0 hn fun _=>hK _ _ (by simp)
theorem Zp (hn:Rel none none){shr:Bool}{N:Nat}:∀{ts:List CT}{id:Nat}{ps:List PV}{K:List PV->List (Nat × Bx)->Option R} {K':List PV->List (Nat × Bx)->Option R'},(∀c b,(∀q∈b,∃j,q.1=id+N*j)->Rel (K c b) (K' c b))->Rel (V0 shr N id ts ps K) (V0 shr N id ts ps K')
 |[],_,_,_,_,hK=>G5 hn (hK _ _ (by simp))
 |_::_,id,_,_,_,hK=>Bz hn fun _ _ _=>An0 hn fun _ b hb=>Zp hn fun _ bs RW=>hK _ _ fun q hq=>by
   rcases List.mem_append.1 hq with h|h
   ·exact⟨0,by rw[hb q h];simp⟩
   ·obtain⟨j,hj⟩:=RW q h;exact⟨j+1,by rw[hj,Nat.mul_add];omega⟩
theorem Arz (hn:Rel none none){P:Program}{shr:Bool}{N id:Nat}{t:TypeId}{p:PV}{K:PV->List (Nat × Bx)->Option R} {K':PV->List (Nat × Bx)->Option R'} (hK:∀c b,(∀q∈b,∃j,q.1=id+N*j)->Rel (K c b) (K' c b)):Rel (Amh P shr N id t p K) (Amh P shr N id t p K'):=by
 unfold Amh;split
 ·refine Anc hn fun ps=>Zp hn fun _ _ hb=>hK _ _ fun q hq=>?_
  rcases List.mem_cons.1 hq with rfl|hq
  ·exact⟨0,by simp⟩
  ·obtain⟨j,hj⟩:=hb q hq;exact⟨j+1,by rw[hj,Nat.mul_add];omega⟩
 cases Cx P t
 ·exact Zp hn fun _ _ hb=>Bz hn fun _ _ _=>G5 hn (hK _ _ hb)
 ·exact M0 hn fun _ _=>Zp hn fun _ _ hb=>hK _ _ hb
theorem JM (hn:Rel none none){P:Program}{shr:Bool}{N:Nat}:∀{ts:List TypeId}{id:Nat}{ps:List PV}{K:List PV->List (Nat × Bx)->Option R} {K':List PV->List (Nat × Bx)->Option R'},(∀c b,(∀q∈b,∃j,q.1=id+N*j)->Rel (K c b) (K' c b))->Rel (MH P shr N id ts ps K) (MH P shr N id ts ps K')
 |[],_,_,_,_,hK=>G5 hn (hK _ _ (by simp))
 |t::_,id,_,_,_,hK=>Bz hn fun _ _ _=>Arz hn fun _ b hb=>JM hn fun _ bs RW=>hK _ _ fun q hq=>by
   rcases List.mem_append.1 hq with h|h
   ·exact hb q h
   ·obtain⟨j,hj⟩:=RW q h;exact⟨Aco P t+j,by rw[hj,Nat.mul_add];omega⟩
end
theorem Yr {p:PV}{i:Nat}(h:i∈Az p):i∈Cl p:=by cases p<;>first|exact h|simp[Az] at h
theorem Hw {p:PV}{i:Nat}(h:i∈Cl p):i∈B8 p:=by cases p<;>first|exact h|simp[Cl,Az] at h
theorem Om {p:PV}{i:Nat}(h:i∈Az p):i∈B8 p:=Hw (Yr h)
section
variable {R R':Type} {Rel:Option R->Option R'->Prop} {P:Program} {N:Nat} {tm tm':Nat->PV} {f f' g g':Nat->Option (List PV)} {o:Oper}
theorem RF (hn:Rel none none){t:TypeId}{x:Operand}{K:PV->Option R}{K':PV->Option R'}(hx:Cw tm x=Cw tm' x)(hK:∀p,Rel (K p) (K' p)):Rel (IU P t tm x K) (IU P t tm' x K'):=by
 unfold IU;split
 ·exact Aud hn (fun _ _=>hK _) (fun _=>hK _)
 ·rw[hx];exact hK _
theorem Aqp (hn:Rel none none){t:CT}{p:PV}{K:PV->Option R}{K':PV->Option R'}(hK:∀p,Az p=[]->Rel (K p) (K' p)):Rel (JL t p K) (JL t p K'):=by
 unfold JL;split
 ·exact Lm hn fun _=>hK _ rfl
 ·exact Jb hn fun _=>hK _ rfl
 ·exact H9 hn fun _=>hK _ rfl
 ·exact Hn hn fun _ _ _=>hK _ rfl
 ·exact Akf hn fun _=>hK _ rfl
theorem VX (hn:Rel none none):∀{ts:List CT}{cells:List PV}{off:Nat}{K:List PV->Option R}{K':List PV->Option R'},(∀c,(∀p∈c,Az p=[])->Rel (K c) (K' c))->Rel (Y8 ts cells off K) (Y8 ts cells off K')
 |[],_,_,_,_,hK=>hK _ (by simp)
 |_::_,_,_,_,_,hK=>Aqp hn fun c hc=>VX hn fun cs YQ=>hK _ (by
   intro p hp;rcases List.mem_cons.1 hp with h|h
   ·rw[h];exact hc
   ·exact YQ p h)
theorem GD (hn:Rel none none){t:TypeId}{K:List PV->Option R}{K':List PV->Option R'}(hK:∀c,(∀p∈c,Az p=[])->Rel (K c) (K' c)):Rel (Jz P t K) (Jz P t K'):=
 Ee hn fun _ _=>A9 hn fun _=>VX hn hK
theorem Yq {p c:PV}(h:c∈cellsOf p){i:Nat}(hi:i∈Az c):i∈Cl p:=by
 unfold cellsOf at h;split at h
 ·exact List.mem_flatMap.2 ⟨c,h,hi⟩
 ·simp at h;subst h;exact Yr hi
theorem Ag1 {cells new:List PV}{off:Nat}{c:PV}(h:c∈Bq cells new off):c∈cells∨c∈new:=by
 unfold Bq at h;rcases List.mem_append.1 h with h|h
 ·rcases List.mem_append.1 h with h|h
  ·exact .inl (List.mem_of_mem_take h)
  ·exact .inr h
 ·exact .inl (List.mem_of_mem_drop h)
theorem QB (hn:Rel none none){Jt:Nat->Option (Nat × Nat)} {S:Nat->Prop}:∀{ps:List (Nat × PV)} {cells:List PV}{K:List PV->Option R}{K':List PV->Option R'},(∀c∈cells,∀i∈Az c,S i)->(∀q∈ps,∀i∈Cl q.2,S i) ->
  (∀cs,(∀c∈cs,∀i∈Az c,S i)->Rel (K cs) (K' cs))->Rel (Yl Jt ps cells K) (Yl Jt ps cells K')
 |[],_,_,_,h1,_,hK=>hK _ h1
 |(_,p)::_,_,_,_,h1,h2,hK=>Ee hn fun _ _=>A9 hn fun _=>QB hn (fun c hc i hi=>by
   rcases Ag1 hc with h|h
   ·exact h1 c h i hi
   ·exact h2 (_,p) List.mem_cons_self i (Yq h hi)) (fun q hq=>h2 q (List.mem_cons_of_mem _ hq)) hK
theorem LP (hn:Rel none none):∀{ts:List CT}{ps:List PV}{K:List PV->List Nat->Option R}{K':List PV->List Nat->Option R'},(∀t∈ts,∀es,t ≠ .sl es)->(∀c,Rel (K c []) (K' c []))->Rel (R2 g ts ps K) (R2 g' ts ps K')
 |[],[],_,_,_,hK=>hK _
 |[],_::_,_,_,_,_=>hn
 |_::_,[],_,_,_,_=>hn
 |t::ts,p::ps,K,K',ht,hK=>by
  show Rel (Sy g t p _) (Sy g' t p _)
  have:∀{g:Nat->Option (List PV)} {S:Type} {L:PV->List Nat->Option S},Sy g t p L=JL t p fun c=>L c []:=by
   intro g S L;cases t with
   |sl es=>exact absurd rfl (ht _ (by simp) es)
   |_=>rfl
  rw[this,this];exact T0 hn fun c=>LP hn (fun t h=>ht t (by simp[h])) fun cs=>hK _
theorem Apz (hn:Rel none none){es:Nat}{t:TypeId}{x:PV}{K:Nat->List PV->Option R}{K':Nat->List PV->Option R'}(hx:Agr Rel g g' (Az x)) (hK:∀m c,Rel (K m c) (K' m c)):Rel (Af4 P g es t x K) (Af4 P g' es t x K'):=by
 unfold Af4;split
 ·exact A9 hn fun _=>H9 hn fun _=>hK _ _
 ·exact HL hn hx hK
 ·exact hn
theorem Aqr (hn:Rel none none){t:TypeId}{x:PV}{K:Nat->Option R}{K':Nat->Option R'}(hK:∀n,Rel (K n) (K' n)):Rel (Ak2 P t x K) (Ak2 P t x K'):=by
 unfold Ak2;split
 ·exact Hn hn fun _ _ _=>A9 hn fun _=>hK _
 ·exact hn
theorem Aej (hn:Rel none none){d:Nat}{t tx:TypeId}{x:PV}{K:PV->List (Nat × Bx)->Option R} {K':PV->List (Nat × Bx)->Option R'} (hx:Agr Rel g g' (Az x)) (hK:∀v nw,Rel (K v nw) (K' v nw)):Rel (Z7 P g d t tx x K) (Z7 P g' d t tx x K'):=by
 unfold Z7;split
 ·exact A9 hn fun _=>Apz hn hx fun _ _=>A9 hn fun _=>hK _ _
 ·exact hn
theorem PM (hn:Rel none none){C:Ji}{call:Af}{K:PV->List Nat->List (Nat × Bx)->Option R} {K':PV->List Nat->List (Nat × Bx)->Option R'}
  (N9:∀x∈o.op.operands.toList,Cw tm x=Cw tm' x)
  (hfg:Kk P o.op=true->∀x∈o.op.operands.toList,∀i∈B8 (Cw tm' x),(f i=f' i∧g i=g' i)∨(f i=none∧g i=none∧∀b,Rel none b))
  (hK:∀v fz nw,(Kk P o.op=false->fz=[]∧∀q∈nw,o.dst=some q.1)->(∀i∈fz,g i≠none)->Rel (K v fz nw) (K' v fz nw)):
  Rel (TB C P N call tm f g o K) (TB C P N call tm' f' g' o K'):=by
 have h0:∀v,Rel (K v [] []) (K' v [] []):=fun v=>hK v [] [] (fun _=>⟨rfl,by simp⟩) (by simp)
 have hf:Kk P o.op=true->∀x∈o.op.operands.toList,Agr Rel f f' (B8 (Cw tm' x)):=fun h x hx i hi=>(hfg h x hx i hi).imp (·.1) fun h=>⟨h.1,h.2.2⟩
 have hg:Kk P o.op=true->∀x∈o.op.operands.toList,Agr Rel g g' (B8 (Cw tm' x)):=fun h x hx i hi=>(hfg h x hx i hi).imp (·.2) fun h=>⟨h.2.1,h.2.2⟩
 unfold TB;generalize hop:o.op=op at *
 split
 ·exact RF hn (N9 _ (by simp[Op.operands])) h0
 ·exact RF hn (N9 _ (by simp[Op.operands])) h0
 ·rename_i c x y;rw[N9 c (by simp[Op.operands]),N9 x (by simp[Op.operands]),N9 y (by simp[Op.operands])]
  exact Jb hn fun _=>OS (h0 _) (h0 _)
 ·exact Ee hn fun d hd=>Yh hn fun _=>hK _ _ _ (fun _=>⟨rfl,by simp[hd]⟩) (by simp)
 ·rename_i t x;rw[N9 x (by simp[Op.operands])]
  refine Ee hn fun d hd=>A9 hn fun _=>?_
  cases Yf P t
  ·exact Rj hn fun _=>hK _ _ _ (fun _=>⟨rfl,by simp[hd]⟩) (by simp)
  ·exact Vb hn fun _=>hK _ _ _ (fun _=>⟨rfl,by simp[hd]⟩) (by simp)
 ·rename_i t ps
  have:(ps.toList.map fun q=>(q.1,Cw tm q.2))=ps.toList.map fun q=>(q.1,Cw tm' q.2):=by
   apply List.map_congr_left;intro q hq;rw[N9 q.2 (by simp only[Op.operands];exact List.mem_map_of_mem hq)]
  rw[this];exact A9 hn fun _=>Yh hn fun _=>IY hn fun _=>Rj hn fun _=>h0 _
 ·rename_i t n ps
  have:(ps.toList.map fun q=>(q.1,Cw tm q.2))=ps.toList.map fun q=>(q.1,Cw tm' q.2):=by
   apply List.map_congr_left;intro q hq;rw[N9 q.2 (by simp only[Op.operands];exact List.mem_map_of_mem hq)]
  rw[this];refine Ee hn fun d hd=>?_
  split
  ·rename_i e hu;cases OO:M7 P [e]
   ·refine A9 hn fun _=>GD hn fun z hz=>IY hn fun cs=>LP hn ?_ fun cs'=>hK _ _ _ (fun _=>⟨rfl,by simp[hd]⟩) (by simp)
    intro c hc es he;obtain⟨l,hl,hc⟩:=List.mem_flatten.1 hc;rw[List.eq_of_mem_replicate hl] at hc;subst he
    have:M7 P [e]=true:=by
     unfold M7;simp only[List.any_cons,List.any_nil,Bool.or_false,Bool.or_eq_true];exact .inr (List.any_eq_true.2 ⟨_,hc,rfl⟩)
    rw[this] at OO;cases OO
   refine A9 hn fun _=>GD hn fun z hz=>QB (S:=fun i=>∃x∈(Op.buildSlice t n ps).operands.toList,i∈B8 (Cw tm' x)) hn ?_ ?_ fun cs YQ=>?_
   ·intro c hc i hi;obtain⟨l,hl,hc⟩:=List.mem_flatten.1 hc;rw[List.eq_of_mem_replicate hl] at hc;rw[hz c hc] at hi;simp at hi
   ·intro q hq i hi;obtain⟨q',H0,rfl⟩:=List.mem_map.1 hq;exact⟨q'.2,by simp only[Op.operands];exact List.mem_map_of_mem H0,Hw hi⟩
   ·refine Zr hn (fun i hi=>?_) fun cs' m hm=>hK _ _ _ (fun h=>by simp[Kk,hu,OO] at h) hm
    obtain⟨c,hc,hi⟩:=List.mem_flatMap.1 hi;obtain⟨x,hx,hxi⟩:=YQ c hc i hi;exact hg (by simp[Kk,hu,OO]) x hx i hxi
  ·exact hn
 ·rename_i t x;rw[N9 x (by simp[Op.operands])]
  exact YL hn (fun i hi=>hfg (by simp[Kk]) x (by simp[Op.operands]) i (Om hi)) h0
 ·rename_i x;rw[N9 x (by simp[Op.operands])]
  exact JU hn h0
 ·rename_i op' t x y _;rw[N9 x (by simp[Op.operands]),N9 y (by simp[Op.operands])]
  exact Acg hn h0
 ·rename_i op' t x;rw[N9 x (by simp[Op.operands])]
  exact Av5 hn h0
 ·rename_i src dst x;rw[N9 x (by simp[Op.operands])]
  exact Akt hn (fun hds i hi=>hg (by simp[Kk,hds]) x (by simp[Op.operands]) i (Om hi)) fun v b hb=>Ee hn fun d hd=>hK _ _ _ (fun _=>⟨rfl,fun q hq=>by rw[hd,hb q hq,hd];rfl⟩) (by simp)
 ·rename_i t x y;rw[N9 x (by simp[Op.operands]),N9 y (by simp[Op.operands])]
  refine Ee hn fun d hd=>?_
  split
  ·exact Fj hn fun _ _=>Fj hn fun _ _=>A9 hn fun _=>Yh hn fun _=>hK _ _ _ (fun _=>⟨rfl,by simp[hd]⟩) (by simp)
  ·exact hn
 ·rename_i t x lo hi mx;split
  ·rw[N9 x (by simp[Op.operands])]
   have h1:lo.map (Cw tm)=lo.map (Cw tm'):=by
    cases lo with
    |none=>rfl
    |some y=>simp only[Option.map_some];rw[N9 y (by simp[Op.operands])]
   have h2:hi.map (Cw tm)=hi.map (Cw tm'):=by
    cases hi with
    |none=>rfl
    |some y=>simp only[Option.map_some];rw[N9 y (by simp[Op.operands])]
   rw[h1,h2];exact Ahc hn (fun ⟨n,e,he⟩ i hi=>hf (by simp[Kk,he]) x (by simp[Op.operands]) i (Om hi)) h0
  ·rename_i m;rw[N9 x (by simp[Op.operands])]
   have h1:lo.map (Cw tm)=lo.map (Cw tm'):=by
    cases lo with
    |none=>rfl
    |some y=>simp only[Option.map_some];rw[N9 y (by simp[Op.operands])]
   have h2:hi.map (Cw tm)=hi.map (Cw tm'):=by
    cases hi with
    |none=>rfl
    |some y=>simp only[Option.map_some];rw[N9 y (by simp[Op.operands])]
   rw[h1,h2,N9 m (by simp[Op.operands])]
   exact Ee hn fun d hd=>Ady hn fun c=>hK _ _ _ (fun _=>⟨rfl,by simp[hd]⟩) (by simp)
 ·rename_i t x fl;rw[N9 x (by simp[Op.operands])]
  exact Ee hn fun _ _=>A9 hn fun _=>JU hn h0
 ·rename_i t x fl;rw[N9 x (by simp[Op.operands])]
  exact Ee hn fun _ _=>A9 hn fun _=>M0 hn fun _ _=>Rj hn fun _=>GV hn h0
 ·rename_i t x i;rw[N9 x (by simp[Op.operands]),N9 i (by simp[Op.operands])]
  exact Fj hn fun _ _=>RM hn h0
 ·rename_i t x i;rw[N9 x (by simp[Op.operands]),N9 i (by simp[Op.operands])]
  refine Fj hn fun _ _=>?_
  split
  ·exact H9 hn fun _=>A9 hn fun _=>Ee hn fun _ _=>h0 _
  ·exact M0 hn fun _ _=>A9 hn fun _=>Rj hn fun _=>GV hn h0
  ·exact hn
 ·rename_i x i;rw[N9 x (by simp[Op.operands])]
  split
  ·exact Ee hn fun _ _=>h0 _
  ·exact hn
 ·rename_i c
  have Ok:∀x∈c.args.toList,x∈(Op.call c).operands.toList:=by
   intro x hx;simp only[Op.operands,Call.operands,Array.toList_append,List.mem_append];exact .inr hx
  have rc:∀fn,Kk P (.call c)=true->Rel (TJ C P N call tm g o c fn K) (TJ C P N call tm' g' o c fn K'):=by
   intro fn hmm;unfold TJ;have:c.args.toList.map (Cw tm)=c.args.toList.map (Cw tm'):=List.map_congr_left fun x hx=>N9 x (Ok x hx)
   rw[this];refine VT hn (fun i hi=>?_) fun vs m hm=>YK hn fun rv ro=>G5 hn (A9 hn fun _=>JM hn fun ws bs RW=>A9 hn fun _=>hK _ _ _ (fun h=>by rw[hmm] at h;cases h) (fun i hi=>?_))
   ·obtain⟨p,hp,hi⟩:=List.mem_flatMap.1 hi;obtain⟨x,hx,rfl⟩:=List.mem_map.1 hp;exact hg hmm x (Ok x hx) i (Hw hi)
   ·have hi':i∈m:=by
     cases hq:M7 P (Si P o.type)<;>rw[hq] at hi
     ·simp at hi
     ·exact hi
    exact hm i hi'
  split
  ·refine Bz hn fun x _ hx=>Bz hn fun _ _ _=>?_
   rw[N9 x (Ok x (by rw[hx];simp))]
   exact Asy hn fun _=>h0 _
  ·refine Bz hn fun x _ hx=>Bz hn fun _ _ _=>?_
   rw[N9 x (Ok x (by rw[hx];simp))]
   exact Aqr hn fun _=>h0 _
  ·refine Bz hn fun x _ hx=>Bz hn fun y _ hy=>G5 hn ?_
   subst hy;rw[N9 x (Ok x (by rw[hx];simp)),N9 y (Ok y (by rw[hx];simp))]
   exact Asl hn h0
  ·refine Bz hn fun x _ hx=>Bz hn fun y _ hy=>G5 hn ?_
   subst hy;rw[N9 x (Ok x (by rw[hx];simp)),N9 y (Ok y (by rw[hx];simp))]
   exact Ast hn h0
  ·rename_i hc;have hmm:Kk P (.call c)=true:=by simp[Kk,hc]
   refine A9 hn fun _=>Ee hn fun d hd=>Bz hn fun _ _ hb=>Bz hn fun x _ hx=>G5 hn (Bz hn fun _ _ _=>Bz hn fun _ _ _=>?_)
   have hxm:x∈c.args.toList:=by rw[hb,hx];simp
   rw[N9 x (Ok x hxm)];exact Aej hn (fun i hi=>hg hmm x (Ok x hxm) i (Om hi)) fun v nw=>hK _ _ _ (fun h=>by rw[hmm] at h;cases h) (by simp)
  ·rename_i fn hc;have hmm:Kk P (.call c)=true:=by simp[Kk,hc]
   exact rc fn hmm
  ·rename_i t hc;have hmm:Kk P (.call c)=true:=by simp[Kk,hc]
   have ht:=N9 (.tmp t) (by simp[Op.operands,Call.operands,hc])
   change tm t=tm' t at ht;rw[ht];exact Av6 hn fun fn=>rc fn hmm
  ·exact hn
 ·exact hn
variable {hp:Nat->Option Bx}
end
open Go.RowKit
abbrev DA:=PV × List Nat × List (Nat × Bx)
def H5 (ops:Array Oper)(o:Oper)(tm:Nat->PV):Option Bool:=
 match o.guard with
 |none=>some true
 |some (j,want)=>
  match (ops[j]?).bind (·.dst) with
  |none=>none
  |some d=>
   match tm d with
   |.sc (.bool b)=>some (b==want)
   |.sc (.tuple _)=>some false
   |_=>none
section
variable {R:Type} {r:R} {C:Ji} {P:Program} {N:Nat} {call:Af} {ops:Array Oper} {o x:Oper} {s:St} {K:St->Option R}
theorem OL:Ec C P N call ops o s K=match H5 ops o s.tm with
  |none=>none
  |some true=>Adk C P N call o s K
  |some false=>Ar (Il N o.dst) (K ⟨B9 s.tm o.dst (.sc undef),s.hp⟩):=by
 unfold Ec H5;cases o.guard with
 |none=>rfl
 |some q=>
  obtain⟨j,want⟩:=q;cases hd:(ops[j]?).bind (·.dst) with
  |none=>simp[hd]
  |some d=>
   simp only[hd];cases ht:s.tm d with
   |sc v=>
    cases v with
    |bool b=>
     cases b<;>cases want<;>simp only[Bk,cond_true,cond_false,FR s.tm ht]<;>rfl
    |_=>rfl
   |_=>rfl
def Alk (C:Ji)(P:Program)(N:Nat)(call:Af)(o:Oper)(s:St):Option DA:=
 TB C P N call s.tm (rd s.hp) (Ny s.hp) o fun v fz nw=>some (v,fz,nw)
theorem Ave {K:PV->List Nat->List (Nat × Bx)->Option R}:TB C P N call s.tm (rd s.hp) (Ny s.hp) o K=(Alk C P N call o s).bind fun q=>K q.1 q.2.1 q.2.2:=by
 refine PM (Rel:=fun (a:Option R) (b:Option DA)=>a=b.bind fun q=>K q.1 q.2.1 q.2.2) (K:=K) (K':=fun v fz nw=>some (v,fz,nw)) rfl (fun _ _=>rfl) (fun _ _ _ _ _=>.inl ⟨rfl,rfl⟩) fun v fz nw _ _=>rfl
theorem Agt {q:DA}(h:Alk C P N call o s=some q):(Kk P o.op=false->q.2.1=[]∧∀p∈q.2.2,o.dst=some p.1)∧∀i∈q.2.1,Ny s.hp i≠none:=by
 have:=PM (C:=C) (P:=P) (N:=N) (call:=call) (o:=o) (tm:=s.tm) (tm':=s.tm) (f:=rd s.hp) (f':=rd s.hp) (g:=Ny s.hp) (g':=Ny s.hp)
  (Rel:=fun (a:Option DA)(_:Option DA)=>∀q,a=some q->(Kk P o.op=false->q.2.1=[]∧∀p∈q.2.2,o.dst=some p.1)∧∀i∈q.2.1,Ny s.hp i≠none)
  (K:=fun v fz nw=>some (v,fz,nw)) (K':=fun v fz nw=>some (v,fz,nw)) (fun _ h=>by cases h) (fun _ _=>rfl) (fun _ _ _ _ _=>.inl ⟨rfl,rfl⟩) (fun v fz nw h1 h2 q hq=>by cases hq;exact⟨h1,h2⟩)
 exact this q h
def gE (C:Ji)(P:Program)(N:Nat)(call:Af)(ops:Array Oper)(o:Oper)(s:St):Option DA:=
 match H5 ops o s.tm with
 |none=>none
 |some true=>bif Wh C P o.op then none else Alk C P N call o s
 |some false=>some (.sc undef,[],[])
def Jj (C:Ji)(P:Program)(ops:Array Oper)(o:Oper)(tm:Nat->PV):Bool:=Wh C P o.op&&(H5 ops o tm==some true)
theorem Od (h:Jj C P ops o s.tm=false):Ec C P N call ops o s K=(gE C P N call ops o s).bind fun q=>IC N s o.dst q.1 q.2.1 q.2.2 K:=by
 rw[OL];unfold gE;unfold Jj at h;cases hv:H5 ops o s.tm with
 |none=>rfl
 |some b=>
  rw[hv] at h;cases b with
  |false=>
   show Ar _ _=IC N s o.dst (.sc undef) [] [] K;unfold IC;have h1:Ck s.hp []=true:=rfl;have h2:A6 (Ag s.hp []) []=s.hp:=rfl;rw[h1,h2,Bool.and_true]
  |true=>
   have hm:Wh C P o.op=false:=by simpa using h
   simp only[Adk,hm,cond_false];exact Ave
theorem Lz (h:Jj C P ops o s.tm=true):Ec C P N call ops o s K=AJ C P N call s o K:=by
 rw[OL];unfold Jj at h;simp only[Bool.and_eq_true,beq_iff_eq] at h;rw[h.2];simp only[Adk,h.1,cond_true]
theorem Y3 {q:DA}(h:gE C P N call ops o s=some q):(Kk P o.op=false->q.2.1=[]∧∀p∈q.2.2,o.dst=some p.1)∧∀i∈q.2.1,Ny s.hp i≠none:=by
 unfold gE at h;split at h
 ·cases h
 ·cases hm:Wh C P o.op<;>rw[hm] at h
  ·exact Agt h
  ·cases h
 ·cases h;exact⟨fun _=>⟨rfl,by simp⟩,by simp⟩
theorem Hi {tm tm':Nat->PV}(h:∀t∈looks ops o,tm t=tm' t):∀y∈o.op.operands.toList,Cw tm y=Cw tm' y:=by
 intro y hy;cases y with
 |tmp t=>
  refine h t ?_;unfold looks Aoo;refine List.mem_append.2 (.inl (List.mem_filterMap.2 ⟨.tmp t,hy,rfl⟩))
 |const v=>cases v<;>rfl
 |func f=>rfl
 |«global» g=>rfl
theorem O7 {tm tm':Nat->PV}(h:∀t∈looks ops o,tm t=tm' t):H5 ops o tm=H5 ops o tm':=by
 unfold H5;cases hg:o.guard with
 |none=>rfl
 |some q=>
  obtain⟨j,want⟩:=q;cases hd:(ops[j]?).bind (·.dst) with
  |none=>simp[hd]
  |some d=>
   have:tm d=tm' d:=h d (by
    unfold looks;rw[hg];refine List.mem_append.2 (.inr ?_);simp only[hd];simp)
   simp only[hd,this]
theorem FA {s':St}{q:DA}(ht:∀t∈looks ops o,s.tm t=s'.tm t)
  (hm:Kk P o.op=true->∀y∈o.op.operands.toList,∀i∈B8 (Cw s'.tm y),(rd s.hp i=rd s'.hp i∧Ny s.hp i=Ny s'.hp i)∨(rd s.hp i=none∧Ny s.hp i=none))
  (h:gE C P N call ops o s=some q):gE C P N call ops o s'=some q:=by
 unfold gE at h ⊢;rw[←O7 ht];split at h
 ·cases h
 ·cases hM:Wh C P o.op<;>rw[hM] at h
  ·have:=PM (C:=C) (P:=P) (N:=N) (call:=call) (o:=o) (tm:=s.tm) (tm':=s'.tm) (f:=rd s.hp) (f':=rd s'.hp) (g:=Ny s.hp) (g':=Ny s'.hp)
    (Rel:=fun (a b:Option DA)=>a=some q->b=some q)
    (K:=fun v fz nw=>some (v,fz,nw)) (K':=fun v fz nw=>some (v,fz,nw)) (fun h=>h) (Hi ht)
    (fun Qx y hy i hi=>(hm Qx y hy i hi).imp id fun h=>⟨h.1,h.2,fun _ h=>by cases h⟩) (fun v fz nw _ _ h=>h)
   exact this h
  ·cases h
 ·exact h
end
open Go.RowKit
theorem V4:∀{nw:List (Nat × Bx)} {hp C2:Nat->Option Bx},Ck hp nw=true->(∀i b,(i,b)∈nw->C2 i=none)->Ck C2 nw=true
 |[],_,_,_,_=>rfl
 |(i,b)::nw,hp,C2,h,h'=>by
  simp only[Ck,Bool.and_eq_true,Option.isNone_iff_eq_none] at h ⊢;exact⟨⟨h' i b (by simp),h.1.2⟩,V4 h.2 fun j c hj=>h' j c (by simp[hj])⟩
section
variable {hp:Nat->Option Bx} {fz:List Nat} {nw:List (Nat × Bx)}
theorem Id (ha:Ck hp nw=true){i:Nat}(hi:hp i≠none):A6 (Ag hp fz) nw i=if i∈fz then (hp i).map Yj else hp i:=by
 obtain⟨h1,h2⟩:=B5 ha;rw[(F5 h2).2 i (fun bx hb=>hi (h1 i bx hb)),Co]
theorem Mr (ha:Ck hp nw=true){i:Nat}{b:Bx}(hi:(i,b)∈nw):A6 (Ag hp fz) nw i=some b:=
 (F5 (B5 ha).2).1 i b hi
theorem Sd (ha:Ck hp nw=true){i:Nat}(hi:hp i=none)(hn:∀b,(i,b) ∉ nw):A6 (Ag hp fz) nw i=none:=by
 rw[(F5 (B5 ha).2).2 i hn,Co,hi];simp
theorem Rv (ha:Ck hp nw=true){i:Nat}(hi:hp i≠none):A6 (Ag hp fz) nw i≠none:=by
 rw[Id ha hi];cases h:hp i with
 |none=>exact absurd h hi
 |some b=>split<;>simp
theorem Avo (b:Option Bx):(match b.map Yj with|some (.st c)=>some c|some (.ar _ c)=>some c|_=>none)=(match b with|some (.st c)=>some c|some (.ar _ c)=>some c|_=>none):=by
 cases b with
 |none=>rfl
 |some b=>cases b<;>rfl
theorem Arg (b:Option Bx):(match b.map Yj with|some (.ar _ c)=>some c|_=>none)=(match b with|some (.ar _ c)=>some c|_=>none):=by
 cases b with
 |none=>rfl
 |some b=>cases b<;>rfl
theorem Acy (ha:Ck hp nw=true){i:Nat}(hi:hp i≠none):rd (A6 (Ag hp fz) nw) i=rd hp i:=by
 unfold rd;rw[Id ha hi];by_cases h:i∈fz
 ·rw[if_pos h];exact Avo _
 ·rw[if_neg h]
theorem WD (ha:Ck hp nw=true){i:Nat}(hi:hp i≠none):Ny (A6 (Ag hp fz) nw) i=Ny hp i:=by
 unfold Ny;rw[Id ha hi];by_cases h:i∈fz
 ·rw[if_pos h];exact Arg _
 ·rw[if_neg h]
theorem Ajl {i:Nat}(hi:hp i=none):rd hp i=none:=by unfold rd;rw[hi]
theorem Pe {i:Nat}(hi:hp i=none):Ny hp i=none:=by unfold Ny;rw[hi]
theorem A5j (b:Option Bx):(b.map Yj).map Yj=b.map Yj:=by
 cases b with
 |none=>rfl
 |some b=>cases b<;>rfl
theorem Ags {fx fo:List Nat}{nx no:List (Nat × Bx)} (hx:Ck hp nx=true)(ho:Ck (A6 (Ag hp fx) nx) no=true) (ho':Ck hp no=true)
  (AV:Ck (A6 (Ag hp fo) no) nx=true) (h1:∀i∈fx,hp i≠none)(h2:∀i∈fo,hp i≠none):
  A6 (Ag (A6 (Ag hp fx) nx) fo) no=A6 (Ag (A6 (Ag hp fo) no) fx) nx:=by
 funext i
 by_cases hi:hp i=none
 ·by_cases hno:∃b,(i,b)∈no
  ·obtain⟨b,hb⟩:=hno
   have hnx:∀b',(i,b') ∉ nx:=fun b' I7=>by
    have:=(B5 ho).1 i b hb;rw[Mr hx I7] at this;cases this
   rw[Mr ho hb,Id AV (by rw[Mr ho' hb];simp),Mr ho' hb,if_neg (fun h=>h1 i h hi)]
  ·have hno:∀b,(i,b) ∉ no:=fun b hb=>hno ⟨b,hb⟩
   by_cases hnx:∃b,(i,b)∈nx
   ·obtain⟨b,hb⟩:=hnx;rw[Mr AV hb,Id ho (by rw[Mr hx hb];simp),Mr hx hb,if_neg (fun h=>h2 i h hi)]
   ·have hnx:∀b,(i,b) ∉ nx:=fun b hb=>hnx ⟨b,hb⟩
    rw[Sd ho (Sd hx hi hnx) hno,Sd AV (Sd ho' hi hno) hnx]
 ·rw[Id ho (Rv hx hi),Id hx hi,Id AV (Rv ho' hi),Id ho' hi];split<;>split<;>first|rfl|rw[A5j]
end
section
variable {R:Type} {r:R} {C:Ji} {P:Program} {N:Nat} {call:Af} {ops:Array Oper} {o x:Oper} {s:St} {K:St->Option R}
structure GW (C:Ji) (P:Program) (ops:Array Oper) (x o:Oper):Prop where
 xo:∀d,x.dst=some d->d ∉ looks ops o
 ne:∀d,x.dst=some d->o.dst≠some d
 ox:∀d,o.dst=some d->d ∉ looks ops x
 mx:Wh C P x.op=true->Kk P o.op=false
 mo:Wh C P o.op=true->Kk P x.op=false
theorem Wl {l:List Nat}{d:Nat}(h:l.any (Nat.beq d)=false):d ∉ l:=by
 intro hm;have:l.any (Nat.beq d)=true:=List.any_eq_true.2 ⟨d,hm,Nat.beq_refl d⟩;rw[this] at h;cases h
theorem Aoz (h:PS C P ops x o=false):GW C P ops x o:=by
 unfold PS at h;simp only[Bool.or_eq_false_iff,Bool.and_eq_false_iff] at h;obtain⟨⟨⟨h1,h2⟩,h3⟩,h4⟩:=h;refine⟨fun d hd=>?_,fun d hd he=>?_,fun d hd=>?_,fun hm=>?_,fun hm=>?_⟩
 ·simp only[hd,Bool.or_eq_false_iff] at h1;exact Wl h1.1
 ·simp only[hd,he,Bool.or_eq_false_iff] at h1;rw[Nat.beq_refl] at h1;cases h1.2
 ·simp only[hd] at h2;exact Wl h2
 ·rw[hm] at h3;rcases h3 with h|h
  ·cases h
  ·exact h
 ·rw[hm] at h4;rcases h4 with h|h
  ·cases h
  ·exact h
theorem Gf {tm:Nat->PV}{d:Option Tmp}{v:PV}{l:List Nat}(h:∀i,d=some i->i ∉ l):∀t∈l,B9 tm d v t=tm t:=by
 intro t ht;cases d with
 |none=>rfl
 |some d=>exact Aq _ _ (by rintro rfl;exact h _ rfl ht)
theorem Oq {tm:Nat->PV}{d e:Option Tmp}{u v:PV}(h:∀i,d=some i->e≠some i):B9 (B9 tm d u) e v=B9 (B9 tm e v) d u:=by
 cases d with
 |none=>rfl
 |some d=>
  cases e with
  |none=>rfl
  |some e=>exact Aea _ _ _ (by rintro rfl;exact h _ rfl rfl)
def Has (C:Ji)(P:Program)(o:Oper)(s:St):Prop:=(∀y∈o.op.operands.toList,∀i∈B8 (Cw s.tm y),s.hp i≠none) ∧
 (Wh C P o.op=true->Ry o.op=false->∀y∈o.op.operands.toList,∀i∈B8 (Cw s.tm y),∀c,s.hp i=some (.st c)->∀p∈c,∀k∈Az p,s.hp k≠none)
theorem Kf {tm tm':Nat->PV}(h:∀t∈looks ops o,tm t=tm' t):Jj C P ops o tm=Jj C P ops o tm':=by
 unfold Jj;rw[O7 h]
theorem Ajs (hw:Has C P o s)(xo:∀d,x.dst=some d->d ∉ looks ops o)(ne:∀d,x.dst=some d->o.dst≠some d)(ox:∀d,o.dst=some d->d ∉ looks ops x)(hx:Jj C P ops x s.tm=false)(ho:Jj C P ops o s.tm=false)
  (h:Ec C P N call ops x s (fun s1=>Ec C P N call ops o s1 K)=some r):Ec C P N call ops o s (fun s1=>Ec C P N call ops x s1 K)=some r:=by
 rw[Od hx] at h;cases ex:gE C P N call ops x s with
 |none=>rw[ex] at h;cases h
 |some q=>
 obtain⟨vx,fx,nx⟩:=q;rw[ex] at h;obtain⟨hb,h1⟩:=Ax h;simp only[Bool.and_eq_true] at hb;have t1:∀t∈looks ops o,B9 s.tm x.dst vx t=s.tm t:=Gf xo;change Ec C P N call ops o ⟨B9 s.tm x.dst vx,A6 (Ag s.hp fx) nx⟩ K=some r at h1;rw[Od (by rw[Kf t1];exact ho)] at h1
 cases eo:gE C P N call ops o ⟨B9 s.tm x.dst vx,A6 (Ag s.hp fx) nx⟩ with
 |none=>rw[eo] at h1;cases h1
 |some q=>
 obtain⟨vo,fo,no⟩:=q;rw[eo] at h1;obtain⟨hc,h2⟩:=Ax h1;change K ⟨B9 (B9 s.tm x.dst vx) o.dst vo,A6 (Ag (A6 (Ag s.hp fx) nx) fo) no⟩=some r at h2;simp only[Bool.and_eq_true] at hc
 have eo':gE C P N call ops o s=some (vo,fo,no):=by
  refine FA t1 (fun _ y hy i hi=>?_) eo
  have:=hw.1 y hy i hi;exact .inl ⟨Acy hb.2 this,WD hb.2 this⟩
 have ho':Ck s.hp no=true:=V4 hc.2 fun i b hi=>by
  cases hs:s.hp i with
  |none=>rfl
  |some c=>exact absurd ((B5 hc.2).1 i b hi) (Rv hb.2 (by rw[hs];simp))
 rw[Od ho,eo']
 have AV:Ck (A6 (Ag s.hp fo) no) nx=true:=V4 hb.2 fun i b hi=>by
  refine Sd ho' ((B5 hb.2).1 i b hi) fun c W9=>?_
  have:=(B5 hc.2).1 i c W9;rw[Mr hb.2 hi] at this;cases this
 have t2:∀t∈looks ops x,s.tm t=B9 s.tm o.dst vo t:=fun t ht=>(Gf ox t ht).symm
 have ex':gE C P N call ops x ⟨B9 s.tm o.dst vo,A6 (Ag s.hp fo) no⟩=some (vx,fx,nx):=by
  refine FA t2 (fun _ y hy i hi=>?_) ex
  by_cases hs:s.hp i=none
  ·exact .inr ⟨Ajl hs,Pe hs⟩
  ·exact .inl ⟨(Acy ho' hs).symm,(WD ho' hs).symm⟩
 show Ar _ _=_;rw[hc.1,ho'];show Ec C P N call ops x ⟨B9 s.tm o.dst vo,A6 (Ag s.hp fo) no⟩ K=some r;rw[Od (by rw[←Kf t2];exact hx),ex']
 show Ar _ _=_;rw[hb.1,AV];rw[←h2];have hfx:∀i∈fx,s.hp i≠none:=fun i hi hs=>(Y3 ex).2 i hi (Pe hs)
 have hfo:∀i∈fo,s.hp i≠none:=fun i hi hs=>(Y3 eo').2 i hi (Pe hs)
 show K ⟨B9 (B9 s.tm o.dst vo) x.dst vx,A6 (Ag (A6 (Ag s.hp fo) no) fx) nx⟩=K _;rw[Oq ne,Ags hb.2 hc.2 ho' AV hfx hfo]
end
open Go.RowKit
theorem FE {C:Ji}{P:Program}{o:Op}(h:Wh C P o=true):Kk P o=true:=by
 unfold Wh at h;split at h
 ·rfl
 ·rename_i c;unfold Kk;simp only;split at h<;>rename_i hc
  ·rw[hc]
  ·rw[hc]
  ·cases h
  ·rw[hc]
  ·cases h
 ·cases h
structure UC (N:Nat) (S:Nat->Prop) (dst:Option Nat) (hp Eo C2 Hc:Nat->Option Bx):Prop where
 keep:∀i,hp i≠none->C2 i≠none
 off:∀i,i<N->dst≠some i->(¬S i∨hp i=none)->C2 i=hp i∧Hc i=Eo i
 same:∀i,hp i=Eo i->C2 i=Hc i
 far:∀i,¬S i->hp i≠none->C2 i=hp i
section
variable {R R':Type} {Rel:Option R->Option R'->Prop} {P:Program} {N:Nat} {tm tm':Nat->PV} {hp Eo:Nat->Option Bx} {f f':Nat->Option (List PV)} {o:Oper}
theorem YM (hn:Rel none none){t:CT}{p:PV}{K:PV->List Nat->Option R}{K':PV->List Nat->Option R'}(hf:Agr Rel f f' (Az p)) (hK:∀c m,(∀i∈m,f i≠none∧i∈Az p)->Rel (K c m) (K' c m)):Rel (Sy f t p K) (Sy f' t p K'):=by
 unfold Sy;split
 ·split
  ·rename_i id es' off n;cases Nat.beq es' _
   ·exact hn
   ·exact GZ hn hf (by simp[Az]) fun c hc=>A9 hn fun _=>hK _ _ (by simp[hc,Az])
  ·exact Hn hn fun _ _ _=>hK _ _ (by simp)
 ·exact T0 hn fun _=>hK _ _ (by simp)
theorem RZ (hn:Rel none none):∀{ts:List CT}{ps:List PV}{K:List PV->List Nat->Option R}{K':List PV->List Nat->Option R'},Agr Rel f f' (ps.flatMap Az)->(∀c m,(∀i∈m,f i≠none∧i∈ps.flatMap Az)->Rel (K c m) (K' c m))->Rel (R2 f ts ps K) (R2 f' ts ps K')
 |[],[],_,_,_,hK=>hK _ _ (by simp)
 |[],_::_,_,_,_,_=>hn
 |_::_,[],_,_,_,_=>hn
 |_::_,p::ps,_,_,hf,hK=>YM hn (fun i hi=>hf i (by simp only[List.flatMap_cons,List.mem_append];exact .inl hi)) fun _ m hm=>RZ hn (fun i hi=>hf i (by simp only[List.flatMap_cons,List.mem_append];exact .inr hi)) fun _ ms OY=>hK _ _ fun i hi=>by
   simp only[List.flatMap_cons,List.mem_append];rcases List.mem_append.1 hi with h|h
   ·exact⟨(hm i h).1,.inl (hm i h).2⟩
   ·exact⟨(OY i h).1,.inr (OY i h).2⟩
theorem AC {S:Nat->Prop}{dst:Option Nat}{id:Nat}{b:Bx}{h0 h1:Nat->Option Bx}(hS:S id)(Br:hp id≠none)(h:UC N S dst hp Eo h0 h1):UC N S dst hp Eo (Dd h0 id (some b)) (Dd h1 id (some b)):=by
 refine⟨fun i hi=>?_,fun i hN hd hi=>?_,fun i hi=>?_,fun i hn hi=>?_⟩
 ·by_cases e:i=id
  ·subst e;rw[A3];simp
  ·rw[Aq _ _ e];exact h.keep i hi
 ·have e:i≠id:=by
   rintro rfl
   rcases hi with hi|hi
   ·exact hi hS
   ·exact Br hi
  rw[Aq _ _ e,Aq _ _ e];exact h.off i hN hd hi
 ·by_cases e:i=id
  ·subst e;rw[A3,A3]
  ·rw[Aq _ _ e,Aq _ _ e];exact h.same i hi
 ·rw[Aq _ _ (by rintro rfl;exact hn hS)];exact h.far i hn hi
theorem ZI {S:Nat->Prop}{d:Nat}{b:Bx}{h0 h1:Nat->Option Bx}(hz:hp d=none)(h:UC N S (some d) hp Eo h0 h1):UC N S (some d) hp Eo (Dd h0 d (some b)) (Dd h1 d (some b)):=by
 refine⟨fun i hi=>?_,fun i hN hd hi=>?_,fun i hi=>?_,fun i hn hi=>?_⟩
 ·by_cases e:i=d
  ·subst e;rw[A3];simp
  ·rw[Aq _ _ e];exact h.keep i hi
 ·have e:i≠d:=by rintro rfl;exact hd rfl
  rw[Aq _ _ e,Aq _ _ e];exact h.off i hN hd hi
 ·by_cases e:i=d
  ·subst e;rw[A3,A3]
  ·rw[Aq _ _ e,Aq _ _ e];exact h.same i hi
 ·rw[Aq _ _ (by rintro rfl;exact hi hz)];exact h.far i hn hi
theorem Ye (S:Nat->Prop)(dst:Option Nat):UC N S dst hp Eo hp Eo:=⟨fun _ h=>h,fun _ _ _ _=>⟨rfl,rfl⟩,fun _ h=>h,fun _ _ _=>rfl⟩
theorem Ag4 {S:Nat->Prop}{dst:Option Nat}{m:List Nat}(hm:∀i∈m,hp i≠none∧S i):UC N S dst hp Eo (Ag hp m) (Ag Eo m):=by
 refine⟨fun i hi=>fun h=>hi (Fk.1 h),fun i hN hd hi=>?_,fun i hi=>?_,fun i hn hi=>?_⟩
 ·have e:i ∉ m:=by
   intro h;rcases hi with hi|hi
   ·exact hi (hm i h).2
   ·exact (hm i h).1 hi
  rw[Co,Co,if_neg e,if_neg e];exact⟨rfl,rfl⟩
 ·rw[Co,Co,hi]
 ·rw[Co,if_neg (fun h=>hn (hm i h).2)]
theorem ZU {S:Nat->Prop}(h:∀i,S i->hp i=Eo i∨(hp i=none∧∀b,Rel none b)) {l:List Nat}(hl:∀i∈l,S i):Agr Rel (Ny hp) (Ny Eo) l:=by
 intro i hi;rcases h i (hl i hi) with h|⟨h,h'⟩
 ·left;unfold Ny;rw[h]
 ·exact .inr ⟨Pe h,h'⟩
theorem Aek (hn:Rel none none){t:TypeId}{a x:PV}{K:St->Option R}{K':St->Option R'}{S:Nat->Prop}(hS:∀i,S i->hp i=Eo i∨(hp i=none∧∀b,Rel none b)) (ha:∀i∈Az a,S i)(hx:∀i∈Cl x,S i)
  (hK:∀C2 Hc,UC N S none hp Eo C2 Hc->Rel (K ⟨tm,C2⟩) (K' ⟨tm',Hc⟩)):Rel (IH P ⟨tm,hp⟩ t a x K) (IH P ⟨tm',Eo⟩ t a x K'):=by
 unfold IH;split
 ·rename_i id off;show Rel (match hp id with|some (.st c)=>_|some (.ar false c)=>_|_=>none) (match Eo id with|some (.st c)=>_|some (.ar false c)=>_|_=>none)
  have Br:S id:=ha id (by simp[Az])
  rcases hS id Br with h|⟨h,hb⟩
  ·rw[←h];split
   ·rename_i c hc;exact A9 hn fun _=>Rj hn fun _=>hK _ _ (AC Br (by rw[hc];simp) (Ye _ _))
   ·rename_i c hc;refine A9 hn fun _=>RZ hn (ZU hS fun i hi=>hx i ?_) fun _ m hm=>A9 hn fun _=>hK _ _ (AC Br (by rw[hc];simp) (Ag4 fun i hi=>⟨fun h=>(hm i hi).1 (Pe h),hx i ?_⟩))
    ·obtain⟨c,hc,hi⟩:=List.mem_flatMap.1 hi;exact Yq hc hi
    ·obtain⟨c,hc,hi⟩:=List.mem_flatMap.1 (hm i hi).2;exact Yq hc hi
   ·exact hn
  ·rw[h];exact hb _
 ·exact hn
theorem JP (hn:Rel none none){es:Nat}{t:TypeId}{x:PV}{K:Nat->List PV->Option R}{K':Nat->List PV->Option R'}{S:Nat->Prop}(hS:∀i,S i->hp i=Eo i∨(hp i=none∧∀b,Rel none b)) (hx:∀i∈Cl x,S i)(hK:∀m c,Rel (K m c) (K' m c)):Rel (Agf P ⟨tm,hp⟩ es t x K) (Agf P ⟨tm',Eo⟩ es t x K'):=by
 unfold Agf Af4;split
 ·exact A9 hn fun _=>H9 hn fun _=>hK _ _
 ·exact HL hn (ZU hS fun i hi=>hx i (Yr hi)) hK
 ·exact hn
theorem FW (hn:Rel none none){d:Nat}{t tx:TypeId}{b x:PV}{K:St->Option R}{K':St->Option R'}{S:Nat->Prop}(hS:∀i,S i->hp i=Eo i∨(hp i=none∧∀b,Rel none b)) (hdd:hp d=Eo d)(hb:∀i∈Cl b,S i)(hx:∀i∈Cl x,S i)
  (hK:∀v C2 Hc,(∀M,UC M S (some d) hp Eo C2 Hc)->Rel (K ⟨Dd tm d v,C2⟩) (K' ⟨Dd tm' d v,Hc⟩)):Rel (Tq P N ⟨tm,hp⟩ d t tx b x K) (Tq P N ⟨tm',Eo⟩ d t tx b x K'):=by
 unfold Tq;split
 ·refine A9 hn fun _=>?_
  cases HR P tx
  rotate_left
  ·show Rel (Zf P N ⟨tm,hp⟩ d _ b x K) (Zf P N ⟨tm',Eo⟩ d _ b x K');refine Fj hn fun _ n=>Hn hn fun z _ _=>?_
   show Rel (Ar (z&&Nat.blt d N&&(hp d).isNone&&_&&_&&_) _) (Ar (z&&Nat.blt d N&&(Eo d).isNone&&_&&_&&_) _);rw[←hdd];exact A9 hn fun hb=>hK _ _ _ (fun M=>ZI (by simp only[Bool.and_eq_true,Option.isNone_iff_eq_none] at hb;simp only[hb]) (Ye _ _))
  rw[cond_false,cond_false];refine JP hn hS hx fun m new=>?_
  split
  ·rename_i id es off n;show Rel (match hp id with|some (.ar false c)=>Ar (Nat.beq es _&&Nat.beq off 0&&Nat.blt d N&&(hp d).isNone&&_&&_&&_&&_) _|_=>none) (match Eo id with|some (.ar false c)=>Ar (Nat.beq es _&&Nat.beq off 0&&Nat.blt d N&&(Eo d).isNone&&_&&_&&_&&_) _|_=>none)
   have Br:S id:=hb id (by simp[Cl,Az])
   rw[←hdd];rcases hS id Br with h|⟨h,hbb⟩
   ·rw[←h];split
    ·rename_i c hc;exact A9 hn fun hb=>hK _ _ _ (fun M=>ZI (by simp only[Bool.and_eq_true,Option.isNone_iff_eq_none] at hb;simp only[hb]) (AC Br (by rw[hc];simp) (Ye _ _)))
    ·exact hn
   ·rw[h];exact hbb _
  ·refine Hn hn fun z _ _=>?_
   show Rel (Ar (z&&Nat.blt d N&&(hp d).isNone&&_&&_&&_) _) (Ar (z&&Nat.blt d N&&(Eo d).isNone&&_&&_&&_) _);rw[←hdd];exact A9 hn fun hb=>hK _ _ _ (fun M=>ZI (by simp only[Bool.and_eq_true,Option.isNone_iff_eq_none] at hb;simp only[hb]) (Ye _ _))
 ·exact hn
theorem Aid (hn:Rel none none){d:Option Tmp}{t tx:TypeId}{b x:PV}{K:St->Option R}{K':St->Option R'}{S:Nat->Prop}(hS:∀i,S i->hp i=Eo i∨(hp i=none∧∀b,Rel none b)) (hb:∀i∈Cl b,S i)(hx:∀i∈Cl x,S i)
  (hK:∀v C2 Hc,UC N S d hp Eo C2 Hc->Rel (K ⟨B9 tm d v,C2⟩) (K' ⟨B9 tm' d v,Hc⟩)):Rel (YO P N ⟨tm,hp⟩ d t tx b x K) (YO P N ⟨tm',Eo⟩ d t tx b x K'):=by
 unfold YO;split
 ·refine A9 hn fun _=>?_
  refine JP hn hS hx fun m new=>?_
  split
  ·rename_i id es off n;show Rel (match hp id with|some (.ar false c)=>Ar (Nat.beq es _&&_&&_) _|_=>none) (match Eo id with|some (.ar false c)=>Ar (Nat.beq es _&&_&&_) _|_=>none)
   have Br:S id:=hb id (by simp[Cl,Az])
   rcases hS id Br with h|⟨h,hbb⟩
   ·rw[←h];split
    ·rename_i c hc;exact A9 hn fun _=>hK _ _ _ (AC Br (by rw[hc];simp) (Ye _ _))
    ·exact hn
   ·rw[h];exact hbb _
  ·exact hn
 ·exact hn
def Ayn (o:Oper)(tm:Nat->PV)(i:Nat):Prop:=∃x∈o.op.operands.toList,i∈B8 (Cw tm x)
def DZ (o:Oper)(tm:Nat->PV)(hp:Nat->Option Bx)(i:Nat):Prop:=Ayn o tm i∨Ry o.op=false∧∃id c,Ayn o tm id∧hp id=some (.st c)∧∃p∈c,i∈Az p
theorem Akp (hn:Rel none none){mv:Bool}{t:CT}{p:PV}{K:PV->List Nat->List Nat->Option R}{K':PV->List Nat->List Nat->Option R'}{S:Nat->Prop}(hS:∀i,S i->hp i=Eo i∨(hp i=none∧∀b,Rel none b)) (hp_:∀i∈Az p,S i)
  (hK:∀c m x,(∀i∈m++x,hp i≠none∧S i)->Rel (K c m x) (K' c m x)):Rel (Ak0 mv hp t p K) (Ak0 mv Eo t p K'):=by
 have frz:∀{t:CT} {p:PV},(∀i∈Az p,S i)->Rel (Sy (Ny hp) t p fun c m=>K c m []) (Sy (Ny Eo) t p fun c m=>K' c m []):=fun h=>YM hn (ZU hS h) fun c m hm=>hK _ _ _ fun i hi=>by
  rw[List.append_nil] at hi;exact⟨fun e=>(hm i hi).1 (Pe e),h i (hm i hi).2⟩
 unfold Ak0;split
 ·rename_i es;cases mv<;>simp only[cond_true,cond_false]
  ·exact frz hp_
  ·split
   ·rename_i id es' off n;rcases hS id (hp_ id (by simp[Az])) with h|⟨h,hb⟩
    ·rw[←h];split
     ·rename_i c hc;cases (Nat.beq es' es&&Nat.beq off 0)<;>simp only[cond_true,cond_false]
      ·exact frz hp_
      ·exact A9 hn fun _=>hK _ _ _ fun i hi=>by
        simp only[List.nil_append,List.mem_singleton] at hi;subst hi;exact⟨by rw[hc];simp,hp_ i (by simp[Az])⟩
     ·exact frz hp_
    ·rw[h]
     have:(Sy (Ny hp) (.sl es) (.view id es' off n) fun c m=>K c m [])=none:=by
      unfold Sy;simp only;cases Nat.beq es' es
      ·rfl
      ·simp only[cond_true,Pe h,F7]
     show Rel (Sy (Ny hp) (.sl es) (.view id es' off n) fun c m=>K c m []) _
     rw[this];exact hb _
   ·refine Hn hn fun z n c=>?_
    cases z
    ·exact hK _ _ _ (by simp)
    ·exact hK _ _ _ (by simp)
 ·exact T0 hn fun _=>hK _ _ _ (by simp)
theorem Wj (hn:Rel none none){mv:Bool}{S:Nat->Prop}(hS:∀i,S i->hp i=Eo i∨(hp i=none∧∀b,Rel none b)):∀{ts:List CT}{ps:List PV}{K:List PV->List Nat->List Nat->Option R}{K':List PV->List Nat->List Nat->Option R'},(∀p∈ps,∀i∈Az p,S i) ->
  (∀c m x,(∀i∈m++x,hp i≠none∧S i)->Rel (K c m x) (K' c m x))->Rel (LF mv hp ts ps K) (LF mv Eo ts ps K')
 |[],[],_,_,_,hK=>hK _ _ _ (by simp)
 |[],_::_,_,_,_,_=>hn
 |_::_,[],_,_,_,_=>hn
 |_::_,p::ps,_,_,hp_,hK=>Akp hn hS (hp_ p (by simp)) fun _ m x hm=>Wj hn hS (fun q hq=>hp_ q (by simp[hq])) fun _ ms xs OY=>hK _ _ _ fun i hi=>by
   simp only[List.mem_append] at hi hm OY;rcases hi with (hi|hi)|(hi|hi)
   ·exact hm i (.inl hi)
   ·exact OY i (.inl hi)
   ·exact hm i (.inr hi)
   ·exact OY i (.inr hi)
theorem Ac2 (hn:Rel none none){C:Ji}{f:FuncId}{i:Nat}{t:TypeId}{p:PV}{K:PV->List Nat->List Nat->List Je->Option R}{K':PV->List Nat->List Nat->List Je->Option R'}{S:Nat->Prop}(hS:∀i,S i->hp i=Eo i∨(hp i=none∧∀b,Rel none b))
  (hp_:∀i∈B8 p,S i)(hc:∀i∈B8 p,∀c,Eo i=some (.st c)->∀q∈c,∀k∈Az q,S k)
  (hK:∀v m x l,(∀i∈m++x++l.flatMap Je.ids,hp i≠none∧S i)->Rel (K v m x l) (K' v m x l)):Rel (KA C P f hp i t p K) (KA C P f Eo i t p K'):=by
 unfold KA;split
 ·split
  ·rename_i id off;have Br:S id:=hp_ id (by simp[B8,Cl,Az])
   rcases hS id Br with h|⟨h,hb⟩
   ·rw[h];split
    ·rename_i c hc1;refine A9 hn fun _=>Wj hn hS (fun q hq k hk=>hc id (by simp[B8,Cl,Az]) c hc1 q (List.mem_of_mem_drop (List.mem_of_mem_take hq)) k hk) fun cs m x hm=>hK _ _ _ _ fun k hk=>?_
     rcases List.mem_append.1 hk with hk|hk
     ·exact hm k hk
     ·simp only[List.flatMap_cons,List.flatMap_nil,Je.ids,List.append_nil,List.mem_singleton] at hk;subst hk;exact⟨by rw[h,hc1];simp,Br⟩
    ·exact hn
   ·rw[h];exact hb _
  ·exact hn
 ·cases C.lnd f i
  ·cases Cx P t
   ·exact Wj hn hS (fun q hq k hk=>by
     simp at hq;subst hq;exact hp_ k (Om hk)) fun cs m x hm=>Bz hn fun _ _ _=>G5 hn (hK _ _ _ _ (by simpa using hm))
   ·refine M0 hn fun cs YQ=>Wj hn hS (fun q hq k hk=>hp_ k ?_) fun cs m x hm=>hK _ _ _ _ (by simpa using hm)
    subst YQ;exact List.mem_flatMap.2 ⟨q,hq,hk⟩
  ·refine Ee hn fun e he=>?_
   unfold As3;split
   ·rename_i id es' off n;have Br:S id:=hp_ id (by simp[B8,Cl,Az])
    rcases hS id Br with h|⟨h,hb⟩
    ·rw[h];split
     ·rename_i c hc1;refine A9 hn fun _=>hK _ _ _ _ fun k hk=>?_
      simp only[List.nil_append,List.flatMap_cons,List.flatMap_nil,Je.ids,List.append_nil,List.mem_singleton] at hk;subst hk;exact⟨by rw[h,hc1];simp,Br⟩
     ·exact hn
    ·rw[h];exact hb _
   ·exact Hn hn fun _ _ _=>A9 hn fun _=>hK _ _ _ _ (by simp[Je.ids])
theorem SG (hn:Rel none none){C:Ji}{f:FuncId}{S:Nat->Prop}(hS:∀i,S i->hp i=Eo i∨(hp i=none∧∀b,Rel none b)):∀{ts:List TypeId}{ps:List PV}{i:Nat}{K:List PV->List Nat->List Nat->List Je->Option R}{K':List PV->List Nat->List Nat->List Je->Option R'},
  (∀p∈ps,∀i∈B8 p,S i)->(∀p∈ps,∀i∈B8 p,∀c,Eo i=some (.st c)->∀q∈c,∀k∈Az q,S k) ->
  (∀v m x l,(∀i∈m++x++l.flatMap Je.ids,hp i≠none∧S i)->Rel (K v m x l) (K' v m x l))->Rel (VW C P f hp i ts ps K) (VW C P f Eo i ts ps K')
 |[],[],_,_,_,_,_,hK=>hK _ _ _ _ (by simp)
 |[],_::_,_,_,_,_,_,_=>hn
 |_::_,[],_,_,_,_,_,_=>hn
 |_::_,p::ps,_,_,_,hp_,hc,hK=>Ac2 hn hS (hp_ p (by simp)) (hc p (by simp)) fun _ m x l hm=>SG hn hS (fun q hq=>hp_ q (by simp[hq])) (fun q hq=>hc q (by simp[hq])) fun _ ms xs ls OY=>hK _ _ _ _ fun i hi=>by
   simp only[List.mem_append,List.flatMap_append] at hi hm OY;rcases hi with ((hi|hi)|(hi|hi))|(hi|hi)
   ·exact hm i (.inl (.inl hi))
   ·exact OY i (.inl (.inl hi))
   ·exact hm i (.inl (.inr hi))
   ·exact OY i (.inl (.inr hi))
   ·exact hm i (.inr hi)
   ·exact OY i (.inr hi)
theorem Ar1 (hn:Rel none none){t:Nat}{ct:CT}{was p:PV}{K:Nat->PV->List (Nat × Bx)->Option R} {K':Nat->PV->List (Nat × Bx)->Option R'} (hK:∀t c b,(∀q∈b,∃k,q.1=nid N k)->Rel (K t c b) (K' t c b)):Rel (Al8 N t ct was p K) (Al8 N t ct was p K'):=by
 unfold Al8;split
 ·split
  ·exact Ajw hn fun _ _=>hK _ _ _ (by intro q hq;simp only[List.mem_singleton] at hq;subst hq;exact⟨t,rfl⟩)
  ·exact Hn hn fun _ _ _=>hK _ _ _ (by simp)
 ·exact T0 hn fun _=>hK _ _ _ (by simp)
theorem WO (hn:Rel none none):∀{cts:List CT}{ws ps:List PV}{t:Nat}{K:Nat->List PV->List (Nat × Bx)->Option R} {K':Nat->List PV->List (Nat × Bx)->Option R'},(∀t c b,(∀q∈b,∃k,q.1=nid N k)->Rel (K t c b) (K' t c b))->Rel (WH N t cts ws ps K) (WH N t cts ws ps K')
 |[],[],_,_,_,_,hK=>G5 hn (hK _ _ _ (by simp))
 |[],_::_,_,_,_,_,_=>hn
 |_::_,[],_,_,_,_,_=>hn
 |_::_,_::_,_,_,_,_,hK=>Bz hn fun _ _ _=>Ar1 hn fun _ _ b hb=>WO hn fun _ _ bs RW=>hK _ _ _ fun q hq=>by
   rcases List.mem_append.1 hq with h|h
   ·exact hb q h
   ·exact RW q h
theorem AH (hn:Rel none none){S:Nat->Prop}{dst:Option Nat}:∀{l:List Je}{ro:List (List PV)} {t:Nat}{h0 h1:Nat->Option Bx}{K:(Nat->Option Bx)->List (Nat × Bx)->Option R} {K':(Nat->Option Bx)->List (Nat × Bx)->Option R'},
  UC N S dst hp Eo h0 h1->(∀i∈l.flatMap Je.ids,hp i≠none∧S i∧hp i=Eo i)->(∀h0' XK b,UC N S dst hp Eo h0' XK->(∀q∈b,∃k,q.1=nid N k)->Rel (K h0' b) (K' XK b))->Rel (EO N t l ro h0 K) (EO N t l ro h1 K')
 |[],_,_,_,_,_,_,hT,_,hK=>G5 hn (hK _ _ _ hT (by simp))
 |.var id off cts ws::l,ro,t,h0,h1,K,K',hT,hl,hK=>by
  unfold EO;refine Bz hn fun cs ro _=>WO hn fun t' cs' bs RW=>?_
  have Br:=hl id (by simp[Je.ids])
  rw[←hT.same id Br.2.2];split
  ·exact AH hn (AC Br.2.1 Br.1 hT) (fun i hi=>hl i (by simp only[List.flatMap_cons,List.mem_append];exact .inr hi)) fun h0' XK b hT' hb=>hK _ _ _ hT' fun q hq=>by
    rcases List.mem_append.1 hq with h|h
    ·exact RW q h
    ·exact hb q h
  ·exact hn
 |.row id::l,ro,t,h0,h1,K,K',hT,hl,hK=>by
  unfold EO;have Br:=hl id (by simp[Je.ids])
  exact Bz hn fun cs ro _=>AH hn (AC Br.2.1 Br.1 hT) (fun i hi=>hl i (by simp only[List.flatMap_cons,List.mem_append];exact .inr hi)) hK
 |.none::l,ro,t,h0,h1,K,K',hT,hl,hK=>by
  unfold EO;exact Bz hn fun cs ro _=>AH hn hT (fun i hi=>hl i (by simp only[List.flatMap_cons,List.mem_append];exact .inr hi)) hK
theorem Acq (h:∀i,N<=i->hp i=Eo i)(hN:0<N):∀k t,Ab2 N hp k t=Ab2 N Eo k t
 |0,_=>rfl
 |k+1,t=>by
  unfold Ab2;rw[h (nid N t) (by unfold nid;exact Nat.le_mul_of_pos_right _ (by omega)),Acq h hN k (t+1)]
theorem YN {h0 h1:Nat->Option Bx}:∀{nw:List (Nat × Bx)},(∀q∈nw,h0 q.1=h1 q.1)->Ck h0 nw=Ck h1 nw
 |[],_=>rfl
 |(i,b)::nw,h=>by
  unfold Ck;rw[h (i,b) (by simp),YN (fun q hq=>h q (by simp[hq]))]
theorem TL {S:Nat->Prop}{dst:Option Nat}{h0 h1:Nat->Option Bx}(hT:UC N S dst hp Eo h0 h1):∀{nw:List (Nat × Bx)} {g0 g1:Nat->Option Bx},UC N S dst hp Eo g0 g1->(∀q∈nw,N<=q.1∨dst=some q.1)->(∀q∈nw,hp q.1=none)->UC N S dst hp Eo (A6 g0 nw) (A6 g1 nw)
 |[],_,_,h,_,_=>h
 |(i,b)::nw,g0,g1,h,hi,hz=>by
  refine TL hT (nw:=nw) ⟨fun k hk=>?_,fun k hN hd hk=>?_,fun k hk=>?_,fun k hn hk=>?_⟩ (fun q hq=>hi q (by simp[hq])) (fun q hq=>hz q (by simp[hq]))
  ·by_cases e:k=i
   ·subst e;rw[A3];simp
   ·rw[Aq _ _ e];exact h.keep k hk
  ·have e:k≠i:=by
    rintro rfl
    rcases hi (k,b) (by simp) with q|q
    ·simp only at q;omega
    ·exact hd q
   rw[Aq _ _ e,Aq _ _ e];exact h.off k hN hd hk
  ·by_cases e:k=i
   ·subst e;rw[A3,A3]
   ·rw[Aq _ _ e,Aq _ _ e];exact h.same k hk
  ·rw[Aq _ _ (by rintro rfl;exact hk (hz (k,b) (by simp)))];exact h.far k hn hk
theorem A0d {S:Nat->Prop}{dst:Option Nat}{m x:List Nat}(hm:∀i∈m++x,hp i≠none∧S i):UC N S dst hp Eo (Zl (Ag hp m) x) (Zl (Ag Eo m) x):=by
 refine⟨fun i hi h=>?_,fun i hN hd hi=>?_,fun i hi=>?_,fun i hn hi=>?_⟩
 ·rw[Ih] at h;have h1:Ag hp m i≠none:=fun e=>hi (Fk.1 e)
  split at h
  ·cases hq:Ag hp m i with
   |none=>exact h1 hq
   |some b=>rw[hq] at h;cases h
  ·exact h1 h
 ·have e:i ∉ m∧i ∉ x:=by
   refine⟨fun h=>?_,fun h=>?_⟩<;>(rcases hi with hi|hi)
   ·exact hi (hm i (by simp[h])).2
   ·exact (hm i (by simp[h])).1 hi
   ·exact hi (hm i (by simp[h])).2
   ·exact (hm i (by simp[h])).1 hi
  rw[Ih,Ih,if_neg e.2,if_neg e.2,Co,Co,if_neg e.1,if_neg e.1];exact⟨rfl,rfl⟩
 ·rw[Ih,Ih,Co,Co,hi]
 ·rw[Ih,Co,if_neg (fun h=>hn (hm i (by simp[h])).2),if_neg (fun h=>hn (hm i (by simp[h])).2)]
theorem Ad0 (hn:Rel none none){C:Ji}{call:Af}{f:FuncId}{c:Call}{K:St->Option R}{K':St->Option R'}{S:Nat->Prop}(N9:c.args.toList.map (Cw tm)=c.args.toList.map (Cw tm')) (hS:∀i,S i->hp i=Eo i∨(hp i=none∧∀b,Rel none b))
  (hp_:∀p∈c.args.toList.map (Cw tm'),∀i∈B8 p,S i) (hc:∀p∈c.args.toList.map (Cw tm'),∀i∈B8 p,∀c,Eo i=some (.st c)->∀q∈c,∀k∈Az q,S k)
  (hdd:∀d,o.dst=some d->hp d=Eo d)(hNN:∀i,N<=i->hp i=Eo i)
  (hK:∀v C2 Hc,UC N S o.dst hp Eo C2 Hc->Rel (K ⟨B9 tm o.dst v,C2⟩) (K' ⟨B9 tm' o.dst v,Hc⟩)):Rel (JR C P N call ⟨tm,hp⟩ o f c K) (JR C P N call ⟨tm',Eo⟩ o f c K'):=by
 unfold JR;simp only[N9];refine SG hn hS hp_ hc fun vs m x l hm=>A9 hn fun hb=>YK hn fun rv ro=>JM hn fun ws bs RW=>A9 hn fun _=>?_
 simp only[Bool.and_eq_true] at hb;have hN:0<N:=Nat.lt_of_succ_le (Nat.le_of_ble_eq_true hb.1.2);rw[Acq hNN hN];by_cases Aqe:∃i∈l.flatMap Je.ids,hp i≠Eo i
 ·obtain⟨i,hi,Gg⟩:=Aqe;obtain⟨h1,h2⟩:=hm i (List.mem_append.2 (.inr hi));rcases hS i h2 with h|⟨h,_⟩
  ·exact absurd h Gg
  ·exact absurd h h1
 have hl:∀i∈l.flatMap Je.ids,hp i≠none∧S i∧hp i=Eo i:=fun i hi=>⟨(hm i (List.mem_append.2 (.inr hi))).1,(hm i (List.mem_append.2 (.inr hi))).2,Classical.byContradiction fun h=>Aqe ⟨i,hi,h⟩⟩
 have hT0:UC N S o.dst hp Eo (Zl (Ag hp m) x) (Zl (Ag Eo m) x):=A0d fun i hi=>hm i (List.mem_append.2 (.inl hi))
 refine AH hn hT0 hl fun h0 h1 bs' hT A8k=>?_
 have Am0:∀q∈bs++bs',N<=q.1∨o.dst=some q.1:=by
  intro q hq;rcases List.mem_append.1 hq with hq|hq
  ·obtain⟨j,hj⟩:=RW q hq;cases hd:o.dst with
   |none=>
    rw[hd] at hj;left;rw[hj];exact Nat.le_add_right _ _
   |some d=>
    rw[hd] at hj;change q.1=d+N*j at hj;cases j with
    |zero=>right;rw[hj];simp
    |succ j=>left;rw[hj,Nat.mul_add];omega
  ·obtain⟨k,hk⟩:=A8k q hq;left;rw[hk];unfold nid;exact Nat.le_mul_of_pos_right _ (by omega)
 have Xl:∀q∈bs++bs',h0 q.1=h1 q.1:=by
  intro q hq;refine hT.same q.1 ?_;rcases Am0 q hq with h|h
  ·exact hNN _ h
  ·exact hdd _ h
 rw[YN Xl]
 exact A9 hn fun hb=>hK _ _ _ (TL hT hT Am0 fun q hq=>by
  cases hz:hp q.1 with
  |none=>rfl
  |some c=>exact absurd ((Xl q hq).trans ((B5 hb).1 q.1 q.2 hq)) (hT.keep q.1 (by rw[hz];simp)))
theorem Oy (hn:Rel none none){C:Ji}{call:Af}{K:St->Option R}{K':St->Option R'}(N9:∀x∈o.op.operands.toList,Cw tm x=Cw tm' x)
  (hS:∀i,DZ o tm' Eo i->hp i=Eo i∨(hp i=none∧∀b,Rel none b)) (hdd:∀d,o.dst=some d->hp d=Eo d)(hNN:∀i,N<=i->hp i=Eo i)
  (hK:∀v C2 Hc,UC N (DZ o tm' Eo) o.dst hp Eo C2 Hc->Rel (K ⟨B9 tm o.dst v,C2⟩) (K' ⟨B9 tm' o.dst v,Hc⟩)):Rel (AJ C P N call ⟨tm,hp⟩ o K) (AJ C P N call ⟨tm',Eo⟩ o K'):=by
 unfold AJ;have hl:∀x∈o.op.operands.toList,∀i∈B8 (Cw tm' x),DZ o tm' Eo i:=fun x hx i hi=>.inl ⟨x,hx,hi⟩
 have NQ:Ry o.op=false->∀x∈o.op.operands.toList,∀i∈B8 (Cw tm' x),∀c,Eo i=some (.st c)->∀q∈c,∀k∈Az q,DZ o tm' Eo k:=fun ha x hx i hi c hc q hq k hk=>.inr ⟨ha,i,c,⟨x,hx,hi⟩,hc,q,hq,hk⟩
 generalize hLd:DZ o tm' Eo=S at *
 generalize hop:o.op=op at *
 split
 ·rename_i t x y;simp only[N9 x (by simp[Op.operands]),N9 y (by simp[Op.operands])]
  refine A9 hn fun hd=>Aek (N:=N) hn hS (fun i hi=>hl x (by simp[Op.operands]) i (Om hi)) (fun i hi=>hl y (by simp[Op.operands]) i (Hw hi)) fun C2 Hc hh=>?_
  have hd':=Option.isNone_iff_eq_none.1 hd;have:=hK .top C2 Hc (by rw[hd'];exact hh)
  rw[hd'] at this;exact this
 ·rename_i c
  have Ok:∀x∈c.args.toList,x∈(Op.call c).operands.toList:=by
   intro x hx;simp only[Op.operands,Call.operands,Array.toList_append,List.mem_append];exact .inr hx
  split
  ·rename_i hc;refine Ee hn fun d hd=>Bz hn fun x _ hx=>Bz hn fun y _ hy=>G5 hn (Bz hn fun _ _ _=>Bz hn fun _ _ _=>?_)
   subst hy;have hxm:=Ok x (by rw[hx];simp)
   have hym:=Ok y (by rw[hx];simp)
   simp only[N9 x hxm,N9 y hym];refine FW hn hS (hdd d hd) (fun i hi=>hl x hxm i (Hw hi)) (fun i hi=>hl y hym i (Hw hi)) fun v C2 Hc hh=>?_
   have:=hK v C2 Hc (by rw[hd];exact hh N)
   rw[hd] at this;exact this
  ·rename_i hc;refine Bz hn fun x _ hx=>Bz hn fun y _ hy=>G5 hn (Bz hn fun _ _ _=>Bz hn fun _ _ _=>?_)
   subst hy;have hxm:=Ok x (by rw[hx];simp)
   have hym:=Ok y (by rw[hx];simp)
   simp only[N9 x hxm,N9 y hym];exact Aid hn hS (fun i hi=>hl x hxm i (Hw hi)) (fun i hi=>hl y hym i (Hw hi)) hK
  ·rename_i f hcf;refine Ad0 hn (List.map_congr_left fun x hx=>N9 x (Ok x hx)) hS (fun p hp i hi=>?_) (fun p hp i hi=>?_) hdd hNN hK
   ·obtain⟨x,hx,rfl⟩:=List.mem_map.1 hp;exact hl x (Ok x hx) i hi
   ·obtain⟨x,hx,rfl⟩:=List.mem_map.1 hp;exact NQ (by simp only[Ry,hcf]) x (Ok x hx) i hi
  ·exact hn
 ·exact hn
theorem PX (hn:Rel none none){C:Ji}{call:Af}{K:St->Option R}{K':St->Option R'}(N9:∀x∈o.op.operands.toList,Cw tm x=Cw tm' x)(hK:∀v C2,(∀i,hp i≠none->C2 i≠none)->Rel (K ⟨B9 tm o.dst v,C2⟩) (K' ⟨B9 tm' o.dst v,C2⟩)):Rel (AJ C P N call ⟨tm,hp⟩ o K) (AJ C P N call ⟨tm',hp⟩ o K'):=
 Oy hn N9 (fun _ _=>.inl rfl) (fun _ _=>rfl) (fun _ _=>rfl) fun v C2 Hc hT=>by
  have:C2=Hc:=funext fun i=>hT.same i rfl
  subst this;exact hK v C2 hT.keep
end
section
variable {R:Type} {r:R} {C:Ji} {P:Program} {N:Nat} {call:Af} {ops:Array Oper} {o x:Oper} {s:St} {K:St->Option R}
theorem Aa5 {tm:Nat->PV}{hp C2:Nat->Option Bx}{tm':Nat->PV}{q:DA}(hm:Kk P o.op=false)(ht:∀t∈looks ops o,tm t=tm' t)(h:gE C P N call ops o ⟨tm,hp⟩=some q):gE C P N call ops o ⟨tm',C2⟩=some q:=
 FA (s:=⟨tm,hp⟩) (s':=⟨tm',C2⟩) ht (fun h=>by rw[hm] at h;cases h) h
theorem JC {tm:Nat->PV}{hp:Nat->Option Bx}(hm:Kk P o.op=false)(h:Ec C P N call ops o ⟨tm,hp⟩ K=some r):
  ∃v nw,gE C P N call ops o ⟨tm,hp⟩=some (v,[],nw)∧Il N o.dst=true∧Ck hp nw=true∧(∀p∈nw,o.dst=some p.1)∧K ⟨B9 tm o.dst v,A6 hp nw⟩=some r:=by
 have hM:Wh C P o.op=false:=by
  cases hh:Wh C P o.op
  ·rfl
  ·rw[FE hh] at hm;cases hm
 rw[Od (by simp[Jj,hM])] at h
 cases e:gE C P N call ops o ⟨tm,hp⟩ with
 |none=>rw[e] at h;cases h
 |some q=>
  obtain⟨v,fz,nw⟩:=q;obtain⟨h1,h2⟩:=(Y3 e).1 hm;simp only at h1 h2;subst h1;rw[e] at h;obtain⟨hb,h⟩:=Ax h;simp only[Bool.and_eq_true] at hb;exact⟨v,nw,rfl,hb.1,hb.2,h2,h⟩
theorem RR {tm:Nat->PV}{hp:Nat->Option Bx}{v:PV}{nw:List (Nat × Bx)} (hm:Kk P o.op=false)(e:gE C P N call ops o ⟨tm,hp⟩=some (v,[],nw)) (hd:Il N o.dst=true)(ha:Ck hp nw=true)(h:K ⟨B9 tm o.dst v,A6 hp nw⟩=some r):Ec C P N call ops o ⟨tm,hp⟩ K=some r:=by
 have hM:Wh C P o.op=false:=by
  cases hh:Wh C P o.op
  ·rfl
  ·rw[FE hh] at hm;cases hm
 rw[Od (by simp[Jj,hM]),e]
 show Ar _ _=_;have ha':Ck hp nw=true:=ha;rw[hd,ha'];exact h
theorem Qz {hp:Nat->Option Bx}{nw:List (Nat × Bx)} (ha:Ck hp nw=true){i:Nat}(hi:∀p∈nw,p.1≠i):A6 hp nw i=hp i:=
 (F5 (B5 ha).2).2 i fun b hb=>hi _ hb rfl
theorem Ao9 {hp C2:Nat->Option Bx}{nw:List (Nat × Bx)} (ha:Ck hp nw=true){g:Nat->Option Bx}(h1:∀i,(∀p∈nw,p.1≠i)->g i=C2 i) (h2:∀i,(∃p∈nw,p.1=i)->g i=A6 hp nw i) (ha':Ck C2 nw=true):g=A6 C2 nw:=by
 funext i
 by_cases h:∃p∈nw,p.1=i
 ·rw[h2 i h];obtain⟨⟨j,b⟩,hp,rfl⟩:=h;rw[(F5 (B5 ha).2).1 j b hp,(F5 (B5 ha').2).1 j b hp]
 ·have h':∀p∈nw,p.1≠i:=fun p hp e=>h ⟨p,hp,e⟩
  rw[h1 i h',Qz ha' h']
theorem Avb (ap:GW C P ops x o)(hx:Jj C P ops x s.tm=true)
  (h:Ec C P N call ops x s (fun s1=>Ec C P N call ops o s1 K)=some r):Ec C P N call ops o s (fun s1=>Ec C P N call ops x s1 K)=some r:=by
 have hm:Kk P o.op=false:=ap.mx (by unfold Jj at hx;simp only[Bool.and_eq_true] at hx;exact hx.1)
 rw[Lz hx] at h;obtain⟨tm,hp⟩:=s;have look:∀v,∀t∈looks ops o,B9 tm x.dst v t=tm t:=fun v=>Gf ap.xo
 have h1:=Oy (P:=P) (N:=N) (o:=x) (tm:=tm) (tm':=tm) (hp:=hp) (Eo:=hp) (K:=fun s1=>Ec C P N call ops o s1 K) (K':=fun _=>none)
  (Rel:=fun (a:Option R)(_:Option R)=>a=some r->∃v nw,gE C P N call ops o ⟨tm,hp⟩=some (v,[],nw)∧Il N o.dst=true∧(∀p∈nw,o.dst=some p.1)∧Ck hp nw=true) (fun h=>by cases h) (fun _ _=>rfl) (fun _ _=>.inl rfl) (fun _ _=>rfl) (fun _ _=>rfl) (fun v C2 _ hT h=>by
   obtain⟨u,nw,hu,hd,ha,hn,_⟩:=JC hm h;refine⟨u,nw,Aa5 hm (look v) hu,hd,hn,V4 ha fun i b hi=>?_⟩
   cases hh:hp i with
   |none=>rfl
   |some c=>exact absurd ((B5 ha).1 i b hi) (hT.keep i (by rw[hh];simp))) h
 obtain⟨v,nw,hv,hd,hn,ha⟩:=h1;refine RR hm hv hd ha ?_;have t2:∀t∈looks ops x,tm t=B9 tm o.dst v t:=fun t ht=>(Gf ap.ox t ht).symm
 rw[Lz (by rw[←Kf t2];exact hx)]
 refine Oy (P:=P) (N:=N) (o:=x) (tm:=tm) (tm':=B9 tm o.dst v) (hp:=hp) (Eo:=A6 hp nw) (Rel:=fun (a b:Option R)=>a=some r->b=some r) (fun h=>by cases h) (Hi t2) (fun i _=>?_) (fun d hxd=>?_) (fun i hi=>(Qz ha fun p hp e=>by have:=Vs hd (hn p hp);omega).symm) (fun u C2 Hc hT h=>?_) h
 ·by_cases hi:∃p∈nw,p.1=i
  ·obtain⟨⟨j,b⟩,Eo,rfl⟩:=hi;exact .inr ⟨(B5 ha).1 j b Eo,fun _ h=>by cases h⟩
  ·exact .inl (Qz ha fun p hp e=>hi ⟨p,hp,e⟩).symm
 ·refine (Qz ha fun p hp e=>?_).symm
  have:=hn p hp;rw[e] at this;exact ap.ne d hxd this
 ·obtain⟨v',nw',Tv,_,ha',_,h'⟩:=JC hm h;have he:=Aa5 (C2:=hp) hm (look u) Tv;rw[hv] at he;simp only[Option.some.injEq,Prod.mk.injEq,true_and] at he;obtain⟨rfl,rfl⟩:=he
  have hh:Hc=A6 C2 nw:=by
   refine Ao9 ha (fun i hi=>?_) (fun i hi=>?_) ha'
   ·exact (hT.same i (Qz ha hi).symm).symm
   ·obtain⟨⟨j,b⟩,Eo,rfl⟩:=hi;refine (hT.off j (Vs hd (hn _ Eo)) (fun e=>ap.ne j e (hn _ Eo)) (.inr ((B5 ha).1 j b Eo))).2
  rw[hh,←Oq ap.ne];exact h'
theorem Auy (hw:Has C P o s)(ap:GW C P ops x o)(ho:Jj C P ops o s.tm=true)
  (h:Ec C P N call ops x s (fun s1=>Ec C P N call ops o s1 K)=some r):Ec C P N call ops o s (fun s1=>Ec C P N call ops x s1 K)=some r:=by
 have hm:Kk P x.op=false:=ap.mo (by unfold Jj at ho;simp only[Bool.and_eq_true] at ho;exact ho.1)
 obtain⟨tm,hp⟩:=s;obtain⟨v,nw,hv,hd,ha,hn,h1⟩:=JC hm h;have t1:∀t∈looks ops o,B9 tm x.dst v t=tm t:=Gf ap.xo;change Ec C P N call ops o ⟨B9 tm x.dst v,A6 hp nw⟩ K=some r at h1;rw[Lz (by rw[Kf t1];exact ho)] at h1
 rw[Lz ho];have hMo:Wh C P o.op=true:=by unfold Jj at ho;simp only[Bool.and_eq_true] at ho;exact ho.1
 have Axl:∀i,DZ o tm hp i->hp i≠none:=by
  rintro i (⟨y,hy,hi⟩|⟨Yd,id,c,⟨y,hy,hi⟩,hc,p,Eo,hk⟩)
  ·exact hw.1 y hy i hi
  ·exact hw.2 hMo Yd y hy id hi c hc p Eo i hk
 refine Oy (P:=P) (N:=N) (o:=o) (tm:=B9 tm x.dst v) (tm':=tm) (hp:=A6 hp nw) (Eo:=hp) (Rel:=fun (a b:Option R)=>a=some r->b=some r) (fun h=>by cases h) (Hi t1) (fun i hi=>?_) (fun d hod=>?_) (fun i hi=>Qz ha fun p hp e=>by have:=Vs hd (hn p hp);omega) (fun u C2 Hc hT h=>?_) h1
 ·refine .inl (Qz ha fun p C2 e=>Axl i hi ?_)
  rw[←e];exact (B5 ha).1 p.1 p.2 C2
 ·refine Qz ha fun p C2 e=>?_
  have:=hn p C2;rw[e] at this;exact ap.ne d this hod
 ·have Uc:∀p∈nw,C2 p.1=A6 hp nw p.1∧Hc p.1=none:=by
   intro p hp2;have hno:=(B5 ha).1 p.1 p.2 hp2;have h3:=hT.off p.1 (Vs hd (hn p hp2)) (fun e=>ap.ne p.1 (hn p hp2) e) (.inl fun hL=>Axl _ hL hno)
   exact⟨h3.1,h3.2.trans hno⟩
  have ha':Ck Hc nw=true:=V4 ha fun i b hi=>(Uc (i,b) hi).2
  refine RR hm (Aa5 hm (fun t ht=>(Gf ap.ox t ht).symm) hv) hd ha' ?_
  have hh:C2=A6 Hc nw:=by
   refine Ao9 ha (fun i hi=>?_) (fun i hi=>?_) ha'
   ·exact hT.same i (Qz ha hi)
   ·obtain⟨p,hp2,rfl⟩:=hi;exact (Uc p hp2).1
  rw[←Oq ap.ne,←hh];exact h
theorem A5o (hw:Has C P o s)(ap:GW C P ops x o)
  (h:Ec C P N call ops x s (fun s1=>Ec C P N call ops o s1 K)=some r):Ec C P N call ops o s (fun s1=>Ec C P N call ops x s1 K)=some r:=by
 cases hx:Jj C P ops x s.tm
 ·cases ho:Jj C P ops o s.tm
  ·exact Ajs hw ap.xo ap.ne ap.ox hx ho h
  ·exact Auy hw ap ho h
 ·exact Avb ap hx h
theorem Oi (h:Yp P o.op=true):Wh C P o.op=false:=by
 unfold Yp at h;split at h
 ·rename_i ho;rw[ho];rfl
 ·rename_i ho;rw[ho];rfl
 ·cases h
def UH (P:Program)(ops:Array Oper)(o:Oper)(tm:Nat->PV):Prop:=Yp P o.op=true∨H5 ops o tm=some false
theorem CW {tm tm':Nat->PV}(h:∀t∈looks ops o,tm t=tm' t)(hl:UH P ops o tm):UH P ops o tm':=by
 rcases hl with hl|hl
 ·exact .inl hl
 ·exact .inr (by rw[←O7 h];exact hl)
theorem WG {tm:Nat->PV}(hl:UH P ops o tm):Jj C P ops o tm=false:=by
 rcases hl with hl|hl
 ·simp[Jj,Oi hl]
 ·simp[Jj,hl]
theorem Aj1 {q:DA}(hl:UH P ops o s.tm)(h:gE C P N call ops o s=some q):q.2.1=[]∧q.2.2=[]:=by
 unfold gE at h;split at h
 ·cases h
 ·rename_i hv
  have hl:Yp P o.op=true:=by
   rcases hl with hl|hl
   ·exact hl
   ·rw[hv] at hl;cases hl
  rw[Oi hl] at h;have h:Alk C P N call o s=some q:=h;unfold Yp at hl;split at hl
  ·rename_i t a ho;unfold Alk TB at h;rw[ho] at h
   have:=YL (P:=P) (f:=rd s.hp) (f':=rd s.hp) (g:=Ny s.hp) (g':=Ny s.hp) (t:=t) (x:=Cw s.tm a) (Rel:=fun (a b:Option DA)=>∀q,a=some q->q.2.1=[]∧q.2.2=[])
    (K:=fun v=>some (v,[],[])) (K':=fun v=>some (v,[],[])) (fun _ h=>by cases h) (fun _ _=>.inl ⟨rfl,rfl⟩) (fun v q hq=>by cases hq;exact⟨rfl,rfl⟩)
   exact this q h
  ·rename_i src dst y ho;unfold Alk TB at h;rw[ho] at h;simp only at h;unfold SL at h;split at hl
   ·rename_i hd;rw[hd] at h;simp only at h;split at h
    ·obtain⟨_,_,h⟩:=Er h;obtain⟨_,_,h⟩:=Dt h;cases h;exact⟨rfl,rfl⟩
    ·split at h
     ·exact HL (f:=Ny s.hp) (f':=Ny s.hp) (K':=fun _ _=>(none:Option DA)) (Rel:=fun (a _:Option DA)=>a=some q->q.2.1=[]∧q.2.2=[]) (fun h=>by cases h) (fun _ _=>.inl rfl) (fun n c h=>by
       obtain⟨_,h⟩:=Ax h;obtain⟨_,_,h⟩:=Dt h;obtain⟨_,_,h⟩:=Dt h;cases h;exact⟨rfl,rfl⟩) h
     ·cases h
    ·cases h
   ·cases hl
  ·cases hl
 ·cases h;exact⟨rfl,rfl⟩
theorem Aln {tm tm':Nat->PV}{hp:Nat->Option Bx}(h:∀t∈looks ops o,tm t=tm' t){i:Nat}(hi:DZ o tm hp i):DZ o tm' hp i:=by
 have he:=Hi (ops:=ops) (o:=o) h;rcases hi with⟨y,hy,hi⟩|⟨Yd,id,c,⟨y,hy,hi⟩,hc,q⟩
 ·exact .inl ⟨y,hy,by rw[←he y hy];exact hi⟩
 ·exact .inr ⟨Yd,id,c,⟨y,hy,by rw[←he y hy];exact hi⟩,hc,q⟩
theorem Axo {hp C2:Nat->Option Bx}{i:Nat}(h:C2 i=hp i):rd C2 i=rd hp i∧Ny C2 i=Ny hp i:=by
 unfold rd Ny;rw[h];exact⟨rfl,rfl⟩
theorem JV {tm:Nat->PV}{hp:Nat->Option Bx}(hl:UH P ops o tm)(h:Ec C P N call ops o ⟨tm,hp⟩ K=some r):
  ∃v,gE C P N call ops o ⟨tm,hp⟩=some (v,[],[])∧Il N o.dst=true∧K ⟨B9 tm o.dst v,hp⟩=some r:=by
 rw[Od (WG hl)] at h;cases e:gE C P N call ops o ⟨tm,hp⟩ with
 |none=>rw[e] at h;cases h
 |some q=>
  obtain⟨v,fz,nw⟩:=q;obtain⟨h1,h2⟩:=Aj1 hl e;simp only at h1 h2;subst h1;subst h2;rw[e] at h;obtain⟨hb,h⟩:=Ax h;simp only[Bool.and_eq_true] at hb;exact⟨v,rfl,hb.1,h⟩
theorem TK {tm:Nat->PV}{hp:Nat->Option Bx}{v:PV}(hl:UH P ops o tm)(e:gE C P N call ops o ⟨tm,hp⟩=some (v,[],[])) (hd:Il N o.dst=true)(h:K ⟨B9 tm o.dst v,hp⟩=some r):Ec C P N call ops o ⟨tm,hp⟩ K=some r:=by
 rw[Od (WG hl),e];show Ar _ _=_;have ha:Ck hp []=true:=rfl;simp only[hd,ha,Bool.and_self];exact h
theorem Avv (hw:Has C P o s)(xo:∀d,x.dst=some d->d ∉ looks ops o)(ne:∀d,x.dst=some d->o.dst≠some d)(ox:∀d,o.dst=some d->d ∉ looks ops x)(hl:UH P ops o s.tm)
  (Aem:∀y∈o.op.operands.toList,∀i∈B8 (Cw s.tm y),¬DZ x s.tm s.hp i) (hx:Jj C P ops x s.tm=true)
  (h:Ec C P N call ops x s (fun s1=>Ec C P N call ops o s1 K)=some r):Ec C P N call ops o s (fun s1=>Ec C P N call ops x s1 K)=some r:=by
 rw[Lz hx] at h;obtain⟨tm,hp⟩:=s;have look:∀v,∀t∈looks ops o,B9 tm x.dst v t=tm t:=fun v=>Gf xo
 have back:∀{u:PV} {C2:Nat->Option Bx} {q:DA},(∀y∈o.op.operands.toList,∀i∈B8 (Cw tm y),C2 i=hp i)->gE C P N call ops o ⟨B9 tm x.dst u,C2⟩=some q->gE C P N call ops o ⟨tm,hp⟩=some q:=
  fun hh e=>FA (s:=⟨B9 tm x.dst _,_⟩) (s':=⟨tm,hp⟩) (look _) (fun _ y hy i hi=>.inl (Axo (hh y hy i hi))) e
 have h1:=Oy (P:=P) (N:=N) (o:=x) (tm:=tm) (tm':=tm) (hp:=hp) (Eo:=hp) (K:=fun s1=>Ec C P N call ops o s1 K) (K':=fun _=>none)
  (Rel:=fun (a:Option R)(_:Option R)=>a=some r->∃v,gE C P N call ops o ⟨tm,hp⟩=some (v,[],[])∧Il N o.dst=true) (fun h=>by cases h) (fun _ _=>rfl) (fun _ _=>.inl rfl) (fun _ _=>rfl) (fun _ _=>rfl) (fun v C2 _ hT h=>by
   obtain⟨u,hu,hd,_⟩:=JV (CW (fun t ht=>(look v t ht).symm) hl) h
   exact⟨u,back (fun y hy i hi=>hT.far i (Aem y hy i hi) (hw.1 y hy i hi)) hu,hd⟩) h
 obtain⟨v,hv,hd⟩:=h1;refine TK hl hv hd ?_;have t2:∀t∈looks ops x,tm t=B9 tm o.dst v t:=fun t ht=>(Gf ox t ht).symm
 rw[Lz (by rw[←Kf t2];exact hx)]
 refine Oy (P:=P) (N:=N) (o:=x) (tm:=tm) (tm':=B9 tm o.dst v) (hp:=hp) (Eo:=hp) (Rel:=fun (a b:Option R)=>a=some r->b=some r) (fun h=>by cases h) (Hi t2) (fun _ _=>.inl rfl) (fun _ _=>rfl) (fun _ _=>rfl) (fun u C2 Hc hT h=>?_) h
 have e1:C2=Hc:=funext fun i=>hT.same i rfl
 subst e1;obtain⟨v',Tv,_,h'⟩:=JV (CW (fun t ht=>(look u t ht).symm) hl) h
 have he:=back (fun y hy i hi=>hT.far i (fun hR=>Aem y hy i hi (Aln (fun t ht=>(t2 t ht).symm) hR)) (hw.1 y hy i hi)) Tv
 rw[hv] at he;simp only[Option.some.injEq,Prod.mk.injEq,and_true] at he;subst he;rw[←Oq ne];exact h'
theorem Avl (xo:∀d,x.dst=some d->d ∉ looks ops o)(ne:∀d,x.dst=some d->o.dst≠some d)(ox:∀d,o.dst=some d->d ∉ looks ops x)(hl:UH P ops x s.tm)
  (Aem:∀y∈x.op.operands.toList,∀i∈B8 (Cw s.tm y),¬DZ o s.tm s.hp i) (ho:Jj C P ops o s.tm=true)
  (h:Ec C P N call ops x s (fun s1=>Ec C P N call ops o s1 K)=some r):Ec C P N call ops o s (fun s1=>Ec C P N call ops x s1 K)=some r:=by
 obtain⟨tm,hp⟩:=s;obtain⟨v,hv,hd,h1⟩:=JV hl h;have t1:∀t∈looks ops o,B9 tm x.dst v t=tm t:=Gf xo;rw[Lz (by rw[Kf t1];exact ho)] at h1
 rw[Lz ho];refine Oy (P:=P) (N:=N) (o:=o) (tm:=B9 tm x.dst v) (tm':=tm) (hp:=hp) (Eo:=hp) (Rel:=fun (a b:Option R)=>a=some r->b=some r) (fun h=>by cases h) (Hi t1) (fun _ _=>.inl rfl) (fun _ _=>rfl) (fun _ _=>rfl) (fun u C2 Hc hT h=>?_) h1
 have e1:C2=Hc:=funext fun i=>hT.same i rfl
 subst e1;have t2:∀t∈looks ops x,tm t=B9 tm o.dst u t:=fun t ht=>(Gf ox t ht).symm
 refine TK (CW t2 hl) (FA (s:=⟨tm,hp⟩) (s':=⟨B9 tm o.dst u,C2⟩) t2 (fun _ y hy i hi=>?_) hv) hd ?_
 ·have hi:i∈B8 (Cw tm y):=by rw[Hi t2 y hy];exact hi
  by_cases hn:hp i=none
  ·exact .inr ⟨Ajl hn,Pe hn⟩
  ·obtain⟨h3,h4⟩:=Axo (hT.far i (Aem y hy i hi) hn);exact .inl ⟨h3.symm,h4.symm⟩
 ·rw[←Oq ne];exact h
def WC (P:Program)(x:Oper)(s s1:St):Prop:=(∀t,x.dst≠some t->s1.tm t=s.tm t)∧(∀i,s.hp i≠none->s1.hp i≠none)∧(Kk P x.op=false->∀i,s.hp i≠none->s1.hp i=s.hp i)
theorem S7 {tm:Nat->PV}{d:Option Tmp}{v:PV}{t:Nat}(h:d≠some t):B9 tm d v t=tm t:=by
 cases d with
 |none=>rfl
 |some d=>exact Aq _ _ (by rintro rfl;exact h rfl)
theorem RG {K':St->Option R}(h:Ec C P N call ops x s K=some r)(hK:∀s1,WC P x s s1->K s1=some r->K' s1=some r):Ec C P N call ops x s K'=some r:=by
 cases hx:Jj C P ops x s.tm
 ·rw[Od hx] at h ⊢;cases ex:gE C P N call ops x s with
  |none=>rw[ex] at h;cases h
  |some q=>
   rw[ex] at h;obtain⟨hb,h1⟩:=Ax h;simp only[Bool.and_eq_true] at hb;show Ar _ _=_;rw[hb.1,hb.2];refine hK _ ⟨fun t ht=>S7 ht,fun i hi=>Rv hb.2 hi,fun hm i hi=>?_⟩ h1
   show A6 (Ag s.hp q.2.1) q.2.2 i=s.hp i;rw[Id hb.2 hi,((Y3 ex).1 hm).1];simp
 ·rw[Lz hx] at h ⊢
  exact PX (P:=P) (N:=N) (o:=x) (tm:=s.tm) (tm':=s.tm) (hp:=s.hp) (Rel:=fun (a b:Option R)=>a=some r->b=some r) (fun h=>by cases h) (fun _ _=>rfl) (fun v C2 hh h=>hK _ ⟨fun t ht=>S7 ht,hh,fun hm=>by
   have hM:Wh C P x.op=true:=by unfold Jj at hx;simp only[Bool.and_eq_true] at hx;exact hx.1
   rw[FE hM] at hm;cases hm⟩ h) h
theorem Has.keeps {s1:St}(h:Has C P o s)(ap:GW C P ops x o)(hk:WC P x s s1):Has C P o s1:=by
 have hop:∀y∈o.op.operands.toList,Cw s1.tm y=Cw s.tm y:=fun y hy=>Hi (ops:=ops) (o:=o) (fun t ht=>hk.1 t fun hd=>ap.xo t hd ht) y hy
 refine⟨fun y hy i hi=>?_,fun hM hA y hy i hi c hc p hp k hkk=>?_⟩
 ·rw[hop y hy] at hi;exact hk.2.1 i (h.1 y hy i hi)
 ·rw[hop y hy] at hi;have hi0:=h.1 y hy i hi;rw[hk.2.2 (ap.mo hM) i hi0] at hc;exact hk.2.1 k (h.2 hM hA y hy i hi c hc p hp k hkk)
theorem PK:∀(l:List Oper){s:St}{K:St->Option R},Has C P o s->(∀x∈l,GW C P ops x o)->Rn C P N call ops l s (fun s1=>Ec C P N call ops o s1 K)=some r->Ec C P N call ops o s (fun s1=>Rn C P N call ops l s1 K)=some r
 |[],_,_,_,_,h=>h
 |x::l,s,K,hw,ap,h=>by
  refine A5o hw (ap x (by simp)) ?_
  refine RG (K:=fun s1=>Rn C P N call ops l s1 (fun s2=>Ec C P N call ops o s2 K)) h fun s1 hk h1=>?_
  exact PK l (hw.keeps (ap x (by simp)) hk) (fun y hy=>ap y (List.mem_cons_of_mem _ hy)) h1
theorem Yg:∀(l l':List Oper){s:St}{K:St->Option R},Rn C P N call ops (l++l') s K=Rn C P N call ops l s (fun s1=>Rn C P N call ops l' s1 K)
 |[],_,_,_=>rfl
 |x::l,l',s,K=>by
  show Ec C P N call ops x s (fun s1=>Rn C P N call ops (l++l') s1 K)=Ec C P N call ops x s (fun s1=>Rn C P N call ops l s1 _)
  congr 1
  funext s1
  exact Yg l l'
theorem Akw {l l':List Oper}(hw:Has C P o s)(ap:∀x∈l,GW C P ops x o)(h:Rn C P N call ops (l++o::l') s K=some r):Ec C P N call ops o s (fun s1=>Rn C P N call ops (l++l') s1 K)=some r:=by
 rw[Yg] at h;have:=PK l hw ap h;refine RG this fun s1 _ h1=>?_
 rw[Yg];exact h1
end
open Go.RowKit
section
variable {R:Type} {r:R} {P:Program} {N:Nat} {w0:World} {X0:Fz} {Y:Nat->Prop} {β β':Bt} {s:St} {a:Act} {w w':World} {o:Oper} {ops:Array Oper} {C:Ji} {call:Af} {K:St->Option R}
theorem Wb (h:B3 N w0 X0 Y β s a w){j d:Nat}(hd:(ops[j]?).bind (·.dst)=some d) {v:Value}(ht:s.tm d=.sc v):yielded ops a.tmps j=match v with | .bool b=>some b|_=>none:=by
 have Cc:d<N:=by
  rcases Nat.lt_or_ge d N with h'|h'
  ·exact h'
  ·rw[h.tmo d h'] at ht;cases ht
 have hv:=h.tms d Cc;rw[ht] at hv;have hv:=L7 hv;have Adw:d<a.tmps.size:=by rw[h.tsz];exact Cc
 have he:a.tmps[d]?=some v:=by
  rw[Array.getElem?_eq_getElem Adw];simp[Adw] at hv;rw[hv]
 unfold yielded;rw[hd];simp only[Option.bind_some,he];cases v<;>rfl
theorem DH (h:B3 N w0 X0 Y β s a w){G:U7}(Jr:LO P G w0 X0)(C6:∀f args res,call f args=some res->Da G P f args res){i:Nat}(hi:ops[i]?=some o) (hk:Ec C P N call ops o s K=some r):
  ∃s',K s'=some r∧∀(next:Act->World->Prop) (Q:Exit->Act->World->Prop),(∀a' w' β',B3 N w0 X0 Y β' s' a' w'->next a' w')->wpOp P ops Q i next a w:=by
 rw[OL] at hk
 have hw:∀b,H5 ops o s.tm=some b->Region.wanted o (yielded ops a.tmps)=b:=by
  intro b hb;unfold H5 at hb;unfold Region.wanted;cases hg:o.guard with
  |none=>rw[hg] at hb;simpa using hb
  |some q=>
   obtain⟨j,want⟩:=q;rw[hg] at hb;simp only at hb ⊢;cases hd:(ops[j]?).bind (·.dst) with
   |none=>rw[hd] at hb;cases hb
   |some d=>
    rw[hd] at hb;simp only at hb;split at hb
    ·rename_i b' ht;rw[Wb h hd ht];simp at hb;rw[←hb];cases b'<;>cases want<;>rfl
    ·rename_i ht;rw[Wb h hd ht];simp at hb;rw[hb];rfl
    ·cases hb
 split at hk
 ·cases hk
 ·rename_i hv;obtain⟨s',hs',hn⟩:=SH h Jr C6 hk;refine⟨s',hs',fun next Q PJ=>?_⟩
  unfold wpOp;rw[hi];simp only[hw _ hv,if_true];exact .inl (hn next Q PJ)
 ·rename_i hv;obtain⟨hd,hk⟩:=Ax hk;refine⟨_,hk,fun next Q PJ=>?_⟩
  unfold wpOp;rw[hi];simp only[hw _ hv];refine PJ _ _ β (h.put hd (A4.sc _) (by simp[B8,Cl,Az]))
theorem B3.known (h:B3 N w0 X0 Y β s a w){d:Nat}(hd:s.tm d=.ub):∃b,B3 N w0 X0 Y β ⟨Dd s.tm d (.sc (.bool b)),s.hp⟩ a w:=by
 have Cc:d<N:=by
  rcases Nat.lt_or_ge d N with h'|h'
  ·exact h'
  ·rw[h.tmo d h'] at hd;cases hd
 have hu:=h.tms d Cc;rw[hd] at hu;have Mw:A4 w (De s.hp β Y) .ub (a.tmps.getD d undef):=hu
 obtain⟨b,hv⟩:∃b,a.tmps.getD d undef=.bool b:=by
  generalize a.tmps.getD d undef=x at Mw;cases Mw with
  |ub b=>exact⟨b,rfl⟩
 refine⟨b,⟨h.dfr,h.tsz,fun i hi=>?_,fun i hi=>?_,h.box,h.inj,h.blt,fun i hi=>?_,h.wfB,h.ownd,h.rngB,h.pin,h.stp,h.Yx,h.Ylt,h.fr⟩⟩
 ·show Dd s.tm d _ i=_;rw[Aq _ _ (by omega)]
  exact h.tmo i hi
 ·by_cases e:i=d
  ·subst e;show Ed _ _ _ (Dd s.tm i _ i) _;rw[A3,hv];exact A4.sc _
  ·show Ed _ _ _ (Dd s.tm d _ i) _;rw[Aq _ _ e];exact h.tms i hi
 ·by_cases e:i=d
  ·subst e;show ∀id∈B8 (Dd s.tm i _ i),_;rw[A3];simp[B8,Cl,Az]
  ·show ∀id∈B8 (Dd s.tm d _ i),_;rw[Aq _ _ e];exact h.wfT i hi
theorem XQ {x y:Option R}(h:Xj x y=some r):x=some r∧y=some r:=by
 unfold Xj at h;split at h
 ·rename_i e;exact⟨h,e ▸ h⟩
 ·cases h
theorem Wy (h:B3 N w0 X0 Y β s a w){F:St->Option R}(hk:Ag8 ops o s F=some r):∃s',F s'=some r∧B3 N w0 X0 Y β s' a w:=by
 unfold Ag8 at hk;split at hk
 ·exact⟨s,hk,h⟩
 ·split at hk
  ·exact⟨s,hk,h⟩
  ·split at hk
   ·rename_i d _ ht;obtain⟨b,hb⟩:=h.known ht;obtain⟨h1,h2⟩:=XQ hk;cases b
    ·exact⟨_,h2,hb⟩
    ·exact⟨_,h1,hb⟩
   ·exact⟨s,hk,h⟩
theorem EZ {G:U7}(Jr:LO P G w0 X0)(C6:∀f args res,call f args=some res->Da G P f args res){Q:Exit->Act->World->Prop}(hQ:∀s' a' w' β',K s'=some r->B3 N w0 X0 Y β' s' a' w'->Q .normal a' w'):
  ∀(l:List Nat) (os:List Oper),l.length=os.length->(∀(k i:Nat),l[k]?=some i->ops[i]?=os[k]?)->∀{s:St} {a:Act} {w:World} {β:Bt},B3 N w0 X0 Y β s a w->K4 C P N call ops os s K=some r->wpOps P ops Q l a w
 |[],[],_,_,s,a,w,β,h,hk=>by
  show Q .normal a w;exact hQ s a w β hk h
 |[],_::_,hl,_,_,_,_,_,_,_=>by cases hl
 |_::_,[],hl,_,_,_,_,_,_,_=>by cases hl
 |i::l,o::os,hl,hi,s,a,w,β,h,hk=>by
  rw[wpOps_cons];obtain⟨s1,hk,h⟩:=Wy h hk;obtain⟨s',hs',hn⟩:=DH h Jr C6 (by simpa using hi 0 i rfl) hk
  exact hn _ _ fun a' w' β' h'=>EZ Jr C6 hQ l os (by simpa using hl) (fun k j hj=>by simpa using hi (k+1) j (by simpa using hj)) h' hs'
theorem B3.drew (h:B3 N w0 X0 Y β s a w):B3 N w0 X0 Y β s a { w with drawn:=w.drawn+1 }:=by
 have:=h.stepR (d:=none) (v:=.top) (nw:=[]) (val:=undef) (w':={ w with drawn:=w.drawn+1 }) (β':=β) rfl rfl
  ⟨rfl,rfl,rfl,⟨Nat.le_refl _,fun _ _ _=>rfl,fun _ _=>Nat.le_refl _⟩,fun _ _=>rfl,by simp,by simp,by simp,by simp,by simp,.top _,by simp[B8,Cl,Az]⟩
 exact this
theorem ZK (h:B3 N w0 X0 Y β s a w){G:U7}(Jr:LO P G w0 X0)(C6:∀f args res,call f args=some res->Da G P f args res){id:Nat}{Q:Exit->Act->World->Prop}
  (hk:K4 C P N call ops ops.toList s K=some r)(hQ:∀s' a' w' β',K s'=some r->B3 N w0 X0 Y β' s' a' w'->Q .normal a' w'):(Code.region id ops false).wp P Q a w:=by
 refine wp_region (EZ Jr C6 hQ (List.range ops.size) ops.toList (by simp) (fun k i hi=>?_) h hk)
 rw[List.getElem?_range] at hi
 ·simp at hi;subst hi;simp
 ·rcases Nat.lt_or_ge k ops.size with h'|h'
  ·exact h'
  ·rw[List.getElem?_eq_none (by simpa using h')] at hi;cases hi
def Qr (n:Nat)(listed:Array Bool):List Nat:=(List.range n).filter fun i=> !listed.getD i true
def Ay6 (ops:Array Oper)(listed:Array Bool)(o:Oper):Prop:=∀e∈o.after,Region.binds .any e=true->listed.getD e.on false=true
theorem testBit_or {a b j:Nat}:(a ||| b).testBit j=(a.testBit j||b.testBit j):=Nat.testBit_or a b j
theorem VV {acc:List Nat}{j:Nat}:∀(es:List Edge)(v:Nat),(es.foldl (fun s e=>bif Region.binds .any e then s ||| 2 ^ e.on ||| acc.getD e.on 0 else s) v).testBit j=true ->
  v.testBit j=true∨∃e∈es,Region.binds .any e=true∧(j=e.on∨(acc.getD e.on 0).testBit j=true)
 |[],v,h=>.inl h
 |e::es,v,h=>by
  rcases VV es _ h with h|⟨e',Rc,h⟩
  ·cases hb:Region.binds .any e<;>simp only[hb] at h
   ·exact .inl h
   ·simp only[cond_true,Nat.testBit_or,Bool.or_eq_true] at h;rcases h with (h|h)|h
    ·exact .inl h
    ·refine .inr ⟨e,by simp,hb,.inl ?_⟩
     rw[Nat.testBit_two_pow] at h;exact (of_decide_eq_true h).symm
    ·exact .inr ⟨e,by simp,hb,.inr h⟩
  ·exact .inr ⟨e',by simp[Rc],h⟩
theorem Wv {listed:Array Bool}(hc:∀(j:Nat) oj,ops[j]?=some oj->listed.getD j false=true->Ay6 ops listed oj):
  ∀(rest done:List Oper) (acc:List Nat),ops.toList=done++rest->acc.length=done.length ->
   (∀(k:Nat) o,done[k]?=some o->Ay6 ops listed o->∀j,(acc.getD k 0).testBit j=true->listed.getD j false=true) ->
   ∀(k:Nat) o,ops[k]?=some o->Ay6 ops listed o->∀j,((Lo rest acc).getD k 0).testBit j=true->listed.getD j false=true
 |[],done,acc,he,_,h,k,o,ho,hf,j,hj=>by
  refine h k o ?_ hf j hj;rw[List.append_nil] at he;rw[←he]
  simpa using ho
 |o'::rest,done,acc,he,hl,h,k,o,ho,hf,j,hj=>by
  refine Wv hc rest (done++[o']) _ (by rw[he];simp) (by simp[hl]) ?_ k o ho hf j hj
  intro k o ho hf j hj;rcases Nat.lt_trichotomy k done.length with Cc|heq|hgt
  ·rw[List.getElem?_append_left Cc] at ho;rw[List.getD_eq_getElem?_getD,List.getElem?_append_left (by omega),←List.getD_eq_getElem?_getD] at hj
   exact h k o ho hf j hj
  ·subst heq;simp at ho;subst ho;rw[←hl] at hj;simp only[List.getD_eq_getElem?_getD,List.getElem?_append_right (Nat.le_refl _),Nat.sub_self,List.getElem?_cons_zero,Option.getD_some] at hj
   have hj:(o'.after.toList.foldl (fun s e=>bif Region.binds .any e then s ||| 2 ^ e.on ||| acc.getD e.on 0 else s) 0).testBit j=true:=by
    simpa only[List.getD_eq_getElem?_getD] using hj
   rcases VV _ _ hj with h0|⟨e,hm,hb,h1⟩
   ·simp at h0
   ·have IA:=hf e (by simpa using hm) hb
    rcases h1 with h1|h1
    ·rw[h1];exact IA
    ·cases hd:done[e.on]? with
     |none=>
      have:acc.getD e.on 0=0:=by
       rw[List.getD_eq_getElem?_getD,List.getElem?_eq_none (by rw[hl];exact List.getElem?_eq_none_iff.1 hd)]
       rfl
      rw[this] at h1;simp at h1
     |some oe=>
      have hoe:ops[e.on]?=some oe:=by
       rw[←Array.getElem?_toList,he,List.getElem?_append_left (by
        rcases Nat.lt_or_ge e.on done.length with h'|h'
        ·exact h'
        ·rw[List.getElem?_eq_none h'] at hd;cases hd)]
       exact hd
      exact h e.on oe hd (hc e.on oe hoe IA) j h1
  ·rw[List.getElem?_eq_none (by simp;omega)] at ho
   cases ho
theorem GG {bs:List Nat}:∀(l:List Oper)(n:Nat),OP C P ops bs l n=true->∀(k:Nat) o,l[k]?=some o->∀(j:Nat) x,ops[j]?=some x->j<n+k->PS C P ops x o=true->(bs.getD (n+k) 0).testBit j=true
 |[],_,_,k,o,ho,_,_,_,_,_=>by simp at ho
 |o'::l,n,h,k,o,ho,j,x,hx,hj,X6=>by
  simp only[OP,Bool.and_eq_true] at h;cases k with
  |zero=>
   simp at ho;subst ho
   have:=List.all_eq_true.1 h.1 (x,j) (by
    rw[List.mem_zipIdx_iff_getElem?]
    simpa using hx)
   simp only[X6,Bool.not_true,Bool.or_false,Bool.or_eq_true,Bool.not_eq_true'] at this;rcases this with h'|h'
   ·have:Nat.blt j n=true:=Nat.ble_eq_true_of_le (by omega)
    rw[this] at h';cases h'
   ·exact h'
  |succ k=>
   have:=GG l (n+1) h.2 k o (by simpa using ho) j x hx (by omega) X6
   rwa [show n+(k+1)=n+1+k by omega]
theorem Nb {n i:Nat}{listed:Array Bool}:i∈Qr n listed↔i<n∧listed.getD i true=false:=by
 unfold Qr;simp[List.mem_filter]
theorem DT {n i:Nat}{listed:Array Bool}(hi:i∈Qr n listed)(Lw:listed.size=n):∃l1 l2,Qr n listed=l1++i::l2∧Qr n (listed.setIfInBounds i true)=l1++l2∧∀j∈l1,j<i:=by
 obtain⟨Cc,Nz⟩:=Nb.1 hi
 have hr:List.range n=List.range i++i::(List.range (n-i-1)).map (i+1 + ·):=by
  conv=>lhs;rw[show n=i+(1+(n-i-1)) by omega]
  rw[List.range_add,List.range_add];simp[Nat.add_assoc]
 refine⟨(List.range i).filter fun i=> !listed.getD i true,((List.range (n-i-1)).map (i+1 + ·)).filter fun i=> !listed.getD i true,?_,?_,fun j hj=>?_⟩
 ·unfold Qr;rw[hr,List.filter_append,List.filter_cons_of_pos (by rw[Nz];rfl)]
 ·unfold Qr;rw[hr,List.filter_append,List.filter_cons_of_neg (by simp[Lw,Cc])]
  congr 1
  ·refine List.filter_congr fun j hj=>?_
   rw[getD_set_ne true (by have:=List.mem_range.1 hj;omega)]
  ·refine List.filter_congr fun j hj=>?_
   obtain⟨k,_,rfl⟩:=List.mem_map.1 hj;rw[getD_set_ne true (by omega)]
 ·exact List.mem_range.1 (List.mem_filter.1 hj).1
theorem An1 (h:B3 N w0 X0 Y β s a w)(o:Oper):Has C P o s:=by
 refine⟨fun y _ i hi=>G6 h y i hi,fun _ _ y _ i hi c hc p hp k hk=>h.wfB i c hc p hp k hk⟩
theorem XU (Anv:(ops.toList.zipIdx.all fun q=>q.1.after.toList.all fun e=> !Region.binds .any e||Nat.blt e.on q.2)=true) {listed:Array Bool}(inv:HeadInv .any ops ops.size listed)(hr:Region.ready .any ops listed=[]):Qr ops.size listed=[]:=by
 cases hp:Qr ops.size listed with
 |nil=>rfl
 |cons i l=>
  exfalso;have hi:i∈Qr ops.size listed:=by rw[hp];simp
  obtain⟨Cc,Nz⟩:=Nb.1 hi;obtain⟨l1,l2,h1,_,h3⟩:=DT hi inv.size
  have IA:l1=[]:=by
   cases l1 with
   |nil=>rfl
   |cons j l1=>
    rw[hp] at h1;simp at h1;have:=h3 j (by simp)
    omega
  subst IA
  have A8n:∀j,j<i->listed.getD j false=true:=by
   intro j hj;cases hh:listed.getD j false with
   |true=>rfl
   |false=>
    have:j∈Qr ops.size listed:=Nb.2 ⟨by omega,getD_in (by rw[inv.size];omega) hh⟩
    have hs:(Qr ops.size listed).Pairwise (· < ·):=List.Pairwise.filter _ List.pairwise_lt_range
    rw[h1] at this hs;simp at this;rcases this with e|e
    ·omega
    ·have:=(List.pairwise_cons.1 hs).1 j e;omega
  have:i∈Region.ready .any ops listed:=by
   refine mem_ready.2 ⟨Nz,ops[i],Array.getElem?_eq_getElem Cc,fun e he hb=>A8n _ ?_⟩
   have:=List.all_eq_true.1 Anv (ops[i],i) (by
    rw[List.mem_zipIdx_iff_getElem?];simp[Cc])
   have:=List.all_eq_true.1 this e (Array.mem_toList_iff.2 he);simp only[hb,Bool.not_true,Bool.false_or] at this;exact Nat.lt_of_succ_le (Nat.le_of_ble_eq_true this)
  rw[hr] at this;simp at this
theorem Aak {G:U7}(Jr:LO P G w0 X0)(C6:∀f args res,call f args=some res->Da G P f args res)(hok:RH C P ops=true){Q:Exit->Act->World->Prop}(hQ:∀s' a' w' β',K s'=some r->B3 N w0 X0 Y β' s' a' w'->Q .normal a' w'):
  ∀(fuel:Nat) {listed:Array Bool} {s:St} {a:Act} {w:World} {β:Bt},HeadInv .any ops ops.size listed->(Qr ops.size listed).length=fuel->B3 N w0 X0 Y β s a w->Rn C P N call ops ((Qr ops.size listed).filterMap (ops[·]?)) s K=some r->wpAny P .any ops Q fuel listed a w:=by
 unfold RH at hok;simp only[Bool.and_eq_true] at hok;obtain⟨Anv,A0b⟩:=hok;intro fuel
 induction fuel with
 |zero=>
  intro listed s a w β inv hf h hk;have hp:=List.eq_nil_of_length_eq_zero hf;rw[hp] at hk;refine⟨?_,hQ s a w β hk h⟩;cases hr:Region.ready .any ops listed with
  |nil=>rfl
  |cons i l=>
   exfalso;have hi:i∈Region.ready .any ops listed:=by rw[hr];simp
   obtain⟨Nz,o,ho,_⟩:=mem_ready.1 hi;have:i∈Qr ops.size listed:=Nb.2 ⟨(Array.getElem?_eq_some_iff.1 ho).1,Nz⟩;rw[hp] at this;simp at this
 |succ fuel ih=>
  intro listed s a w β inv hf h hk;refine⟨fun hr=>?_,fun i hi=>?_⟩
  ·rw[XU Anv inv hr] at hf;cases hf
  ·obtain⟨Nz,o,ho,Wc⟩:=mem_ready.1 hi;have Cc:i<ops.size:=(Array.getElem?_eq_some_iff.1 ho).1;obtain⟨l1,l2,h1,h2,h3⟩:=DT (Nb.2 ⟨Cc,Nz⟩) inv.size;rw[h1,List.filterMap_append,List.filterMap_cons_some ho] at hk
   have Yd:∀x∈l1.filterMap (ops[·]?),GW C P ops x o:=by
    intro x hx;obtain⟨j,hj,hxj⟩:=List.mem_filterMap.1 hx;refine Aoz ?_;cases X6:PS C P ops x o with
    |false=>rfl
    |true=>
     exfalso;have VF:=GG ops.toList 0 A0b i o (by simpa using ho) j x hxj (by have:=h3 j hj;omega) X6
     rw[Nat.zero_add] at VF;have hjl:=Wv (listed:=listed) (fun j oj hj hl=>inv.closed j oj hj hl) ops.toList [] [] (by simp) rfl (by simp) i o ho Wc j VF
     have:j∈Qr ops.size listed:=by rw[h1];simp[hj]
     have:=getD_both (Nb.1 this).2;rw[hjl] at this;cases this
   obtain⟨s',hs',hn⟩:=DH h Jr C6 ho (Akw (An1 h o) Yd hk);refine hn _ _ fun a' w' β' h'=>ih (inv.set hi Cc) ?_ h' ?_
   ·rw[h2];rw[h1] at hf;simp at hf ⊢;omega
   ·rw[h2,List.filterMap_append];exact hs'
theorem Uw (h:B3 N w0 X0 Y β s a w){G:U7}(Jr:LO P G w0 X0)(C6:∀f args res,call f args=some res->Da G P f args res)(hm:P.follows .mixedOrders=true)(hok:RH C P ops=true){Q:Exit->Act->World->Prop}
  (hk:Rn C P N call ops ops.toList s K=some r)(hQ:∀s' a' w' β',K s'=some r->B3 N w0 X0 Y β' s' a' w'->Q .normal a' w'):wpAny P .any ops Q ops.size (Array.replicate ops.size false) a { w with drawn:=w.drawn+1 }:=by
 have hp:Qr ops.size (Array.replicate ops.size false)=List.range ops.size:=by
  unfold Qr;refine List.filter_eq_self.2 fun i hi=>?_
  have:=List.mem_range.1 hi;simp[this]
 refine Aak (C:=C) Jr C6 hok hQ ops.size ⟨by simp,fun j oj _ hl=>(by rw[getD_replicate_false] at hl;cases hl),fun t ht ht'=>by omega⟩ (by rw[hp];simp) h.drew ?_
 rw[hp]
 have:(List.range ops.size).filterMap (ops[·]?)=ops.toList:=by
  refine List.ext_getElem? fun k=>?_
  have:∀(n:Nat),n<=ops.size->(List.range n).filterMap (ops[·]?)=ops.toList.take n:=by
   intro n
   induction n with
   |zero=>intro _;rfl
   |succ n ih=>
    intro hn;rw[List.range_succ,List.filterMap_append,ih (by omega),List.take_add_one]
    congr 1
    have:ops[n]?=some ops[n]:=Array.getElem?_eq_getElem (by omega)
    simp[this]
  rw[this ops.size (Nat.le_refl _)]
  congr 1
  exact List.take_of_length_le (by simp)
 rw[this];exact hk
theorem YV (h:B3 N w0 X0 Y β s a w){G:U7}(Jr:LO P G w0 X0)(C6:∀f args res,call f args=some res->Da G P f args res)(hm:P.follows .mixedOrders=true)(hok:RH C P ops=true){id:Nat}{Q:Exit->Act->World->Prop}
  (hk:Rn C P N call ops ops.toList s K=some r)(hQ:∀s' a' w' β',K s'=some r->B3 N w0 X0 Y β' s' a' w'->Q .normal a' w'):(Code.region id ops true).wp P Q a w:=
 wp_region_any hm (Uw h Jr C6 hm hok hk hQ)
end
end
section
open Go.RowKit
section
variable {R R':Type} {Rel:Option R->Option R'->Prop} {P:Program} {N:Nat} {tm tm':Nat->PV} {hp Eo:Nat->Option Bx} {o:Oper}
theorem Ama (hn:Rel none none){C:Ji}{call:Af}{K:St->Option R}{K':St->Option R'}(Yd:Ry o.op=true)(N9:∀x∈o.op.operands.toList,Cw tm x=Cw tm' x)
  (hS:∀i,DZ o tm' Eo i->hp i=Eo i∨(hp i=none∧∀b,Rel none b)) (hdd:∀d,o.dst=some d->hp d=Eo d)
  (hK:∀v C2 Hc,(∀M,UC M (DZ o tm' Eo) o.dst hp Eo C2 Hc)->Rel (K ⟨B9 tm o.dst v,C2⟩) (K' ⟨B9 tm' o.dst v,Hc⟩)):Rel (AJ C P N call ⟨tm,hp⟩ o K) (AJ C P N call ⟨tm',Eo⟩ o K'):=by
 unfold AJ;have hl:∀x∈o.op.operands.toList,∀i∈B8 (Cw tm' x),DZ o tm' Eo i:=fun x hx i hi=>.inl ⟨x,hx,hi⟩
 generalize hLd:DZ o tm' Eo=S at *
 generalize hop:o.op=op at *
 unfold Ry at Yd;split at Yd
 ·rename_i c
  have Ok:∀x∈c.args.toList,x∈(Op.call c).operands.toList:=by
   intro x hx;simp only[Op.operands,Call.operands,Array.toList_append,List.mem_append];exact .inr hx
  split at Yd
  ·rename_i hc;simp only[hc];refine Ee hn fun d hd=>Bz hn fun x _ hx=>Bz hn fun y _ hy=>G5 hn (Bz hn fun _ _ _=>Bz hn fun _ _ _=>?_)
   subst hy;have hxm:=Ok x (by rw[hx];simp)
   have hym:=Ok y (by rw[hx];simp)
   simp only[N9 x hxm,N9 y hym];refine FW hn hS (hdd d hd) (fun i hi=>hl x hxm i (Hw hi)) (fun i hi=>hl y hym i (Hw hi)) fun v C2 Hc hh=>?_
   have:=hK v C2 Hc (by rw[hd];exact hh)
   rw[hd] at this;exact this
  ·cases Yd
 ·cases Yd
theorem Ur {C:Ji}{call:Af}(Yd:Ry o.op=true)(N9:∀x∈o.op.operands.toList,Cw tm x=Cw tm' x)(hS:∀i,DZ o tm' Eo i->hp i=Eo i)(hdd:∀d,o.dst=some d->hp d=Eo d){s1:St}
  (h:AJ C P N call ⟨tm,hp⟩ o some=some s1):∃v C2 Hc,s1=⟨B9 tm o.dst v,C2⟩∧AJ C P N call ⟨tm',Eo⟩ o some=some ⟨B9 tm' o.dst v,Hc⟩∧∀M,UC M (DZ o tm' Eo) o.dst hp Eo C2 Hc:=by
 have:=Ama (P:=P) (N:=N) (C:=C) (call:=call) (o:=o) (tm:=tm) (tm':=tm') (hp:=hp) (Eo:=Eo) (K:=some) (K':=some)
  (Rel:=fun (a b:Option St)=>∀s1,a=some s1->∃v C2 Hc,s1=⟨B9 tm o.dst v,C2⟩∧b=some ⟨B9 tm' o.dst v,Hc⟩∧∀M,UC M (DZ o tm' Eo) o.dst hp Eo C2 Hc) (fun _ h=>by cases h) Yd N9 (fun i hi=>.inl (hS i hi)) hdd
  (fun v C2 Hc hT s1 h=>by cases h;exact⟨v,C2,Hc,rfl,rfl,hT⟩)
 exact this s1 h
end
section
variable {R R':Type} {r:R} {r':R'} {C:Ji} {P:Program} {N:Nat} {call:Af} {ops:Array Oper} {o x:Oper} {s s1 s2:St} {K:St->Option R}
theorem Yv {tm:Nat->PV}(h:Jj C P ops o tm=true):Wh C P o.op=true:=by
 unfold Jj at h;simp only[Bool.and_eq_true] at h;exact h.1
theorem Aay (h:Ry o.op=true):Wh C P o.op=true:=by
 unfold Ry at h;split at h
 ·rename_i c hc;rw[hc];split at h
  ·rename_i hcc;simp only[Wh,hcc];exact h
  ·cases h
 ·cases h
theorem R1 (h:Ec C P N call ops x s K=some r):∃s1,Ec C P N call ops x s some=some s1∧WC P x s s1∧(Yp P x.op=true->s1.hp=s.hp)∧K s1=some r:=by
 cases hx:Jj C P ops x s.tm
 ·rw[Od hx] at h ⊢;cases ex:gE C P N call ops x s with
  |none=>rw[ex] at h;cases h
  |some q=>
   rw[ex] at h;obtain⟨hb,h1⟩:=Ax h;simp only[Bool.and_eq_true] at hb;refine⟨_,?_,⟨fun t ht=>S7 ht,fun i hi=>Rv hb.2 hi,fun hm i hi=>?_⟩,fun hl=>?_,h1⟩
   ·show Ar _ _=_;rw[hb.1,hb.2];rfl
   ·show A6 (Ag s.hp q.2.1) q.2.2 i=s.hp i;rw[Id hb.2 hi,((Y3 ex).1 hm).1];simp
   ·show A6 (Ag s.hp q.2.1) q.2.2=s.hp;obtain⟨h1,h2⟩:=Aj1 (.inl hl) ex;rw[h1,h2]
    funext i
    show Ag s.hp [] i=_;rw[Co];simp
 ·rw[Lz hx] at h ⊢
  exact PX (P:=P) (N:=N) (o:=x) (tm:=s.tm) (tm':=s.tm) (hp:=s.hp) (K':=some) (Rel:=fun (a:Option R) (b:Option St)=>a=some r->∃s1,b=some s1∧WC P x s s1∧(Yp P x.op=true->s1.hp=s.hp)∧K s1=some r) (fun h=>by cases h) (fun _ _=>rfl) (fun v C2 hh h=>⟨_,rfl,⟨fun t ht=>S7 ht,hh,fun hm=>(by
   rw[FE (Yv hx)] at hm;cases hm)⟩,fun hl=>(by
   have:=Yv hx;rw[Oi hl] at this;cases this),h⟩) h
theorem Zv {K':St->Option R'}(h:Ec C P N call ops x s some=some s1)(hk:K' s1=some r'):Ec C P N call ops x s K'=some r':=by
 cases hx:Jj C P ops x s.tm
 ·rw[Od hx] at h ⊢;cases ex:gE C P N call ops x s with
  |none=>rw[ex] at h;cases h
  |some q=>
   rw[ex] at h;obtain⟨hb,h1⟩:=Ax h;show Ar _ _=_;rw[hb];cases h1;exact hk
 ·rw[Lz hx] at h ⊢;exact PX (P:=P) (N:=N) (o:=x) (tm:=s.tm) (tm':=s.tm) (hp:=s.hp) (K:=some) (Rel:=fun (a:Option St) (b:Option R')=>a=some s1->b=some r') (fun h=>by cases h) (fun _ _=>rfl) (fun v C2 hh h=>by cases h;exact hk) h
theorem Aa9 {d:Nat}{t tx:TypeId}{b y:PV}(h:Tq P N s d t tx b y K=some r):s.hp d=none:=by
 unfold Tq at h;split at h
 ·obtain⟨_,h⟩:=Ax h;cases hI:HR P tx
  ·rw[hI,cond_false] at h;refine JP (P:=P) (tm:=s.tm) (tm':=s.tm) (hp:=s.hp) (Eo:=s.hp) (S:=fun _=>True) (K':=fun _ _=>(none:Option R)) (Rel:=fun (a:Option R) (_:Option R)=>a=some r->s.hp d=none) (fun h=>by cases h) (fun _ _=>.inl rfl) (fun _ _=>trivial) (fun m new h=>?_) h
   split at h
   ·split at h
    ·obtain⟨hb,_⟩:=Ax h;simp only[Bool.and_eq_true,Option.isNone_iff_eq_none] at hb;simp only[hb]
    ·cases h
   ·obtain⟨_,_,_,h,_⟩:=Ho h;obtain⟨hb,_⟩:=Ax h;simp only[Bool.and_eq_true,Option.isNone_iff_eq_none] at hb;simp only[hb]
  ·rw[hI,cond_true] at h;unfold Zf at h;obtain⟨_,_,_,h⟩:=D9 h;obtain⟨_,_,_,h,_⟩:=Ho h;obtain⟨hb,_⟩:=Ax h;simp only[Bool.and_eq_true,Option.isNone_iff_eq_none] at hb;simp only[hb]
 ·cases h
theorem Av8 (hw:Has C P o s)(hwx:∀y∈x.op.operands.toList,∀i∈B8 (Cw s.tm y),s.hp i≠none) (xo:∀d,x.dst=some d->d ∉ looks ops o)(ne:∀d,x.dst=some d->o.dst≠some d)(ox:∀d,o.dst=some d->d ∉ looks ops x)
  (D6:Ry x.op=true)(hao:Ry o.op=true)(Aem:∀i,DZ x s.tm s.hp i->¬DZ o s.tm s.hp i)(hx:Jj C P ops x s.tm=true)(ho:Jj C P ops o s.tm=true)
  (h:Ec C P N call ops x s (fun s1=>Ec C P N call ops o s1 K)=some r):Ec C P N call ops o s (fun s1=>Ec C P N call ops x s1 K)=some r:=by
 obtain⟨tm,hp⟩:=s;obtain⟨s1,e1,_,_,h⟩:=R1 h;obtain⟨s2,e2,_,_,h⟩:=R1 h;rw[Lz hx] at e1
 have hSx:∀i,DZ x tm hp i->hp i≠none:=by
  rintro i (⟨y,hy,hi⟩|⟨Yd,_⟩)
  ·exact hwx y hy i hi
  ·rw[D6] at Yd;cases Yd
 have hSo:∀i,DZ o tm hp i->hp i≠none:=by
  rintro i (⟨y,hy,hi⟩|⟨Yd,_⟩)
  ·exact hw.1 y hy i hi
  ·rw[hao] at Yd;cases Yd
 obtain⟨vx,hpx,Ats,rfl,e1',T1⟩:=Ur D6 (fun _ _=>rfl) (fun _ _=>rfl) (fun _ _=>rfl) e1
 have:Ats=hpx:=by
  rw[e1] at e1';injection e1' with q;injection q with _ q;exact q.symm
 subst this;have t1:∀t∈looks ops o,B9 tm x.dst vx t=tm t:=Gf xo;have t1o:=Hi (ops:=ops) (o:=o) t1;rw[Lz (by rw[Kf t1];exact ho)] at e2
 have hRo:∀i,DZ o (B9 tm x.dst vx) Ats i↔DZ o tm hp i:=by
  intro i;constructor
  ·rintro (⟨y,hy,hi⟩|⟨Yd,_⟩)
   ·exact .inl ⟨y,hy,by rw[←t1o y hy];exact hi⟩
   ·rw[hao] at Yd;cases Yd
  ·rintro (⟨y,hy,hi⟩|⟨Yd,_⟩)
   ·exact .inl ⟨y,hy,by rw[t1o y hy];exact hi⟩
   ·rw[hao] at Yd;cases Yd
 have Ayj:∀{s:St} {o:Oper} {s2:St},Ry o.op=true->AJ C P N call s o some=some s2->∀d,o.dst=some d->s.hp d=none:=by
  intro s o s2 hao e d hd;unfold AJ at e;unfold Ry at hao;split at hao
  ·rename_i c hc;rw[hc] at e;simp only at e;split at hao
   ·rename_i hcc;rw[hcc] at e;simp only[hd,F7] at e;obtain⟨_,_,_,e⟩:=Bl e;obtain⟨_,_,_,e⟩:=Bl e;obtain⟨_,e⟩:=Ef e;obtain⟨_,_,_,e⟩:=Bl e;obtain⟨_,_,_,e⟩:=Bl e;exact Aa9 e
   ·cases hao
  ·cases hao
 have A85:∀d,o.dst=some d->hp d=none:=by
  intro d hd;have h0:=Ayj hao e2 d hd;cases hh:hp d with
  |none=>rfl
  |some b=>exact absurd h0 ((T1 0).keep d (by rw[hh];simp))
 have A20:=Ayj D6 e1;simp only at A20;have hoS:∀d,o.dst=some d->¬DZ x tm hp d:=fun d hd hR=>hSx d hR (A85 d hd)
 have hxS:∀d,x.dst=some d->¬DZ o tm hp d:=fun d hd hR=>hSo d hR (A20 d hd)
 obtain⟨vo,A7w,hpo,rfl,e3,T2⟩:=Ur (tm':=tm) (Eo:=hp) hao t1o (fun i hi=>(T1 0).far i (fun hR=>Aem i hR hi) (hSo i hi)) (fun d hd=>((T1 (d+1)).off d (by omega) (fun e=>ne d e hd) (.inl (hoS d hd))).1) e2
 obtain⟨vo',A62,Adv,e3a,e3b,T3⟩:=Ur (tm':=tm) (Eo:=hp) hao (fun _ _=>rfl) (fun _ _=>rfl) (fun _ _=>rfl) e3
 rw[e3] at e3b
 have A7d:A62=hpo∧Adv=hpo:=by
  injection e3a with _ q1;injection e3b with q2;injection q2 with _ q3;exact⟨q1.symm,q3.symm⟩
 obtain⟨rfl,rfl⟩:=A7d;have t2:∀t∈looks ops x,tm t=B9 tm o.dst vo t:=fun t ht=>(Gf ox t ht).symm
 have t2x:=Hi (ops:=ops) (o:=x) t2
 have hRx:∀i,DZ x (B9 tm o.dst vo) Adv i↔DZ x tm hp i:=by
  intro i;constructor
  ·rintro (⟨y,hy,hi⟩|⟨Yd,_⟩)
   ·exact .inl ⟨y,hy,by rw[t2x y hy];exact hi⟩
   ·rw[D6] at Yd;cases Yd
  ·rintro (⟨y,hy,hi⟩|⟨Yd,_⟩)
   ·exact .inl ⟨y,hy,by rw[←t2x y hy];exact hi⟩
   ·rw[D6] at Yd;cases Yd
 obtain⟨vx2,A88,A9t,e4a,e4,T4⟩:=Ur (tm':=B9 tm o.dst vo) (Eo:=Adv) D6 t2x (fun i hi=>((T3 0).far i (Aem i ((hRx i).1 hi)) (hSx i ((hRx i).1 hi))).symm) (fun d hd=>((T3 (d+1)).off d (by omega) (fun e=>ne d hd e) (.inl (hxS d hd))).1.symm) e1
 have hvx:B9 tm x.dst vx=B9 tm x.dst vx2∧Ats=A88:=by
  injection e4a with q1 q2;exact⟨q1,q2⟩
 obtain⟨hvx,rfl⟩:=hvx;obtain⟨_,WM,OT,e5a,e5b,T5⟩:=Ur (tm':=B9 tm x.dst vx) (Eo:=Ats) hao (fun _ _=>rfl) (fun _ _=>rfl) (fun _ _=>rfl) e2
 have hq:WM=A7w:=by injection e5a with _ q1;exact q1.symm
 subst hq;obtain⟨_,hu1,hu2,e6a,e6b,T6⟩:=Ur (tm':=B9 tm o.dst vo) (Eo:=Adv) D6 (fun _ _=>rfl) (fun _ _=>rfl) (fun _ _=>rfl) e4
 have hu:hu1=A9t:=by injection e6a with _ q1;exact q1.symm
 subst hu
 have Ok:WM=hu1:=by
  funext i
  by_cases hi:DZ o tm hp i∨o.dst=some i
  ·have hxi:¬DZ x tm hp i:=by
    rcases hi with hi|hi
    ·exact fun hR=>Aem i hR hi
    ·exact hoS i hi
   have hdi:x.dst≠some i:=by
    rcases hi with hi|hi
    ·exact fun e=>hxS i e hi
    ·exact fun e=>ne i e hi
   rw[(T2 0).same i ((T1 (i+1)).off i (by omega) hdi (.inl hxi)).1]
   exact ((T6 (i+1)).off i (by omega) hdi (.inl fun hR=>hxi ((hRx i).1 hR))).1.symm
  ·have hoi:¬DZ o tm hp i:=fun e=>hi (.inl e)
   have hdi:o.dst≠some i:=fun e=>hi (.inr e)
   rw[((T5 (i+1)).off i (by omega) hdi (.inl fun hR=>hoi ((hRo i).1 hR))).1]
   exact (T4 0).same i ((T3 (i+1)).off i (by omega) hdi (.inl hoi)).1.symm
 refine Zv (s1:=⟨B9 tm o.dst vo,Adv⟩) (by rw[Lz ho];exact e3) ?_
 refine Zv (s1:=⟨B9 (B9 tm o.dst vo) x.dst vx2,hu1⟩) (by rw[Lz (by rw[←Kf t2];exact hx)];exact e4) ?_
 rw[←Oq ne,←hvx,←Ok];exact h
theorem HB (hM:Wh C P o.op=true){i:Nat}(h:DZ o s.tm s.hp i):i∈Qj C P s o:=by
 unfold Qj;rw[hM];cases hA:Ry o.op
 ·simp only[Bool.not_false,Bool.and_self,cond_true,List.mem_append];rcases h with⟨y,hy,hi⟩|⟨_,id,c,⟨y,hy,hi⟩,hc,p,hp,hk⟩
  ·exact .inl (List.mem_flatMap.2 ⟨y,hy,hi⟩)
  ·refine .inr (List.mem_flatMap.2 ⟨id,List.mem_flatMap.2 ⟨y,hy,hi⟩,?_⟩);rw[hc];exact List.mem_flatMap.2 ⟨p,hp,hk⟩
 ·simp only[Bool.not_true,Bool.and_false,cond_false,Bool.or_true,cond_true];rcases h with⟨y,hy,hi⟩|⟨hn,_⟩
  ·exact List.mem_flatMap.2 ⟨y,hy,hi⟩
  ·rw[hA] at hn;cases hn
theorem OH (hl:Wh C P o.op=true∨Yp P o.op=true){y:Operand}(hy:y∈o.op.operands.toList){i:Nat}(h:i∈B8 (Cw s.tm y)):i∈Qj C P s o:=by
 rcases hl with hM|hl
 ·exact HB hM (.inl ⟨y,hy,h⟩)
 ·unfold Qj;rw[Oi hl,hl];exact List.mem_flatMap.2 ⟨y,hy,h⟩
theorem Ad3 (ht:∀t∈looks ops o,s1.tm t=s.tm t)(hh:Wh C P o.op=true->Ry o.op=false->∀y∈o.op.operands.toList,∀i∈B8 (Cw s.tm y),s1.hp i=s.hp i):Qj C P s1 o=Qj C P s o:=by
 have he:=Hi (ops:=ops) (o:=o) ht
 have hl:(o.op.operands.toList.flatMap fun y=>B8 (Cw s1.tm y))=o.op.operands.toList.flatMap fun y=>B8 (Cw s.tm y):=by
  have Az1:∀l:List Operand,(∀y∈l,Cw s1.tm y=Cw s.tm y)->(l.flatMap fun y=>B8 (Cw s1.tm y))=l.flatMap fun y=>B8 (Cw s.tm y):=by
   intro l
   induction l with
   |nil=>intro _;rfl
   |cons a l ih=>intro h;simp only[List.flatMap_cons];rw[h a (by simp),ih fun y hy=>h y (by simp[hy])]
  exact Az1 _ he
 unfold Qj;simp only[hl];cases hM:(Wh C P o.op && !Ry o.op)
 ·rfl
 ·simp only[cond_true];simp only[Bool.and_eq_true,Bool.not_eq_true'] at hM
  congr 1
  have Az1:∀l:List Nat,(∀i∈l,s1.hp i=s.hp i)->(l.flatMap fun i=>match s1.hp i with|some (.st c)=>c.flatMap Az|_=>[])=l.flatMap fun i=>match s.hp i with|some (.st c)=>c.flatMap Az|_=>[]:=by
   intro l
   induction l with
   |nil=>intro _;rfl
   |cons a l ih=>intro h;simp only[List.flatMap_cons];rw[h a (by simp),ih fun y hy=>h y (by simp[hy])]
  exact Az1 _ fun i hi=>by
   obtain⟨y,hy,hi⟩:=List.mem_flatMap.1 hi;exact hh hM.1 hM.2 y hy i hi
theorem GR {a b:List Nat}(h:Alz a b=true){i:Nat}(ha:i∈a)(hb:i∈b):False:=by
 have:=List.all_eq_true.1 h i ha;have h2:b.any (Nat.beq i)=true:=List.any_eq_true.2 ⟨i,hb,Nat.beq_refl i⟩;rw[h2] at this;cases this
theorem Amq {a b:List Nat}(h:Alz a b=true):Alz b a=true:=by
 refine List.all_eq_true.2 fun i hi=>?_
 cases hc:a.any (Nat.beq i)
 ·rfl
 ·obtain⟨j,hj,e⟩:=List.any_eq_true.1 hc;rw[Nat.eq_of_beq_eq_true e] at hi;exact (GR h hj hi).elim
theorem CJ:N5 C P x o=N5 C P o x:=by
 unfold N5;cases Wh C P x.op<;>cases Wh C P o.op<;>cases Yp P x.op<;>cases Yp P o.op<;>cases Ry x.op<;>cases Ry o.op<;>rfl
structure P6 (C:Ji) (P:Program) (ops:Array Oper) (x o:Oper):Prop where
 xo:∀d,x.dst=some d->d ∉ looks ops o
 ne:∀d,x.dst=some d->o.dst≠some d
 ox:∀d,o.dst=some d->d ∉ looks ops x
 me:Wq C P x o=false∨N5 C P x o=true
theorem Amk (h:Apt C P ops x o=false):P6 C P ops x o:=by
 unfold Apt at h;simp only[Bool.or_eq_false_iff] at h;obtain⟨h1,h2⟩:=h;have hT:=h1;unfold Aoa at h1;simp only[Bool.or_eq_false_iff] at h1
 have a1:PS C P ops x o=false∨Wq C P x o=true:=by
  cases hc:Wq C P x o
  ·left;unfold PS;unfold Wq at hc;simp only[Bool.or_eq_false_iff] at hc ⊢;exact⟨⟨⟨h1.1,h1.2⟩,hc.1⟩,hc.2⟩
  ·exact .inr rfl
 refine⟨fun d hd=>?_,fun d hd he=>?_,fun d hd=>?_,?_⟩
 ·have:=h1.1;simp only[hd,Bool.or_eq_false_iff] at this;exact Wl this.1
 ·have:=h1.1;simp only[hd,he,Bool.or_eq_false_iff] at this;rw[Nat.beq_refl] at this;cases this.2
 ·have:=h1.2;simp only[hd] at this;exact Wl this
 ·cases hc:Wq C P x o
  ·exact .inl rfl
  ·rw[hc] at h2;right
   simpa using h2
theorem P6.apart (ap:P6 C P ops x o)(h:Wq C P x o=false):GW C P ops x o:=by
 unfold Wq at h;simp only[Bool.or_eq_false_iff,Bool.and_eq_false_iff] at h;refine⟨ap.xo,ap.ne,ap.ox,fun hm=>?_,fun hm=>?_⟩
 ·rcases h.1 with h|h
  ·rw[hm] at h;cases h
  ·exact h
 ·rcases h.2 with h|h
  ·rw[hm] at h;cases h
  ·exact h
theorem P6.same (ap:P6 C P ops x o)(hk:WC P x s s1)(hl:Yp P x.op=true->s1.hp=s.hp)(hM:Wh C P o.op=true)(hA:Ry o.op=false){i:Nat}(hi:s.hp i≠none):s1.hp i=s.hp i:=by
 rcases ap.me with h|h
 ·exact hk.2.2 ((ap.apart h).mo hM) i hi
 ·unfold N5 at h;rw[hA] at h;simp only[Bool.and_false,Bool.or_false,Bool.or_eq_true,Bool.and_eq_true] at h;rcases h with h|h
  ·have:=h.2;rw[Oi (C:=C) (P:=P) this] at hM;cases hM
  ·rw[hl h.2]
theorem Has.keepsS (h:Has C P o s)(ap:P6 C P ops x o)(hk:WC P x s s1)(hl:Yp P x.op=true->s1.hp=s.hp):Has C P o s1:=by
 have hop:∀y∈o.op.operands.toList,Cw s1.tm y=Cw s.tm y:=fun y hy=>Hi (ops:=ops) (o:=o) (fun t ht=>hk.1 t fun hd=>ap.xo t hd ht) y hy
 refine⟨fun y hy i hi=>?_,fun hM hA y hy i hi c hc p hp k hkk=>?_⟩
 ·rw[hop y hy] at hi;exact hk.2.1 i (h.1 y hy i hi)
 ·rw[hop y hy] at hi;rw[ap.same hk hl hM hA (h.1 y hy i hi)] at hc;exact hk.2.1 k (h.2 hM hA y hy i hi c hc p hp k hkk)
theorem P6.symm (ap:P6 C P ops x o):P6 C P ops o x:=by
 refine⟨ap.ox,fun d hd he=>ap.ne d he hd,ap.xo,?_⟩
 rcases ap.me with h|h
 ·left;unfold Wq at h ⊢;rw[Bool.or_comm];exact h
 ·right;rw[CJ];exact h
theorem A2v (hw:Has C P o s)(hwx:N5 C P x o=true->∀i∈Qj C P s x,s.hp i≠none)(ap:P6 C P ops x o)(hd:N5 C P x o=true->Alz (Qj C P s x) (Qj C P s o)=true)
  (h:Ec C P N call ops x s (fun s1=>Ec C P N call ops o s1 K)=some r):Ec C P N call ops o s (fun s1=>Ec C P N call ops x s1 K)=some r:=by
 rcases ap.me with hm|hm
 ·exact A5o hw (ap.apart hm) h
 ·have hd:=hd hm;have hwx:=hwx hm;cases hx:Jj C P ops x s.tm
  ·cases ho:Jj C P ops o s.tm
   ·exact Ajs hw ap.xo ap.ne ap.ox hx ho h
   ·have hMo:=Yv ho
    have hlx:UH P ops x s.tm:=by
     cases hl:Yp P x.op
     ·right
      have hMx:Wh C P x.op=true:=by
       unfold N5 at hm;simp only[hl,Bool.and_false,Bool.or_false,Bool.or_eq_true,Bool.and_eq_true] at hm;rcases hm with hm|hm
       ·exact hm.1
       ·exact Aay hm.1
      cases hv:H5 ops x s.tm with
      |none=>
       exfalso;rw[Od hx] at h;unfold gE at h;rw[hv] at h;cases h
      |some b=>
       cases b
       ·rfl
       ·unfold Jj at hx;rw[hMx,hv] at hx;cases hx
     ·exact .inl hl
    refine Avl ap.xo ap.ne ap.ox hlx (fun y hy i hi hR=>?_) ho h
    refine GR hd (OH ?_ hy hi) (HB hMo hR);unfold N5 at hm;simp only[Bool.or_eq_true,Bool.and_eq_true] at hm;rcases hm with (hm|hm)|hm
    ·exact .inl hm.1
    ·exact .inr hm.2
    ·exact .inl (Aay hm.1)
  ·have hMx:=Yv hx;cases ho:Jj C P ops o s.tm
   ·have hlo:UH P ops o s.tm:=by
     cases hl:Yp P o.op
     ·right
      have hMo:Wh C P o.op=true:=by
       unfold N5 at hm;simp only[hl,Bool.and_false,Bool.false_or,Bool.or_eq_true,Bool.and_eq_true] at hm;rcases hm with hm|hm
       ·exact hm.1
       ·exact Aay hm.2
      cases hv:H5 ops o s.tm with
      |none=>
       exfalso;obtain⟨s1,_,hk,_,h⟩:=R1 h;have hv1:H5 ops o s1.tm=none:=by rw[O7 (fun t ht=>hk.1 t fun hd=>ap.xo t hd ht)];exact hv
       rw[Od (by unfold Jj;rw[hv1];cases Wh C P o.op<;>rfl)] at h
       unfold gE at h;rw[hv1] at h;cases h
      |some b=>
       cases b
       ·rfl
       ·unfold Jj at ho;rw[hMo,hv] at ho;cases ho
     ·exact .inl hl
    refine Avv hw ap.xo ap.ne ap.ox hlo (fun y hy i hi hR=>?_) hx h
    refine GR hd (HB hMx hR) (OH ?_ hy hi);unfold N5 at hm;simp only[Bool.or_eq_true,Bool.and_eq_true] at hm;rcases hm with (hm|hm)|hm
    ·exact .inr hm.2
    ·exact .inl hm.1
    ·exact .inl (Aay hm.2)
   ·have hMo:=Yv ho;unfold N5 at hm;simp only[Bool.or_eq_true,Bool.and_eq_true] at hm;rcases hm with (hm|hm)|hm
    ·rw[Oi (C:=C) (P:=P) hm.2] at hMo;cases hMo
    ·rw[Oi (C:=C) (P:=P) hm.2] at hMx;cases hMx
    ·exact Av8 hw (fun y hy i hi=>hwx i (OH (.inl hMx) hy hi)) ap.xo ap.ne ap.ox hm.1 hm.2 (fun i h1 h2=>GR hd (HB hMx h1) (HB hMo h2)) hx ho h
theorem Aow {α:Type}(a b:α)(l:List α)(f:α->Bool):(a::b::l).all f=(b::a::l).all f:=by
 simp only[List.all_cons];cases f a<;>cases f b<;>rfl
theorem LD {bs:List (List Nat)}:∀(l:List Nat){dn dn':List (Nat × Oper × List Nat)} {s:St}{K:St->Option R},(∀f,dn.all f=dn'.all f)->K0 C P N call ops bs dn l s K=K0 C P N call ops bs dn' l s K
 |[],_,_,_,_,_=>rfl
 |i::l,dn,dn',s,K,h=>by
  unfold K0;cases ops[i]? with
  |none=>rfl
  |some o=>
   simp only[F7,h]
   congr 2
   funext s'
   exact LD l fun f=>by simp only[List.all_cons,h]
theorem TF {bs:List Nat}{i:Nat}(hi:ops[i]?=some o):(MK C P ops bs).getD i []=FM C P ops bs i o:=by
 unfold MK;rw[List.getD_eq_getElem?_getD,List.getElem?_map,List.getElem?_zipIdx,Array.getElem?_toList,hi];simp
theorem W5 {bs:List Nat}{i j:Nat}:j∈FM C P ops bs i o↔∃x,ops[j]?=some x∧N5 C P x o=true∧(Nat.blt j i&&(bs.getD i 0).testBit j)=false∧(Nat.blt i j&&(bs.getD j 0).testBit i)=false:=by
 unfold FM;simp only[List.mem_map,List.mem_filter,Bool.and_eq_true,Bool.not_eq_true',Prod.exists];constructor
 ·rintro⟨x,k,⟨hm,⟨h1,h2⟩,h3⟩,rfl⟩
  rw[List.mem_zipIdx_iff_getElem?] at hm;exact⟨x,by simpa using hm,h1,h2,h3⟩
 ·rintro⟨x,hx,h1,h2,h3⟩
  refine⟨x,j,⟨?_,⟨h1,h2⟩,h3⟩,rfl⟩;rw[List.mem_zipIdx_iff_getElem?]
  simpa using hx
theorem OM {sm:List (List Nat)} {i j:Nat}(h:j∈sm.getD i []):NX C P sm s i o=Qj C P s o:=by
 unfold NX;split
 ·rename_i e;rw[e] at h;simp at h
 ·rfl
theorem Arr {sm:List (List Nat)} {i:Nat}(h:sm.getD i []≠[]->Qj C P s1 o=Qj C P s o):NX C P sm s1 i o=NX C P sm s i o:=by
 unfold NX;split
 ·rfl
 ·rename_i e;exact h (by rw[e];simp)
theorem Aja {l:List Nat}{j:Nat}:l.any (Nat.beq j)=true↔j∈l:=by
 constructor
 ·intro h;obtain⟨k,hk,e⟩:=List.any_eq_true.1 h;rw[Nat.eq_of_beq_eq_true e];exact hk
 ·intro h;exact List.any_eq_true.2 ⟨j,h,Nat.beq_refl j⟩
theorem HP {bs:List Nat}{sm:List (List Nat)} (hsm:sm=MK C P ops bs){i:Nat}(hi:ops[i]?=some o) {l':List Nat}:∀(l:List Nat){dn:List (Nat × Oper × List Nat)} {s:St}{K:St->Option R},Has C P o s ->
  (∀j∈l,j<i∧(bs.getD i 0).testBit j=false∧∀x,ops[j]?=some x->P6 C P ops x o)->K0 C P N call ops sm dn (l++i::l') s K=some r ->
  dn.all (VC C P sm s i o)=true∧Ec C P N call ops o s (fun s1=>K0 C P N call ops sm ((i,o,NX C P sm s i o)::dn) (l++l') s1 K)=some r
 |[],dn,s,K,hw,_,h=>by
  simp only[List.nil_append] at h ⊢;unfold K0 at h;rw[hi] at h;simp only[F7] at h;obtain⟨hb,h⟩:=Ax h;simp only[Bool.and_eq_true] at hb;exact⟨hb.1,h⟩
 |j::l,dn,s,K,hw,hl,h=>by
  simp only[List.cons_append] at h ⊢;unfold K0 at h;obtain⟨hji,VF,Yd⟩:=hl j (by simp)
  cases hj:ops[j]? with
  |none=>rw[hj] at h;cases h
  |some x=>
   rw[hj] at h;simp only[F7] at h;obtain⟨hb,h⟩:=Ax h;simp only[Bool.and_eq_true] at hb;have ap:=Yd x hj
   have hex:∀k∈NX C P sm s j x,s.hp k≠none:=fun k hk=>by
    have:=List.all_eq_true.1 hb.2 k hk;intro e;rw[e] at this;cases this
   obtain⟨s1,e1,Eb,IA,h1⟩:=R1 h;obtain⟨ha,h2⟩:=HP hsm hi l (hw.keepsS ap Eb IA) (fun k hk=>hl k (by simp[hk])) h1
   have A8c:Qj C P s1 o=Qj C P s o:=Ad3 (ops:=ops) (fun t ht=>Eb.1 t fun hd=>ap.xo t hd ht) fun hM hA y hy k hk=>ap.same Eb IA hM hA (hw.1 y hy k hk)
   have hr1:NX C P sm s1 i o=NX C P sm s i o:=Arr fun _=>A8c
   rw[List.all_cons,Bool.and_eq_true] at ha
   have A4s:Nat.blt i j=false:=by
    cases hh:Nat.blt i j
    ·rfl
    ·have:=Nat.le_of_ble_eq_true hh;omega
   have hmi:N5 C P x o=true->j∈sm.getD i []:=fun hs=>by
    rw[hsm,TF hi];exact W5.2 ⟨x,hj,hs,by rw[VF,Bool.and_false],by rw[A4s,Bool.false_and]⟩
   have hmj:N5 C P x o=true->i∈sm.getD j []:=fun hs=>by
    rw[hsm,TF hj];exact W5.2 ⟨o,hi,by rw[CJ];exact hs,by rw[A4s,Bool.false_and],by rw[VF,Bool.and_false]⟩
   have Ayf:N5 C P x o=true->Alz (NX C P sm s j x) (NX C P sm s i o)=true:=by
    intro hs;have:=ha.1;unfold VC at this;rw[Aja.2 (hmi hs),hr1] at this
    simpa using this
   have hok:∀q,VC C P sm s1 i o q=VC C P sm s i o q:=fun q=>by unfold VC;rw[hr1]
   have Wc:dn.all (VC C P sm s i o)=true:=by
    refine List.all_eq_true.2 fun q hq=>?_
    rw[←hok];exact List.all_eq_true.1 ha.2 q hq
   refine⟨Wc,?_⟩;rw[hr1] at h2
   have h3:=A2v hw (fun hs k hk=>hex k (by rw[OM (hmj hs)];exact hk)) ap (fun hs=>by have:=Ayf hs;rw[OM (hmj hs),OM (hmi hs)] at this;exact this)
    (Zv (K':=fun s1=>Ec C P N call ops o s1 (fun s2=>K0 C P N call ops sm ((i,o,NX C P sm s i o)::(j,x,NX C P sm s j x)::dn) (l++l') s2 K)) e1 h2)
   obtain⟨s2,e2,Gi,NQ,h4⟩:=R1 h3;refine Zv e2 ?_
   have hr2:NX C P sm s2 j x=NX C P sm s j x:=Arr fun Gg=>by
    obtain⟨q,hq⟩:=List.exists_mem_of_ne_nil _ Gg;refine Ad3 (ops:=ops) (fun t ht=>Gi.1 t fun hd=>ap.ox t hd ht) fun hM hA y hy k hk=>ap.symm.same Gi NQ hM hA (hex k ?_)
    rw[OM hq];exact OH (.inl hM) hy hk
   unfold K0;rw[hj];simp only[F7]
   have hc:(((i,o,NX C P sm s i o)::dn).all (VC C P sm s2 j x)&&(NX C P sm s2 j x).all fun k=>(s2.hp k).isSome)=true:=by
    simp only[List.all_cons,Bool.and_eq_true];refine⟨⟨?_,?_⟩,?_⟩
    ·unfold VC;simp only[hr2];cases hs:(sm.getD j []).any (Nat.beq i)
     ·rfl
     ·have hm:=Aja.1 hs;rw[hsm,TF hj] at hm;obtain⟨o',ho',hso,_⟩:=W5.1 hm;rw[hi] at ho';cases ho';rw[CJ] at hso;rw[Amq (Ayf hso)];rfl
    ·refine List.all_eq_true.2 fun q hq=>?_
     have:=List.all_eq_true.1 hb.1 q hq;unfold VC at this ⊢;rw[hr2];exact this
    ·rw[hr2];refine List.all_eq_true.2 fun k hk=>?_
     have:=Gi.2.1 k (hex k hk);cases hh:s2.hp k with
     |none=>exact absurd hh this
     |some _=>rfl
   rw[hc,hr2];show Ec C P N call ops x s2 _=some r
   have:(fun s'=>K0 C P N call ops sm ((j,x,NX C P sm s j x)::(i,o,NX C P sm s i o)::dn) (l++l') s' K)=fun s2=>K0 C P N call ops sm ((i,o,NX C P sm s i o)::(j,x,NX C P sm s j x)::dn) (l++l') s2 K:=by
    funext s'
    exact LD _ fun f=>Aow _ _ _ f
   rw[this];exact h4
end
section
variable {R:Type} {r:R} {P:Program} {N:Nat} {w0:World} {X0:Fz} {Y:Nat->Prop} {β β':Bt} {s:St} {a:Act} {w w':World} {o:Oper} {ops:Array Oper} {C:Ji} {call:Af} {K:St->Option R}
theorem BM {bs:List Nat}:∀(l:List Oper)(n:Nat),HS C P ops bs l n=true->∀(k:Nat) o,l[k]?=some o->∀(j:Nat) x,ops[j]?=some x->j<n+k->Apt C P ops x o=true->(bs.getD (n+k) 0).testBit j=true
 |[],_,_,k,o,ho,_,_,_,_,_=>by simp at ho
 |o'::l,n,h,k,o,ho,j,x,hx,hj,X6=>by
  simp only[HS,Bool.and_eq_true] at h;cases k with
  |zero=>
   simp at ho;subst ho
   have:=List.all_eq_true.1 h.1 (x,j) (by
    rw[List.mem_zipIdx_iff_getElem?]
    simpa using hx)
   simp only[X6,Bool.not_true,Bool.or_false,Bool.or_eq_true,Bool.not_eq_true'] at this;rcases this with h'|h'
   ·have:Nat.blt j n=true:=Nat.ble_eq_true_of_le (by omega)
    rw[this] at h';cases h'
   ·exact h'
  |succ k=>
   have:=BM l (n+1) h.2 k o (by simpa using ho) j x hx (by omega) X6
   rwa [show n+(k+1)=n+1+k by omega]
theorem ZS {G:U7}(Jr:LO P G w0 X0)(C6:∀f args res,call f args=some res->Da G P f args res)(hok:RK C P ops=true){Q:Exit->Act->World->Prop}(hQ:∀s' a' w' β',K s'=some r->B3 N w0 X0 Y β' s' a' w'->Q .normal a' w'):
  ∀(fuel:Nat) {dn:List (Nat × Oper × List Nat)} {listed:Array Bool} {s:St} {a:Act} {w:World} {β:Bt},HeadInv .any ops ops.size listed->(Qr ops.size listed).length=fuel->B3 N w0 X0 Y β s a w->K0 C P N call ops (MK C P ops (Lo ops.toList [])) dn (Qr ops.size listed) s K=some r->wpAny P .any ops Q fuel listed a w:=by
 unfold RK at hok;simp only[Bool.and_eq_true] at hok;obtain⟨Anv,A0b⟩:=hok;intro fuel
 induction fuel with
 |zero=>
  intro dn listed s a w β inv hf h hk;have hp:=List.eq_nil_of_length_eq_zero hf;rw[hp] at hk;refine⟨?_,hQ s a w β hk h⟩;cases hr:Region.ready .any ops listed with
  |nil=>rfl
  |cons i l=>
   exfalso;have hi:i∈Region.ready .any ops listed:=by rw[hr];simp
   obtain⟨Nz,o,ho,_⟩:=mem_ready.1 hi;have:i∈Qr ops.size listed:=Nb.2 ⟨(Array.getElem?_eq_some_iff.1 ho).1,Nz⟩;rw[hp] at this;simp at this
 |succ fuel ih=>
  intro dn listed s a w β inv hf h hk;refine⟨fun hr=>?_,fun i hi=>?_⟩
  ·rw[XU Anv inv hr] at hf;cases hf
  ·obtain⟨Nz,o,ho,Wc⟩:=mem_ready.1 hi;have Cc:i<ops.size:=(Array.getElem?_eq_some_iff.1 ho).1;obtain⟨l1,l2,h1,h2,h3⟩:=DT (Nb.2 ⟨Cc,Nz⟩) inv.size;rw[h1] at hk
   have hnb:∀j∈l1,((Lo ops.toList []).getD i 0).testBit j=false:=by
    intro j hj;cases VF:((Lo ops.toList []).getD i 0).testBit j with
    |false=>rfl
    |true=>
     exfalso;have hjl:=Wv (listed:=listed) (fun j oj hj hl=>inv.closed j oj hj hl) ops.toList [] [] (by simp) rfl (by simp) i o ho Wc j VF
     have:j∈Qr ops.size listed:=by rw[h1];simp[hj]
     have:=getD_both (Nb.1 this).2;rw[hjl] at this;cases this
   have Yd:∀j∈l1,j<i∧((Lo ops.toList []).getD i 0).testBit j=false∧∀x,ops[j]?=some x->P6 C P ops x o:=by
    intro j hj;refine⟨h3 j hj,hnb j hj,fun x hxj=>Amk ?_⟩
    cases X6:Apt C P ops x o with
    |false=>rfl
    |true=>
     exfalso;have VF:=BM ops.toList 0 A0b i o (by simpa using ho) j x hxj (by have:=h3 j hj;omega) X6
     rw[Nat.zero_add,hnb j hj] at VF;cases VF
   obtain⟨s',hs',hn⟩:=DH h Jr C6 ho (HP rfl ho l1 (An1 h o) Yd hk).2;refine hn _ _ fun a' w' β' h'=>ih (dn:=(i,o,NX C P (MK C P ops (Lo ops.toList [])) s i o)::dn) (inv.set hi Cc) ?_ h' ?_
   ·rw[h2];rw[h1] at hf;simp at hf ⊢;omega
   ·rw[h2];exact hs'
theorem Xq (h:B3 N w0 X0 Y β s a w){G:U7}(Jr:LO P G w0 X0)(C6:∀f args res,call f args=some res->Da G P f args res)(hm:P.follows .mixedOrders=true)(hok:RK C P ops=true){Q:Exit->Act->World->Prop}
  (hk:K0 C P N call ops (MK C P ops (Lo ops.toList [])) [] (List.range ops.size) s K=some r) (hQ:∀s' a' w' β',K s'=some r->B3 N w0 X0 Y β' s' a' w'->Q .normal a' w'):wpAny P .any ops Q ops.size (Array.replicate ops.size false) a { w with drawn:=w.drawn+1 }:=by
 have hp:Qr ops.size (Array.replicate ops.size false)=List.range ops.size:=by
  unfold Qr;refine List.filter_eq_self.2 fun i hi=>?_
  have:=List.mem_range.1 hi;simp[this]
 refine ZS (C:=C) (dn:=[]) Jr C6 hok hQ ops.size ⟨by simp,fun j oj _ hl=>(by rw[getD_replicate_false] at hl;cases hl),fun t ht ht'=>by omega⟩ (by rw[hp];simp) h.drew ?_
 rw[hp];exact hk
theorem Adp (h:B3 N w0 X0 Y β s a w){G:U7}(Jr:LO P G w0 X0)(C6:∀f args res,call f args=some res->Da G P f args res)(hm:P.follows .mixedOrders=true)(hok:RK C P ops=true){id:Nat}{Q:Exit->Act->World->Prop}
  (hk:K0 C P N call ops (MK C P ops (Lo ops.toList [])) [] (List.range ops.size) s K=some r) (hQ:∀s' a' w' β',K s'=some r->B3 N w0 X0 Y β' s' a' w'->Q .normal a' w'):(Code.region id ops true).wp P Q a w:=
 wp_region_any hm (Xq h Jr C6 hm hok hk hQ)
end
open Go.RowKit
section
variable {R:Type} {r:R} {N:Nat} {w0:World} {X0:Fz} {Y:Nat->Prop} {β β':Bt} {s:St} {a:Act} {w w':World}
theorem Arh {i:Nat}(hi:i<a.tmps.size):a.put (some i) (a.tmps.getD i undef)=a:=by
 obtain⟨tmps,dfr⟩:=a;change i<tmps.size at hi
 have:tmps.setIfInBounds i (tmps.getD i undef)=tmps:=by
  apply Array.ext_getElem?;intro k;by_cases e:i=k
  ·subst e;simp[hi]
  ·rw[Array.getElem?_setIfInBounds_ne e]
 simp only[Act.put,this]
theorem Ai1 {A:Nat->Prop}{es:Nat}{v:Value}(h:A4 w A (.lst true es 0 []) v):v=.slice none 0 0:=by
 cases h;rfl
theorem Ajp {id:Nat}(Br:s.hp id=none){v:PV}{val:Value}(hv:Ed w (De (A6 s.hp [(id,.ar false [])]) (Dd β id none) Y) (Dd β id none) v val) (hr:∀i∈B8 v,s.hp i≠none∨i=id):
  WR Y β s w v [(id,.ar false [])] val w (Dd β id none):=by
 refine⟨rfl,rfl,rfl,Cq.refl _ _,fun j hj=>Aq _ _ (by rintro rfl;exact hj Br),?_,?_,?_,?_,?_,hv,?_⟩
 ·intro j bx hm;simp at hm;rw[hm.2];trivial
 ·intro j bx hm;simp at hm;obtain⟨rfl,rfl⟩:=hm;exact .inl ⟨A3 _ _ _,rfl⟩
 ·intro j bx k q hm hq;simp at hm;obtain⟨rfl,rfl⟩:=hm;rw[A3] at hq;cases hq
 ·intro j bx j' bx' k q q' hm Qx _ _;simp at hm Qx;rw[hm.1,Qx.1]
 ·intro j cells hm;simp at hm
 ·intro j hj;rcases hr j hj with h|rfl
  ·exact .inl h
  ·exact .inr ⟨.ar false [],by simp⟩
theorem UF (h:B3 N w0 X0 Y β s a w)(i:Nat):∃β',B3 N w0 X0 Y β' (OI N s i) a w:=by
 unfold OI;split
 ·rename_i es ht
  have Cc:i<N:=by
   rcases Nat.lt_or_ge i N with h'|h'
   ·exact h'
   ·rw[h.tmo i h'] at ht;cases ht
  have hv:=h.tms i Cc;rw[ht] at hv;have hv:=Ai1 hv;have hd:Il N (some i)=true:=by simp[Il,Nat.blt];omega
  have go:∀j,s.hp j=none->∃β',B3 N w0 X0 Y β' ⟨Dd s.tm i (.view j es 0 0),Dd s.hp j (some (.ar false []))⟩ a w:=by
   intro j hn;have:=h.stepR (d:=some i) hd (by simp[Ck,hn]) (Ajp (v:=.view j es 0 0) (val:=.slice none 0 0) hn (.inl ⟨A3 _ _ _,rfl,rfl,none,rfl⟩) (by simp[B8,Cl,Az]))
   rw[←hv,Arh (by rw[h.tsz];exact Cc)] at this
   exact⟨_,this⟩
  cases hn:(s.hp i).isNone
  ·cases hn2:(s.hp (i+N*3000)).isNone
   ·exact⟨β,h⟩
   ·exact go _ (by simpa using hn2)
  ·exact go _ (by simpa using hn)
 ·exact⟨β,h⟩
theorem B3.recell (h:B3 N w0 X0 Y β s a w){id:Nat}{c c':List PV}(h0:s.hp id=some (.st c)) (hl:c'.length=c.length)
  (hc:∀(j:Nat) p,c'[j]?=some p->∃q,c[j]?=some q∧(∀v,Cj w (De s.hp β Y) β q v->Cj w (De s.hp β Y) β p v)∧∀i∈Az p,s.hp i≠none):
  B3 N w0 X0 Y β ⟨s.tm,Dd s.hp id (some (.st c'))⟩ a w:=by
 have I5:∀i,Cv (Dd s.hp id (some (.st c')) i)↔Cv (s.hp i):=by
  intro i;by_cases e:i=id
  ·subst e;rw[A3,h0];exact Iff.rfl
  ·rw[Aq _ _ e]
 have hX:DF (Dd s.hp id (some (.st c'))) β=DF s.hp β:=by
  funext b
  apply propext;constructor
  ·rintro⟨i,o,hl,hb⟩;exact⟨i,o,(I5 i).1 hl,hb⟩
  ·rintro⟨i,o,hl,hb⟩;exact⟨i,o,(I5 i).2 hl,hb⟩
 have hA:De (Dd s.hp id (some (.st c'))) β Y=De s.hp β Y:=by
  funext b;unfold De;rw[hX]
 have Gg:∀i,s.hp i≠none->Dd s.hp id (some (.st c')) i≠none:=by
  intro i hi;by_cases e:i=id
  ·subst e;rw[A3];simp
  ·rw[Aq _ _ e];exact hi
 have Bae:∀i,Dd s.hp id (some (.st c')) i≠none->s.hp i≠none:=by
  intro i hi;by_cases e:i=id
  ·subst e;rw[h0];simp
  ·rw[Aq _ _ e] at hi;exact hi
 refine⟨h.dfr,h.tsz,h.tmo,?_,?_,?_,?_,?_,?_,?_,?_,fun i hi=>⟨Gg _ (h.pin i hi).1,(h.pin i hi).2⟩,?_,?_,h.Ylt,h.fr⟩
 ·intro i hi;show Ed w (De (Dd s.hp id _) β Y) β _ _;rw[hA];exact h.tms i hi
 ·intro i b hb;show U5 w (De (Dd s.hp id _) β Y) β i b;rw[hA];by_cases e:i=id
  ·subst e;change Dd s.hp i (some (.st c')) i=some b at hb;rw[A3] at hb;cases hb;obtain⟨b,o,h1,h2,h3⟩:=h.box i _ h0;refine⟨b,o,h1,fun j p hj=>?_,fun j hj=>h3 j (by rw[←hl];exact hj)⟩
   obtain⟨q,hq,hqp,_⟩:=hc j p hj;obtain⟨v,hv,hr⟩:=h2 j q hq;exact⟨v,hv,hqp v hr⟩
  ·change Dd s.hp id (some (.st c')) i=some b at hb;rw[Aq _ _ e] at hb;exact h.box i b hb
 ·intro i i' b o o' hl Ou hb I7;exact h.inj i i' b o o' ((I5 i).1 hl) ((I5 i').1 Ou) hb I7
 ·intro i b o hn hb;exact h.blt i b o (Bae i hn) hb
 ·intro i hi j hj;exact Gg j (h.wfT i hi j hj)
 ·intro i cells hb p hp j hj;change Dd s.hp id (some (.st c')) i=_ at hb;by_cases e:i=id
  ·subst e;rw[A3] at hb;cases hb;obtain⟨k,hk⟩:=List.mem_iff_getElem?.1 hp;obtain⟨_,_,_,hr⟩:=hc k p hk;exact Gg j (hr j hj)
  ·rw[Aq _ _ e] at hb;exact Gg j (h.wfB i cells hb p hp j hj)
 ·intro b hb;exact h.ownd b (by rw[←hX];exact hb)
 ·intro i bx b o hb hlb hβ Cc j hj;change Dd s.hp id (some (.st c')) i=some bx at hb;by_cases e:i=id
  ·subst e;rw[A3] at hb;cases hb;exact h.rngB i _ b o h0 trivial hβ Cc j (by unfold BR at hj ⊢;simp only[hl] at hj;exact hj)
  ·rw[Aq _ _ e] at hb;exact h.rngB i bx b o hb hlb hβ Cc j hj
 ·intro i c1 b o hb hβ Cc;change Dd s.hp id (some (.st c')) i=_ at hb;by_cases e:i=id
  ·subst e;exact h.stp i c b o h0 hβ Cc
  ·rw[Aq _ _ e] at hb;exact h.stp i c1 b o hb hβ Cc
 ·intro b hY hb;exact h.Yx b hY (by rw[←hX];exact hb)
theorem VB (h:B3 N w0 X0 Y β s a w)(id j:Nat):∃β',B3 N w0 X0 Y β' (Aan N id s j) a w:=by
 unfold Aan;split
 ·rename_i c h0;split
  ·rename_i es hj;cases hn:(s.hp (id+N*(j+1))).isNone
   ·exact⟨β,h⟩
   ·have hn:s.hp (id+N*(j+1))=none:=by simpa using hn
    have Gg:id≠id+N*(j+1):=by
     intro e;rw[←e,h0] at hn;cases hn
    have h1:=h.stepR (d:=none) (v:=.top) (val:=undef) rfl (by simp[Ck,hn]) (Ajp hn (.top _) (by simp[B8,Cl,Az]))
    change B3 N w0 X0 Y (Dd β (id+N*(j+1)) none) ⟨s.tm,Dd s.hp (id+N*(j+1)) (some (.ar false []))⟩ a w at h1
    have h2:=h1.recell (id:=id) (c:=c) (c':=c.set j (.view (id+N*(j+1)) es 0 0)) (by show Dd _ _ _ _=_;rw[Aq _ _ Gg];exact h0) (by simp) (by
     intro k p hp;by_cases e:k=j
     ·subst e
      have Cc:k<c.length:=by
       rcases Nat.lt_or_ge k c.length with h'|h'
       ·exact h'
       ·rw[List.getElem?_eq_none h'] at hj;cases hj
      rw[List.getElem?_set_self Cc] at hp;cases hp;refine⟨_,hj,fun v hv=>.inl ⟨A3 _ _ _,rfl,rfl,none,Ai1 hv⟩,fun i hi=>?_⟩
      simp[Az] at hi;subst hi;show Dd _ _ _ _≠none;rw[A3];simp
     ·rw[List.getElem?_set_ne (fun h=>e h.symm)] at hp
      refine⟨p,hp,fun _ hv=>hv,fun i hi=>?_⟩
      have:=h.wfB id c h0 p (List.mem_of_getElem? hp) i hi;show Dd _ _ _ _≠none;by_cases e':i=id+N*(j+1)
      ·subst e';rw[A3];simp
      ·rw[Aq _ _ e'];exact this)
    refine⟨Dd β (id+N*(j+1)) none,?_⟩;have e3:Dd (Dd s.hp (id+N*(j+1)) (some (.ar false []))) id (some (.st (c.set j (.view (id+N*(j+1)) es 0 0))))=Dd (Dd s.hp id (some (.st (c.set j (.view (id+N*(j+1)) es 0 0))))) (id+N*(j+1)) (some (.ar false [])):=Aea _ _ _ (fun h=>Gg h.symm)
    change B3 N w0 X0 Y (Dd β (id+N*(j+1)) none) ⟨s.tm,Dd (Dd s.hp (id+N*(j+1)) (some (.ar false []))) id (some (.st (c.set j (.view (id+N*(j+1)) es 0 0))))⟩ a w at h2;rw[e3] at h2;exact h2
  ·exact⟨β,h⟩
 ·exact⟨β,h⟩
theorem Th {f:St->Nat->St}(hf:∀s β,B3 N w0 X0 Y β s a w->∀i,∃β',B3 N w0 X0 Y β' (f s i) a w):∀(l:List Nat){s:St}{β:Bt},B3 N w0 X0 Y β s a w->∃β',B3 N w0 X0 Y β' (l.foldl f s) a w
 |[],_,β,h=>⟨β,h⟩
 |i::l,s,β,h=>by
  obtain⟨β1,h1⟩:=hf s β h i;exact Th hf l h1
theorem Aam (h:B3 N w0 X0 Y β s a w)(i:Nat):∃β',B3 N w0 X0 Y β' (Aag N s i) a w:=by
 unfold Aag;split
 ·split
  ·exact Th (fun s β h i=>VB h _ i) _ h
  ·exact⟨β,h⟩
 ·exact⟨β,h⟩
theorem WA:∀{m:List (Nat × Nat)},Fl (m.map (·.2))=true->∀{i i' j:Nat},(i,j)∈m->(i',j)∈m->i=i'
 |[],_,_,_,_,h,_=>by simp at h
 |(x,y)::m,hn,i,i',j,h,h'=>by
  simp only[List.map_cons,Fl,Bool.and_eq_true,Bool.not_eq_true'] at hn
  have hy:∀k,(k,y) ∉ m:=by
   intro k hk;exact Wl hn.1 (List.mem_map.2 ⟨(k,y),hk,rfl⟩)
  rcases List.mem_cons.1 h with e|h
  ·cases e;rcases List.mem_cons.1 h' with e|h'
   ·cases e;rfl
   ·exact absurd h' (hy _)
  ·rcases List.mem_cons.1 h' with e|h'
   ·cases e;exact absurd h (hy _)
   ·exact WA hn.2 h h'
theorem JJ:∀{m:List (Nat × Nat)},Fl (m.map (·.1))=true->∀{i j j':Nat},(i,j)∈m->(i,j')∈m->j=j'
 |[],_,_,_,_,h,_=>by simp at h
 |(x,y)::m,hn,i,j,j',h,h'=>by
  simp only[List.map_cons,Fl,Bool.and_eq_true,Bool.not_eq_true'] at hn
  have hx:∀k,(x,k) ∉ m:=by
   intro k hk;exact Wl hn.1 (List.mem_map.2 ⟨(x,k),hk,rfl⟩)
  rcases List.mem_cons.1 h with e|h
  ·cases e;rcases List.mem_cons.1 h' with e|h'
   ·cases e;rfl
   ·exact absurd h' (hx _)
  ·rcases List.mem_cons.1 h' with e|h'
   ·cases e;exact absurd h (hx _)
   ·exact JJ hn.2 h h'
theorem Q4 {i j:Nat}(h:Nat.beq i j=false):i≠j:=by rintro rfl;rw[Nat.beq_refl] at h;cases h
theorem FG:∀{m:List (Nat × Nat)} {i j:Nat},AY m i=some j->(i,j)∈m
 |[],_,_,h=>by cases h
 |(x,y)::m,i,j,h=>by
  unfold AY at h;cases hb:Nat.beq i x<;>rw[hb] at h
  ·exact List.mem_cons_of_mem _ (FG h)
  ·have:=Nat.eq_of_beq_eq_true hb;cases h;rw[this];simp
theorem KC {m:List (Nat × Nat)} {hp:Nat->Option Bx}:∀{l:List (Nat × Nat)} {j:Nat}{b:Bx},Bu (Qp m hp l) j=some b->∃i b0,(i,j)∈l∧hp i=some b0∧b=Atw m b0
 |[],_,_,h=>by cases h
 |(x,y)::l,j,b,h=>by
  unfold Qp at h;cases hx:hp x with
  |none=>
   rw[hx] at h;obtain⟨i,b0,h1,h2⟩:=KC h;exact⟨i,b0,List.mem_cons_of_mem _ h1,h2⟩
  |some bx=>
   rw[hx] at h;simp only[Bu] at h;cases hb:Nat.beq j y<;>rw[hb] at h
   ·obtain⟨i,b0,h1,h2⟩:=KC h;exact⟨i,b0,List.mem_cons_of_mem _ h1,h2⟩
   ·have:=Nat.eq_of_beq_eq_true hb;subst this;cases h;exact⟨x,bx,by simp,hx,rfl⟩
theorem Sf {m:List (Nat × Nat)} {hp:Nat->Option Bx}:∀{l:List (Nat × Nat)} {i j:Nat},(i,j)∈l->hp i≠none->Bu (Qp m hp l) j≠none
 |[],_,_,h,_=>by simp at h
 |(x,y)::l,i,j,h,hi=>by
  unfold Qp;cases hx:hp x with
  |none=>
   rcases List.mem_cons.1 h with e|h
   ·cases e;exact absurd hx hi
   ·exact Sf h hi
  |some bx=>
   simp only[Bu];cases hb:Nat.beq j y
   ·rcases List.mem_cons.1 h with e|h
    ·cases e;exact absurd rfl (Q4 hb)
    ·exact Sf h hi
   ·simp
def UU (m:List (Nat × Nat)) (j:Nat):Option Nat:=
 match m with
 |[]=>none
 |(x,y)::r=>bif Nat.beq j y then some x else UU r j
theorem Ain:∀{m:List (Nat × Nat)} {i j:Nat},UU m j=some i->(i,j)∈m
 |[],_,_,h=>by cases h
 |(x,y)::m,i,j,h=>by
  unfold UU at h;cases hb:Nat.beq j y<;>rw[hb] at h
  ·exact List.mem_cons_of_mem _ (Ain h)
  ·have:=Nat.eq_of_beq_eq_true hb;cases h;rw[this];simp
theorem Acp:∀{m:List (Nat × Nat)} {i j:Nat},(i,j)∈m->∃k,UU m j=some k
 |[],_,_,h=>by simp at h
 |(x,y)::m,i,j,h=>by
  unfold UU;cases hb:Nat.beq j y
  ·rcases List.mem_cons.1 h with e|h
   ·cases e;exact absurd rfl (Q4 hb)
   ·exact Acp h
  ·exact⟨x,rfl⟩
theorem Abc {f:Nat->PV}:∀{l:List Nat}{i:Nat},lk (l.map fun i=>(i,f i)) i=if i∈l then f i else .top
 |[],_=>rfl
 |x::l,i=>by
  simp only[List.map_cons,lk];cases hb:Nat.beq i x
  ·have:=Q4 hb;simp only[cond_false,Abc,List.mem_cons,this,false_or]
  ·have:=Nat.eq_of_beq_eq_true hb;subst this;simp
theorem XR {m:Nat}:∀{n i:Nat},i∈P9 m n->i<n
 |0,_,h=>by simp[P9] at h
 |n+1,i,h=>by
  simp only[P9,List.mem_append] at h;rcases h with h|h
  ·have:=XR h;omega
  ·cases hb:m.testBit n<;>rw[hb] at h
   ·simp at h
   ·simp at h;omega
theorem YX (h:B3 N w0 X0 Y β s a w){m:List (Nat × Nat)} (h1:Fl (m.map (·.1))=true) (h2:Fl (m.map (·.2))=true) {ls:List Nat}(hls:∀i∈ls,i<N)(hpn:∀i,X0.pn i->(Dl N i,Dl N i)∈m):
  ∃β',B3 N w0 X0 Y β' ⟨lk (ls.map fun i=>(i,Ana m (s.tm i))),Bu (Qp m s.hp m)⟩ a w:=by
 refine⟨fun j=>(UU m j).bind β,?_⟩
 have hβ:∀{i j:Nat},(i,j)∈m->(UU m j).bind β=β i:=by
  intro i j hm;obtain⟨k,hk⟩:=Acp hm;rw[hk];have:=WA h2 (Ain hk) hm;subst this;rfl
 have hold:∀{j:Nat} {b:Bx},Bu (Qp m s.hp m) j=some b->∃i b0,(i,j)∈m∧s.hp i=some b0∧b=Atw m b0∧(UU m j).bind β=β i:=by
  intro j b hb;obtain⟨i,b0,hm,h3,h4⟩:=KC hb;exact⟨i,b0,hm,h3,h4,hβ hm⟩
 have I5:∀{j:Nat},Cv (Bu (Qp m s.hp m) j)->∃i,(i,j)∈m∧Cv (s.hp i)∧(UU m j).bind β=β i:=by
  intro j hl;cases hb:Bu (Qp m s.hp m) j with
  |none=>rw[hb] at hl;exact hl.elim
  |some b=>
   obtain⟨i,b0,hm,h3,rfl,h5⟩:=hold hb;refine⟨i,hm,?_,h5⟩;rw[hb] at hl;rw[h3];cases b0<;>exact hl
 have hX:∀b,DF (Bu (Qp m s.hp m)) (fun j=>(UU m j).bind β) b->DF s.hp β b:=by
  rintro b ⟨j,o,hl,hb⟩
  obtain⟨i,_,Ou,e⟩:=I5 hl;exact⟨i,o,Ou,by rw[←e];exact hb⟩
 have hA:∀b,De (Bu (Qp m s.hp m)) (fun j=>(UU m j).bind β) Y b->De s.hp β Y b:=fun b hb=>hb.imp (hX b) id
 have hC:∀p v,Cj w (De s.hp β Y) β p v->Cj w (De (Bu (Qp m s.hp m)) (fun j=>(UU m j).bind β) Y) (fun j=>(UU m j).bind β) (Ahd m p) v:=by
  intro p v hp;cases p with
  |view id es off n=>
   show Cj _ _ _ (match AY m id with|some j=>.view j es off n|none=>.top) v
   cases hj:AY m id with
   |some j=>
    have e:=hβ (FG hj);rcases hp with⟨e1,e2⟩|⟨b,o,x,cap,e1,e2⟩
    ·exact .inl ⟨by show (UU m j).bind β=none;rw[e];exact e1,e2⟩
    ·exact .inr ⟨b,o,x,cap,by show (UU m j).bind β=_;rw[e];exact e1,e2⟩
   |none=>exact A4.top _
  |ptr id off=>
   show Cj _ _ _ (match AY m id with|some j=>.ptr j off|none=>.top) v
   cases hj:AY m id with
   |some j=>
    have e:=hβ (FG hj);obtain⟨b,o,e1,e2⟩:=hp;exact⟨b,o,by show (UU m j).bind β=_;rw[e];exact e1,e2⟩
   |none=>exact A4.top _
  |sc v=>exact A4.step (Cq.refl _ _) (fun b _=>hA b) hp
  |lst z es n c=>exact A4.step (Cq.refl _ _) (fun b _=>hA b) hp
  |iptr c off=>exact Cj.step (p:=.iptr c off) (Cq.refl _ _) (fun b _=>hA b) (by simp[Az]) hp
  |_=>exact A4.top _
 have hV:∀p v,Ed w (De s.hp β Y) β p v->Ed w (De (Bu (Qp m s.hp m)) (fun j=>(UU m j).bind β) Y) (fun j=>(UU m j).bind β) (Ana m p) v:=by
  intro p v hp;cases p with
  |agg c=>
   obtain⟨vs,e1,e2⟩:=hp;refine⟨vs,e1,Bw.of_at (by simp;exact e2.len) fun i q u hq hu=>?_⟩
   rw[List.getElem?_map] at hq;cases hc:c[i]? with
   |none=>rw[hc] at hq;cases hq
   |some q0=>
    rw[hc] at hq;cases hq;exact hC _ _ (e2.at_ hc hu)
  |view id es off n=>
   have:=hC (.view id es off n) v hp;change Cj _ _ _ (match AY m id with|some j=>.view j es off n|none=>.top) v at this
   show Ed _ _ _ (match AY m id with|some j=>.view j es off n|none=>.top) v
   cases hj:AY m id<;>rw[hj] at this<;>exact this
  |ptr id off=>
   have:=hC (.ptr id off) v hp;change Cj _ _ _ (match AY m id with|some j=>.ptr j off|none=>.top) v at this
   show Ed _ _ _ (match AY m id with|some j=>.ptr j off|none=>.top) v
   cases hj:AY m id<;>rw[hj] at this<;>exact this
  |sc v'=>exact hC (.sc v') v hp
  |lst z es n c=>exact hC (.lst z es n c) v hp
  |iptr c off=>exact hC (.iptr c off) v hp
  |_=>exact A4.top _
 have hrC:∀p i,i∈Az (Ahd m p)->∃k∈Az p,(k,i)∈m:=by
  intro p i hi;cases p with
  |view id es off n=>
   change i∈Az (match AY m id with|some j=>.view j es off n|none=>.top) at hi
   cases hj:AY m id<;>rw[hj] at hi
   ·simp[Az] at hi
   ·simp[Az] at hi;subst hi;exact⟨id,by simp[Az],FG hj⟩
  |ptr id off=>
   change i∈Az (match AY m id with|some j=>.ptr j off|none=>.top) at hi
   cases hj:AY m id<;>rw[hj] at hi
   ·simp[Az] at hi
   ·simp[Az] at hi;subst hi;exact⟨id,by simp[Az],FG hj⟩
  |_=>simp[Ahd,Az] at hi
 have hrV:∀p i,i∈B8 (Ana m p)->∃k∈B8 p,(k,i)∈m:=by
  intro p i hi;cases p with
  |agg c=>
   simp only[Ana,B8,Cl,List.mem_flatMap,List.mem_map] at hi;obtain⟨_,⟨q,hq,rfl⟩,hi⟩:=hi;obtain⟨k,hk,hm⟩:=hrC q i hi;exact⟨k,by simp only[B8,Cl,List.mem_flatMap];exact⟨q,hq,hk⟩,hm⟩
  |view id es off n=>
   refine (hrC (.view id es off n) i ?_).imp fun k hk=>hk
   change i∈B8 (match AY m id with|some j=>.view j es off n|none=>.top) at hi
   show i∈Az (match AY m id with|some j=>.view j es off n|none=>.top)
   cases hj:AY m id<;>rw[hj] at hi<;>exact hi
  |ptr id off=>
   refine (hrC (.ptr id off) i ?_).imp fun k hk=>hk
   change i∈B8 (match AY m id with|some j=>.ptr j off|none=>.top) at hi
   show i∈Az (match AY m id with|some j=>.ptr j off|none=>.top)
   cases hj:AY m id<;>rw[hj] at hi<;>exact hi
  |_=>simp[Ana,Ahd,B8,Cl,Az] at hi
 refine⟨h.dfr,h.tsz,?_,?_,?_,?_,?_,?_,?_,?_,?_,?_,?_,?_,h.Ylt,h.fr⟩
 ·intro i hi;show lk _ i=_;rw[Abc,if_neg (fun hm=>by have:=hls i hm;omega)]
 ·intro i hi;show Ed w _ _ (lk _ i) _;rw[Abc];split
  ·exact hV _ _ (h.tms i hi)
  ·exact A4.top _
 ·intro j b hb;obtain⟨i,b0,hm,h3,rfl,e⟩:=hold hb;have Nv:=h.box i b0 h3;cases b0 with
  |st c=>
   obtain⟨b,o,e1,e2,e3⟩:=Nv;refine⟨b,o,by show (UU m j).bind β=_;rw[e];exact e1,fun k p hp=>?_,fun k hk=>e3 k (by simpa using hk)⟩
   rw[List.getElem?_map] at hp;cases hc:c[k]? with
   |none=>rw[hc] at hp;cases hp
   |some q=>
    rw[hc] at hp;cases hp;obtain⟨v,hv,hr⟩:=e2 k q hc;exact⟨v,hv,hC _ _ hr⟩
  |ar fz c=>
   have:=U5.step' hA Nv;show U5 _ _ _ _ (.ar fz c);rcases this with⟨e1,e2⟩|⟨b,o,e1,e2⟩
   ·exact .inl ⟨by show (UU m j).bind β=_;rw[e];exact e1,e2⟩
   ·exact .inr ⟨b,o,by show (UU m j).bind β=_;rw[e];exact e1,e2⟩
  |mv=>exact trivial
 ·intro j j' b o o' hl Ou hb I7;obtain⟨i,hm,IA,e⟩:=I5 hl;obtain⟨i',Qx,A6s,e'⟩:=I5 Ou;have:=h.inj i i' b o o' IA A6s (by rw[←e];exact hb) (by rw[←e'];exact I7)
  subst this;exact JJ h1 hm Qx
 ·intro j b o hn hb;cases hj:Bu (Qp m s.hp m) j with
  |none=>exact absurd hj hn
  |some bx=>
   obtain⟨i,b0,_,h3,_,e⟩:=hold hj;exact h.blt i b o (by rw[h3];simp) (by rw[←e];exact hb)
 ·intro i hi j hj;change j∈B8 (lk _ i) at hj;rw[Abc] at hj;split at hj
  ·obtain⟨k,hk,hm⟩:=hrV _ j hj;exact Sf hm (h.wfT i hi k hk)
  ·simp[B8,Cl,Az] at hj
 ·intro j cells hb p hp k hk;obtain⟨i,b0,_,h3,h4,_⟩:=hold hb;cases b0 with
  |st c=>
   cases h4;obtain⟨q,hq,rfl⟩:=List.mem_map.1 hp;obtain⟨k',I2,hm⟩:=hrC q k hk;exact Sf hm (h.wfB i c h3 q hq k' I2)
  |ar fz c=>cases h4
  |mv=>cases h4
 ·intro b hb;exact h.ownd b (hX b hb)
 ·intro j bx b o hb hlb hβ1 Cc k hk;obtain⟨i,b0,_,h3,h4,e⟩:=hold hb;subst h4;refine h.rngB i b0 b o h3 ?_ (by rw[←e];exact hβ1) Cc k ?_
  ·cases b0<;>exact hlb
  ·cases b0 with
   |st c=>simpa [BR,Atw] using hk
   |ar fz c=>exact hk
   |mv=>exact hk
 ·intro i hi;exact⟨Sf (hpn i hi) (h.pin i hi).1,(hβ (hpn i hi)).trans (h.pin i hi).2⟩
 ·intro j c b o hb hβ1 Cc;obtain⟨i,b0,hm,h3,h4,e⟩:=hold hb;cases b0 with
  |st c0=>
   obtain⟨k,rfl,hk⟩:=h.stp i c0 b o h3 (by rw[←e];exact hβ1) Cc
   exact⟨k,JJ h1 hm (hpn k hk),hk⟩
  |ar fz c0=>cases h4
  |mv=>cases h4
 ·intro b hY hb;exact h.Yx b hY (hX b hb)
theorem AG {m:List (Nat × Nat)} {q:Nat × Nat}{o n:Nat}(h:q∈m):q∈XV m o n:=by
 unfold XV;split
 ·exact h
 ·exact List.mem_append.2 (.inl h)
theorem Pw {q:Nat × Nat}{new:Nat}:∀{c:List PV}{j:Nat}{m:List (Nat × Nat)},q∈m->q∈Wk N new c j m
 |[],_,_,h=>h
 |p::c,j,m,h=>by
  unfold Wk;split
  ·rename_i e;cases e
  ·rename_i e;cases e;exact Pw (AG h)
  ·rename_i e;cases e;exact Pw h
theorem Afi {q:Nat × Nat}{m:List (Nat × Nat)} {i:Nat}(h:q∈m):q∈ON N s m i:=by
 unfold ON;split
 ·exact AG h
 ·split
  ·exact h
  ·split
   ·exact Pw (AG h)
   ·exact AG h
 ·exact Pw h
 ·exact h
theorem HZ {q:Nat × Nat}:∀{l:List Nat}{m:List (Nat × Nat)},q∈m->q∈l.foldl (ON N s) m
 |[],_,h=>h
 |_::l,_,h=>HZ (l:=l) (Afi h)
theorem Wa {q:Nat × Nat}{m:List (Nat × Nat)} (h:q∈m):∀k,q∈Zk N s.hp k m
 |0=>h
 |k+1=>by
  unfold Zk;split
  ·exact Pw (Wa h k)
  ·exact Wa h k
theorem YR:∀{k i:Nat},i<k->s.hp (Dl N i)≠none->(Dl N i,Dl N i)∈Acc N s.hp k
 |0,_,h,_=>by omega
 |k+1,i,h,hn=>by
  unfold Acc;by_cases e:i=k
  ·subst e
   have:(s.hp (Dl N i)).isSome=true:=by
    cases hq:s.hp (Dl N i) with
    |none=>exact absurd hq hn
    |some b=>rfl
   rw[this];simp
  ·have:=YR (k:=k) (i:=i) (by omega) hn
   cases (s.hp (Dl N k)).isSome
   ·exact this
   ·exact List.mem_append.2 (.inl this)
theorem LX (h:B3 N w0 X0 Y β s a w){L:Nat}{q:Bool}{K:St->Option R}(hk:Aje N (P9 L N) q s K=some r):∃β' s',K s'=some r∧B3 N w0 X0 Y β' s' a w:=by
 unfold Aje at hk;obtain⟨hb,Eb⟩:=Ax hk;simp only[Bool.and_eq_true] at hb
 obtain⟨β2,h2⟩:∃β2,B3 N w0 X0 Y β2 (bif q then s else (P9 L N).foldl (Aag N) ((P9 L N).foldl (OI N) s)) a w:=by
  cases q
  ·obtain⟨β1,h1⟩:=Th (fun s β h i=>UF h i) (P9 L N) h
   obtain⟨β2,h2⟩:=Th (fun s β h i=>Aam h i) (P9 L N) h1
   exact⟨β2,h2⟩
  ·exact⟨β,h⟩
 obtain⟨β3,h3⟩:=YX h2 hb.1 hb.2 (ls:=P9 L N) (fun i hi=>XR hi) (fun i hi=>HZ (Wa (YR (X0.p8 i hi) (h2.pin i hi).1) 8))
 exact⟨β3,_,Eb,h3⟩
theorem B6 (h:B3 N w0 X0 Y β s a w){L:Nat}{K:St->Option R}(hk:I3 N L s K=some r):∃β' s',K s'=some r∧B3 N w0 X0 Y β' s' a w:=LX h hk
theorem LZ (h:B3 N w0 X0 Y β s a w){L:Nat}{K:St->Option R}(hk:Aeq N L s K=some r):∃β' s',K s'=some r∧B3 N w0 X0 Y β' s' a w:=LX h hk
end
open Go.RowKit
section
variable {R:Type} {r:R} {P:Program} {N:Nat} {w0:World} {X0:Fz} {Y:Nat->Prop} {C:Ji} {call:Af}
theorem Zz {n:Nat}{F:St->Option R}{s:St}(h:QS n F s=some r):F s=some r:=by
 unfold QS at h;split at h
 ·cases h
 ·exact h
theorem MO {β:Bt}{s:St}{a:Act}{w:World}(h:B3 N w0 X0 Y β s a w){c:Operand}{kt kf:St->Option R}(hk:Ap0 s c kt kf=some r):(a.eval c=.bool true∧kt s=some r)∨(a.eval c=.bool false∧kf s=some r):=by
 unfold Ap0 at hk;split at hk
 ·rename_i d;split at hk
  ·rename_i b ht;have hv:a.eval (.tmp d)=.bool b:=Df h (x:=.tmp d) ht;cases b
   ·change kf ⟨Dd s.tm d (.sc (.bool false)),s.hp⟩=some r at hk;rw[FR s.tm ht] at hk;exact .inr ⟨hv,hk⟩
   ·change kt ⟨Dd s.tm d (.sc (.bool true)),s.hp⟩=some r at hk;rw[FR s.tm ht] at hk;exact .inl ⟨hv,hk⟩
  ·rename_i ht;have hu:=Dy h (.tmp d);change Ed _ _ _ (s.tm d) _ at hu;rw[ht] at hu;have Mw:A4 w _ .ub (a.eval (.tmp d)):=hu
   obtain⟨b,hv⟩:∃b,a.eval (.tmp d)=.bool b:=by
    generalize a.eval (.tmp d)=x at Mw;cases Mw with
    |ub b=>exact⟨b,rfl⟩
   obtain⟨h1,h2⟩:=XQ hk;cases b
   ·exact .inr ⟨hv,h2⟩
   ·exact .inl ⟨hv,h1⟩
  ·cases hk
 ·exact .inl ⟨rfl,hk⟩
 ·exact .inr ⟨rfl,hk⟩
 ·cases hk
theorem ST {c:Code}{Q:Exit->Act->World->Prop}{F:(St->Option R)->St->Option R} {nm:St->(St->Option R)->Option R}
  (hnm:∀{β s a w} {K:St->Option R},B3 N w0 X0 Y β s a w->nm s K=some r->∃β' s',K s'=some r∧B3 N w0 X0 Y β' s' a w)
  (hF:∀{β s a w} {K:St->Option R}{Q':Act->World->Prop},B3 N w0 X0 Y β s a w->F K s=some r->(∀s' a' w' β',K s'=some r->B3 N w0 X0 Y β' s' a' w'->Q' a' w')->c.wp P (Exit.then Q' Q) a w):
  ∀(n:Nat) {β s a w},B3 N w0 X0 Y β s a w->VK F nm n s=some r->Code.rounds P c Q n a w
 |0,_,_,_,_,_,hk=>by cases hk
 |n+1,β,s,a,w,h,hk=>by
  rw[rounds_succ];refine hF h hk fun s' a' w' β' I2 h'=>?_
  obtain⟨β1,s1,Eb,h1⟩:=hnm h' I2;exact ST hnm hF n h1 Eb
theorem DN {G:U7}(Jr:LO P G w0 X0)(C6:∀f args res,call f args=some res->Da G P f args res)(hm:P.follows .mixedOrders=true){fu:Nat}:
  ∀(c:Code) {ln:Nat} {lx:Nat->Nat} {lr:Nat} {kn:St->Option R} {kx:Nat->St->Option R} {kr:St->Option R} {β:Bt} {s:St} {a:Act} {w:World} {Q:Exit->Act->World->Prop},B3 N w0 X0 Y β s a w ->
   Nj C P fu N call c ln lx lr kn kx kr s=some r->(∀s' a' w' β',kn s'=some r->B3 N w0 X0 Y β' s' a' w'->Q .normal a' w') ->
   (∀id s' a' w' β',kx id s'=some r->B3 N w0 X0 Y β' s' a' w'->Q (.exit id) a' w')->(∀s' a' w' β',kr s'=some r->B3 N w0 X0 Y β' s' a' w'->Q .ret a' w')->c.wp P Q a w:=by
 intro c
 induction c with
 |skip=>intro ln lx lr kn kx kr β s a w Q h hk hn hx hr;exact wp_skip (hn s a w β hk h)
 |region id ops draw=>
  intro ln lx lr kn kx kr β s a w Q h hk hn hx hr;unfold Nj at hk;cases draw
  ·simp only[UW,Bool.false_and,cond_false] at hk;exact ZK h Jr C6 hk hn
  ·simp only[UW,Aos,Bool.true_and,cond_true] at hk;cases hb:RH C P ops<;>rw[hb] at hk
   ·obtain⟨I7,Eb⟩:=Ax (show Ar _ _=some r from hk)
    exact Adp h Jr C6 hm I7 Eb hn
   ·exact YV h Jr C6 hm hb hk hn
 |seq c1 c2 ih1 ih2=>
  intro ln lx lr kn kx kr β s a w Q h hk hn hx hr;unfold Nj at hk
  refine wp_seq (ih1 h hk (fun s' a' w' β' I2 h'=>by
    cases hc:Ai2 P c1 c2
    ·rw[hc] at I2;exact ih2 h' I2 hn hx hr
    ·rw[hc] at I2;cases hq:GM c1 c2
     ·rw[hq] at I2;obtain⟨β1,s1,Eb,h1⟩:=B6 h' (show I3 _ _ _ _=some r from I2)
      exact ih2 h1 (Zz Eb) hn hx hr
     ·rw[hq] at I2;obtain⟨β1,s1,Eb,h1⟩:=LZ h' (show Aeq _ _ _ _=some r from I2)
      exact ih2 h1 (Zz Eb) hn hx hr) (fun id s' a' w' β' I2 h'=>hx id s' a' w' β' I2 h') (fun s' a' w' β' I2 h'=>hr s' a' w' β' I2 h'))
 |cond c c1 c2 ih1 ih2=>
  intro ln lx lr kn kx kr β s a w Q h hk hn hx hr;unfold Nj at hk;rcases MO h hk with⟨hc,Eb⟩|⟨hc,Eb⟩
  ·exact wp_cond_true hc (ih1 h Eb hn hx hr)
  ·exact wp_cond_false hc (ih2 h Eb hn hx hr)
 |block id c ih=>
  intro ln lx lr kn kx kr β s a w Q h hk hn hx hr;unfold Nj at hk;refine wp_block (ih h hk (fun s' a' w' β' I2 h'=>hn s' a' w' β' I2 h') (fun j s' a' w' β' I2 h'=>?_) (fun s' a' w' β' I2 h'=>hr s' a' w' β' I2 h'))
  show (if j=id then _ else _)
  by_cases e:j=id
  ·subst e;rw[if_pos rfl];rw[Nat.beq_refl] at I2;exact hn s' a' w' β' I2 h'
  ·rw[if_neg e]
   have:Nat.beq j id=false:=by
    cases hb:Nat.beq j id
    ·rfl
    ·exact absurd (Nat.eq_of_beq_eq_true hb) e
   rw[this] at I2;exact hx j s' a' w' β' I2 h'
 |loop c ih=>
  intro ln lx lr kn kx kr β s a w Q h hk hn hx hr;unfold Nj at hk;obtain⟨β1,s1,Eb,h1⟩:=B6 h hk;refine wp_loop_rounds fu (ST (fun h hk=>B6 h hk) (fun h hk hQ=>?_) fu h1 Eb)
  exact ih h hk hQ (fun id s' a' w' β' I2 h'=>hx id s' a' w' β' I2 h') (fun s' a' w' β' I2 h'=>hr s' a' w' β' I2 h')
 |«exit» id=>intro ln lx lr kn kx kr β s a w Q h hk hn hx hr;exact wp_exit (hx id s a w β hk h)
 |ret=>intro ln lx lr kn kx kr β s a w Q h hk hn hx hr;exact wp_ret (hr s a w β hk h)
 |_=>intro ln lx lr kn kx kr β s a w Q h hk hn hx hr;cases hk
end
open Go.RowKit
theorem Qt:∀{l:List (Nat × Bx)} {i:Nat}{b:Bx},Bu l i=some b->(i,b)∈l
 |[],_,_,h=>by cases h
 |(j,c)::l,i,b,h=>by
  unfold Bu at h;cases hb:Nat.beq i j<;>rw[hb] at h
  ·exact List.mem_cons_of_mem _ (Qt h)
  ·have:=Nat.eq_of_beq_eq_true hb;cases h;rw[this];simp
theorem ZL:∀{l:List (Nat × Bx)},(l.map (·.1)).Nodup->∀{i b},(i,b)∈l->Bu l i=some b
 |[],_,_,_,h=>by cases h
 |(j,c)::l,hn,i,b,h=>by
  simp only[List.map_cons,List.nodup_cons] at hn;unfold Bu;rcases List.mem_cons.1 h with e|h
  ·cases e;simp only[Nat.beq_refl,cond_true]
  ·have:Nat.beq i j=false:=by
    cases hb:Nat.beq i j
    ·rfl
    ·exact absurd (Nat.eq_of_beq_eq_true hb ▸ List.mem_map.2 ⟨_,h,rfl⟩) hn.1
   simp only[this,cond_false];exact ZL hn.2 h
section
variable {R:Type} {r:R} {P:Program} {N:Nat} {w0:World} {X0:Fz} {Y:Nat->Prop} {β β':Bt} {s:St} {a:Act} {w w':World} {A:Nat->Prop}
theorem Arn {id:Nat}{t:CT}{p:PV}{K:PV->List (Nat × Bx)->Option R} (hk:Ap9 id t p K=some r):
  (∃c,K c []=some r∧BL c∧∀w A q u,Jm w A q p u->A4 w A c u)∨∃es n cc,p=.own es n cc∧K (.view id es 0 n) [(id,.ar false cc)]=some r:=by
 have tree:∀t',(JL t' p fun c=>K c [])=some r->∃c,K c []=some r∧BL c∧∀w A q u,Jm w A q p u->A4 w A c u:=by
  intro t' hk;obtain⟨c,hk,hT,QV,hv⟩:=Q0 hk;refine⟨c,hk,hT,fun w A q u h=>(hv w A (fun _=>none) u ?_).1⟩
  cases p<;>first|exact h|exact QV.elim
 unfold Ap9 at hk;cases t with
 |sl es=>
  dsimp only at hk;split at hk
  ·rename_i es' n c;cases hb:Nat.beq es' es<;>rw[hb] at hk
   ·cases hk
   ·have:=Nat.eq_of_beq_eq_true hb;subst this;exact .inr ⟨_,_,_,rfl,hk⟩
  ·exact .inl (tree (.sl es) hk)
 |int k=>exact .inl (tree _ hk)
 |bool=>exact .inl (tree _ hk)
 |str=>exact .inl (tree _ hk)
 |any=>exact .inl (tree _ hk)
theorem Uq:∀{ts:List CT}{id:Nat}{ps:List PV}{K:List PV->List (Nat × Bx)->Option R},LJ N id ts ps K=some r ->
  ∃cs bs,∃qs:List (Nat × Nat),K cs bs=some r∧cs.length=ps.length∧ps.length=ts.length∧bs.map (·.1)=qs.map (·.1)∧(∀q∈qs,∀q'∈qs,q.2=q'.2->q.1=q'.1) ∧
   (∀i bx,(i,bx)∈bs->∃c,bx=.ar false c)∧(∀c∈cs,UO c)∧(∀c∈cs,∀i∈Az c,∃bx,(i,bx)∈bs) ∧
   ∀(w:World) (A:Nat->Prop) (own β':Bt) (j0:Nat) (us:List Value),(∀q∈qs,β' q.1=own (j0+q.2))->Hf w A own j0 ps us->Bw (Cj w A β') cs us∧∀i bx,(i,bx)∈bs->U5 w A β' i bx
 |[],id,ps,K,hk=>by
  obtain⟨rfl,hk⟩:=Ef hk;refine⟨[],[],[],hk,rfl,rfl,rfl,by simp,by simp,by simp,by simp,fun w A own β' j0 us _ h=>⟨?_,by simp⟩⟩
  cases us with
  |nil=>trivial
  |cons u us=>exact h.elim
 |t::ts,id,ps,K,hk=>by
  unfold LJ at hk;obtain⟨p,ps',LH,Eb⟩:=Bl hk;subst LH;rcases Arn Eb with⟨c,Gi,hT,hv⟩|⟨es,n,cc,rfl,Gi⟩
  ·obtain⟨cs,bs,qs,Un,hl,NQ,hb,OT,Ib,hF,Ot,Ui⟩:=Uq Gi;refine⟨c::cs,bs,qs.map (fun q=>(q.1,q.2+1)),Un,by simp[hl],by simp[NQ],by rw[hb];simp,?_,Ib,?_,?_,fun w A own β' j0 us hβ ho=>?_⟩
   ·intro q hq q' H0 e;obtain⟨q0,DE,rfl⟩:=List.mem_map.1 hq;obtain⟨q1,M9,rfl⟩:=List.mem_map.1 H0;exact OT q0 DE q1 M9 (by simp only at e;omega)
   ·intro y hy;rcases List.mem_cons.1 hy with rfl|hy
    ·exact V7 hT
    ·exact hF y hy
   ·intro y hy i hi;rcases List.mem_cons.1 hy with rfl|hy
    ·rw[Kt hT] at hi;cases hi
    ·exact Ot y hy i hi
   ·cases us with
    |nil=>exact ho.elim
    |cons u us=>
     obtain⟨h1,h2⟩:=Ui w A own β' (j0+1) us (fun q hq=>by rw[hβ _ (List.mem_map_of_mem hq)];congr 1;simp only;omega) ho.2
     exact⟨⟨Arf (hv w A _ u ho.1),h1⟩,h2⟩
  ·obtain⟨cs,bs,qs,Un,hl,NQ,hb,OT,Ib,hF,Ot,Ui⟩:=Uq Gi;refine⟨_::cs,(id,.ar false cc)::bs,(id,0)::qs.map (fun q=>(q.1,q.2+1)),Un,by simp[hl],by simp[NQ],by simp only[List.map_cons,hb];simp,?_,?_,?_,?_,fun w A own β' j0 us hβ ho=>?_⟩
   ·intro q hq q' H0 e;rcases List.mem_cons.1 hq with rfl|hq
    ·rcases List.mem_cons.1 H0 with rfl|H0
     ·rfl
     ·obtain⟨q0,DE,rfl⟩:=List.mem_map.1 H0;simp only at e;omega
    ·obtain⟨q0,DE,rfl⟩:=List.mem_map.1 hq;rcases List.mem_cons.1 H0 with rfl|H0
     ·simp only at e;omega
     ·obtain⟨q1,M9,rfl⟩:=List.mem_map.1 H0;exact OT q0 DE q1 M9 (by simp only at e;omega)
   ·intro i bx hm;rcases List.mem_cons.1 hm with e|hm
    ·cases e;exact⟨cc,rfl⟩
    ·exact Ib i bx hm
   ·intro y hy;rcases List.mem_cons.1 hy with rfl|hy
    ·trivial
    ·exact hF y hy
   ·intro y hy i hi;rcases List.mem_cons.1 hy with rfl|hy
    ·simp only[Az,List.mem_singleton] at hi;subst hi;exact⟨_,List.mem_cons_self⟩
    ·obtain⟨bx,Nv⟩:=Ot y hy i hi;exact⟨bx,List.mem_cons_of_mem _ Nv⟩
   ·cases us with
    |nil=>exact ho.elim
    |cons u us=>
     obtain⟨h1,h2⟩:=Ui w A own β' (j0+1) us (fun q hq=>by rw[hβ _ (List.mem_cons_of_mem _ (List.mem_map_of_mem hq))];congr 1;simp only;omega) ho.2
     have h0:=hβ (id,0) List.mem_cons_self;simp only[Nat.add_zero] at h0;refine⟨⟨?_,h1⟩,fun i bx hm=>?_⟩
     ·rcases ho.1 with⟨h3,rfl,_,h5⟩|⟨b,ob,cap,h3,h4,h5,h6,h7,_⟩
      ·exact .inl ⟨h0.trans h3,rfl,rfl,h5⟩
      ·exact .inr ⟨b,ob,ob,cap,h0.trans h3,h4,.inl rfl,h5,h6,h7⟩
     ·rcases List.mem_cons.1 hm with e|hm
      ·cases e;exact GA ho.1 h0
      ·exact h2 i bx hm
theorem Awe {i:Nat}{t:TypeId}{p:PV}{K:PV->List (Nat × Bx)->Option R} (hk:inK P N i t p K=some r):
  ∃v bs,∃qs:List (Nat × Nat),K v bs=some r∧bs.map (·.1)=qs.map (·.1)∧(∀q∈qs,∀q'∈qs,q.2=q'.2->q.1=q'.1)∧(FY p=true->(Dl N i,0)∈qs∧i<8) ∧
   (∀id bx,(id,bx)∈bs->Cv (some bx)∧∀c,bx=.st c->id=Dl N i∧FY p=true)∧(∀id∈B8 v,∃bx,(id,bx)∈bs)∧IP bs ∧
   ∀(w:World) (A:Nat->Prop) (bt β':Bt) (u:Value),(∀q∈qs,β' q.1=bt q.2)->Ab7 w A bt p u->Ed w A β' v u∧(∀id bx,(id,bx)∈bs->U5 w A β' id bx) ∧
    ∀id bx b o,(id,bx)∈bs->β' id=some (b,o)->∀j,BR bx o j->A1w bt p b j:=by
 have owns:∀{bs:List (Nat × Bx)} {qs:List (Nat × Nat)},bs.map (·.1)=qs.map (·.1)->(∀i bx,(i,bx)∈bs->∃c,bx=.ar false c)->∀{bt β':Bt},(∀q∈qs,β' q.1=bt (1+q.2))->∀id bx b o,(id,bx)∈bs->β' id=some (b,o)->∀j,BR bx o j->∃k o',bt (k+1)=some (b,o')∧o'<=j:=by
  intro bs qs hb Ib bt β' hβ id bx b o hm ZH j hj;have:id∈qs.map (·.1):=by rw[←hb];exact List.mem_map.2 ⟨_,hm,rfl⟩
  obtain⟨q,hq,rfl⟩:=List.mem_map.1 this;obtain⟨c,rfl⟩:=Ib _ _ hm;rw[hβ q hq,Nat.add_comm] at ZH;exact⟨q.2,o,ZH,hj⟩
 have nost:∀{bs:List (Nat × Bx)},(∀i bx,(i,bx)∈bs->∃c,bx=.ar false c)->IP bs:=by
  intro bs Ib id cells hm;obtain⟨c,e⟩:=Ib id _ hm;cases e
 unfold inK at hk;split at hk
 ·rename_i e he;obtain⟨ps,rfl,Eb⟩:=YG hk;obtain⟨hi8,Gi⟩:=Ax Eb;have hi8:i<8:=Nat.lt_of_succ_le (Nat.le_of_ble_eq_true hi8);obtain⟨cs,bs,qs,Un,hl,NQ,hb,OT,Ib,hF,Ot,hv⟩:=Uq Gi;refine⟨_,_,(Dl N i,0)::qs.map (fun q=>(q.1,q.2+1)),Un,by simp only[List.map_cons,hb];simp,?_,fun _=>⟨List.mem_cons_self,hi8⟩,?_,?_,?_,fun w A bt β' u hβ hp=>?_⟩
  ·intro q hq q' H0 e;rcases List.mem_cons.1 hq with rfl|hq
   ·rcases List.mem_cons.1 H0 with rfl|H0
    ·rfl
    ·obtain⟨q0,DE,rfl⟩:=List.mem_map.1 H0;simp only at e;omega
   ·obtain⟨q0,DE,rfl⟩:=List.mem_map.1 hq;rcases List.mem_cons.1 H0 with rfl|H0
    ·simp only at e;omega
    ·obtain⟨q1,M9,rfl⟩:=List.mem_map.1 H0;exact OT q0 DE q1 M9 (by simp only at e;omega)
  ·intro id bx hm;rcases List.mem_cons.1 hm with e|hm
   ·cases e;exact⟨trivial,fun _ _=>⟨rfl,rfl⟩⟩
   ·obtain⟨c,rfl⟩:=Ib id bx hm;exact⟨trivial,fun _ e=>by cases e⟩
  ·intro id Br;simp only[B8,Cl,Az,List.mem_singleton] at Br;subst Br;exact⟨_,List.mem_cons_self⟩
  ·intro id cells hm c hc k hk;rcases List.mem_cons.1 hm with e|hm
   ·cases e;obtain⟨bx,Nv⟩:=Ot c hc k hk;exact⟨bx,List.mem_cons_of_mem _ Nv⟩
   ·obtain⟨c,e⟩:=Ib id _ hm;cases e
  ·obtain⟨b,o,h1,rfl,_,vs,h3,h4,h5⟩:=hp;have h0:=hβ (Dl N i,0) List.mem_cons_self;simp only at h0;have hβ1:∀q∈qs,β' q.1=bt (1+q.2):=fun q hq=>by rw[hβ _ (List.mem_cons_of_mem _ (List.mem_map_of_mem hq)),Nat.add_comm]
   obtain⟨h6,h7⟩:=hv w A bt β' 1 vs hβ1 h3;refine⟨⟨b,o,h0.trans h1,by simp⟩,fun id bx hm=>?_,fun id bx b' o' hm I7 j hj=>?_⟩
   ·rcases List.mem_cons.1 hm with e|hm
    ·cases e;refine⟨b,o,h0.trans h1,fun k c hk=>?_,fun k hk=>h5 k (by omega)⟩
     obtain⟨v,hv,hcr⟩:=h6.get hk;exact⟨v,h4 k v hv,hcr⟩
    ·exact h7 id bx hm
   ·rcases List.mem_cons.1 hm with e|hm
    ·cases e;rw[h0] at I7;have hj:o'<=j∧j<o'+cs.length:=hj;exact .inr ⟨o',ps,I7,hj.1,.inl ⟨rfl,by omega⟩⟩
    ·exact .inl (owns hb Ib hβ1 id bx b' o' hm I7 j hj)
 ·split at hk
  ·rename_i ps;obtain⟨e,he,Eb⟩:=Dt hk;obtain⟨hi8,Gi⟩:=Ax Eb;have hi8:i<8:=Nat.lt_of_succ_le (Nat.le_of_ble_eq_true hi8);obtain⟨q,qr,hq,Un⟩:=Bl Gi;subst hq;obtain⟨NI,T8⟩:=Ef Un;subst NI;unfold Gw at T8;split at T8
   ·rename_i es' n c;cases hb:Nat.beq es' (Bm P e)<;>rw[hb] at T8
    ·cases T8
    ·have LL:=Nat.eq_of_beq_eq_true hb;subst LL;refine⟨_,_,[(Dl N i,0)],T8,rfl,by simp,fun _=>⟨by simp,hi8⟩,?_,?_,?_,fun w A bt β' u hβ hp=>?_⟩
     ·intro id bx hm;simp only[List.mem_singleton] at hm;cases hm;exact⟨trivial,fun _ e=>by cases e⟩
     ·intro id Br;simp only[B8,Cl,Az,List.mem_singleton] at Br;subst Br;exact⟨_,List.mem_cons_self⟩
     ·intro id cells hm;simp only[List.mem_singleton] at hm;cases hm
     ·obtain⟨es,n',c',h1,h2⟩:=hp;cases h1;have h0:=hβ (Dl N i,0) List.mem_cons_self;simp only at h0;refine⟨?_,fun id bx hm=>?_,fun id bx b' o' hm I7 j hj=>?_⟩
      ·rcases h2 with⟨h3,rfl,_,h5⟩|⟨b,ob,cap,h3,h4,h5,h6,h7,_⟩
       ·exact .inl ⟨h0.trans h3,rfl,rfl,h5⟩
       ·exact .inr ⟨b,ob,ob,cap,h0.trans h3,h4,.inl rfl,h5,h6,h7⟩
      ·simp only[List.mem_singleton] at hm;cases hm;exact GA h2 h0
      ·simp only[List.mem_singleton] at hm;cases hm;rw[h0] at I7;exact .inr ⟨o',_,I7,hj,.inr rfl⟩
   ·cases T8
  ·rename_i hnt;cases H8:Cx P t<;>rw[H8] at hk
   ·simp only[cond_false] at hk;obtain⟨cs,bs,qs,Un,hl,NQ,hb,OT,Ib,hF,Ot,hv⟩:=Uq hk;obtain⟨c,cs',YQ,T8⟩:=Bl Un;subst YQ;obtain⟨NI,WS⟩:=Ef T8;subst NI;have hFc:=hF c (by simp)
    have hnL:FY p=false∨∃ps,p=.pbox ps:=by
     cases p<;>first|exact .inl rfl|exact .inr ⟨_,rfl⟩|exact absurd rfl (hnt _)
    have hpb:∀ps,p ≠ .pbox ps:=by
     rintro ps rfl
     cases hts:K5 P t with
     |nil=>rw[hts] at NQ;simp at NQ
     |cons t' ts=>
      rw[hts] at hk;unfold LJ Ap9 at hk;obtain⟨q,qs1,hq,Eb⟩:=Bl hk;cases hq;cases t'<;>simp[JL,Em,Ae,Bv,Iv,fnK] at Eb
    have hpa:∀ps,p ≠ .agg ps:=by
     rintro ps rfl
     cases hts:K5 P t with
     |nil=>rw[hts] at NQ;simp at NQ
     |cons t' ts=>
      rw[hts] at hk;unfold LJ Ap9 at hk;obtain⟨q,qs1,hq,Eb⟩:=Bl hk;cases hq;cases t'<;>simp[JL,Em,Ae,Bv,Iv,fnK] at Eb
    have hnL:FY p=false:=hnL.elim id (fun ⟨ps,e⟩=>absurd e (hpb ps))
    have BK:B8 c=Az c:=by cases c<;>first|rfl|exact hFc.elim
    refine⟨c,bs,qs.map (fun q=>(q.1,q.2+1)),WS,by rw[hb];simp,?_,(fun h=>by rw[hnL] at h;cases h),?_,fun id Br=>Ot c (by simp) id (by rw[←BK];exact Br),nost Ib,fun w A bt β' u hβ hp=>?_⟩
    ·intro q hq q' H0 e;obtain⟨q0,DE,rfl⟩:=List.mem_map.1 hq;obtain⟨q1,M9,rfl⟩:=List.mem_map.1 H0;exact OT q0 DE q1 M9 (by simp only at e;omega)
    ·intro id bx hm;obtain⟨c,rfl⟩:=Ib id bx hm;exact⟨trivial,fun _ e=>by cases e⟩
    ·have C2:Jm w A (bt 1) p u:=by cases p<;>first|exact hp.2|exact absurd rfl (hpa _)|exact absurd rfl (hpb _)|exact absurd rfl (hnt _)
     have hβ1:∀q∈qs,β' q.1=bt (1+q.2):=fun q hq=>by rw[hβ _ (List.mem_map_of_mem hq),Nat.add_comm]
     obtain⟨h6,h7⟩:=hv w A bt β' 1 [u] hβ1 ⟨C2,trivial⟩;refine⟨?_,h7,fun id bx b' o' hm I7 j hj=>.inl (owns hb Ib hβ1 id bx b' o' hm I7 j hj)⟩
     have h8:=h6.1;cases c<;>first|exact h8|exact hFc.elim
   ·simp only[cond_true] at hk;obtain⟨ps,hp0,Eb⟩:=Kb hk;subst hp0;obtain⟨cs,bs,qs,Un,hl,NQ,hb,OT,Ib,hF,Ot,hv⟩:=Uq Eb;refine⟨_,bs,qs.map (fun q=>(q.1,q.2+1)),Un,by rw[hb];simp,?_,(fun h=>by cases h),?_,fun id Br=>?_,nost Ib,fun w A bt β' u hβ hp=>?_⟩
    ·intro q hq q' H0 e;obtain⟨q0,DE,rfl⟩:=List.mem_map.1 hq;obtain⟨q1,M9,rfl⟩:=List.mem_map.1 H0;exact OT q0 DE q1 M9 (by simp only at e;omega)
    ·intro id bx hm;obtain⟨c,rfl⟩:=Ib id bx hm;exact⟨trivial,fun _ e=>by cases e⟩
    ·obtain⟨c,hc,hi⟩:=List.mem_flatMap.1 (show id∈cs.flatMap Az from Br)
     exact Ot c hc id hi
    ·obtain⟨vs,h1,_,h3⟩:=hp;have hβ1:∀q∈qs,β' q.1=bt (1+q.2):=fun q hq=>by rw[hβ _ (List.mem_map_of_mem hq),Nat.add_comm]
     obtain⟨h6,h7⟩:=hv w A bt β' 1 vs hβ1 h3;exact⟨⟨vs,h1,h6⟩,h7,fun id bx b' o' hm I7 j hj=>.inl (owns hb Ib hβ1 id bx b' o' hm I7 j hj)⟩
theorem Aei:∀{ts:List TypeId}{i:Nat}{ps:List PV}{K:List (Nat × PV)->List (Nat × Bx)->Option R},Agm P N i ts ps K=some r ->
  ∃tms bs,∃qs:List (Nat × Nat × Nat),K tms bs=some r∧bs.map (·.1)=qs.map (·.1)∧(∀q∈qs,i<=q.2.1)∧(∀q∈qs,∀q'∈qs,q.2=q'.2->q.1=q'.1) ∧
   (∀k p,ps[k]?=some p->FY p=true->(Dl N (i+k),i+k,0)∈qs∧i+k<8)∧(∀id bx,(id,bx)∈bs->Cv (some bx)∧∀c,bx=.st c->∃k p,ps[k]?=some p∧FY p=true∧id=Dl N (i+k)) ∧
   (∀j,∀id∈B8 (lk tms j),∃bx,(id,bx)∈bs)∧IP bs ∧
   ∀(w:World) (A:Nat->Prop) (bt:MG) (β':Bt) (us:List Value),(∀q∈qs,β' q.1=bt q.2.1 q.2.2)->Ph w A bt i ps us ->
    (∀j,(∃u,i<=j∧us[j-i]?=some u∧Ed w A β' (lk tms j) u)∨(lk tms j=.top∧(i<=j->us[j-i]?=none)))∧(∀id bx,(id,bx)∈bs->U5 w A β' id bx) ∧
    ∀id bx b o,(id,bx)∈bs->β' id=some (b,o)->∀j,BR bx o j->∃k p,ps[k]?=some p∧A1w (bt (i+k)) p b j
 |[],i,ps,K,hk=>by
  obtain⟨LH,hk⟩:=Ef hk;subst LH;refine⟨[],[],[],hk,rfl,by simp,by simp,by simp,by simp,(fun j id Br=>by cases Br),(by intro i cells hm;cases hm),fun w A bt β' us _ h=>?_⟩
  cases us with
  |nil=>exact⟨fun j=>.inr ⟨rfl,fun _=>by simp⟩,by simp,by simp⟩
  |cons u us=>exact h.elim
 |t::ts,i,ps,K,hk=>by
  unfold Agm at hk;obtain⟨p,ps',LH,Eb⟩:=Bl hk;subst LH;obtain⟨v,bs,qs,Gi,hb,hqi,Ym,Nv,hr,hri,hv⟩:=Awe Eb;obtain⟨tms,bs',qs',Un,I7,A1z,Bah,A30,A9n,hr',A74,Tv⟩:=Aei Gi;refine⟨(i,v)::tms,bs++bs',qs.map (fun q=>(q.1,i,q.2))++qs',Un,by simp only[List.map_append,hb,I7];simp,?_,?_,?_,?_,?_,?_,fun w A bt β' us hβ hp=>?_⟩
  ·intro q hq;rcases List.mem_append.1 hq with hq|hq
   ·obtain⟨q0,DE,rfl⟩:=List.mem_map.1 hq;exact Nat.le_refl _
   ·have:=A1z q hq;omega
  ·intro q hq q' H0 e;rcases List.mem_append.1 hq with hq|hq
   ·obtain⟨q0,DE,rfl⟩:=List.mem_map.1 hq;rcases List.mem_append.1 H0 with H0|H0
    ·obtain⟨q1,M9,rfl⟩:=List.mem_map.1 H0;simp only[Prod.mk.injEq,true_and] at e;exact hqi q0 DE q1 M9 e
    ·have:=A1z q' H0;rw[←e] at this;simp only at this;omega
   ·have h5:=A1z q hq;rcases List.mem_append.1 H0 with H0|H0
    ·obtain⟨q1,M9,rfl⟩:=List.mem_map.1 H0;rw[e] at h5;simp only at h5;omega
    ·exact Bah q hq q' H0 e
  ·intro k p' I2 hL;cases k with
   |zero=>
    simp only[List.getElem?_cons_zero,Option.some.injEq] at I2;subst I2;obtain⟨h1,h2⟩:=Ym hL;exact⟨List.mem_append.2 (.inl (List.mem_map.2 ⟨_,h1,rfl⟩)),h2⟩
   |succ k=>
    obtain⟨h1,h2⟩:=A30 k p' (by simpa using I2) hL
    rw[show i+1+k=i+(k+1) by omega] at h1 h2
    exact⟨List.mem_append.2 (.inr h1),h2⟩
  ·intro id bx hm;rcases List.mem_append.1 hm with hm|hm
   ·obtain⟨h1,h2⟩:=Nv id bx hm;exact⟨h1,fun c hc=>⟨0,p,rfl,(h2 c hc).2,(h2 c hc).1⟩⟩
   ·obtain⟨h1,h2⟩:=A9n id bx hm;refine⟨h1,fun c hc=>?_⟩
    obtain⟨k,p',h3,h4,h5⟩:=h2 c hc;exact⟨k+1,p',by simpa using h3,h4,by rw[h5,show i+1+k=i+(k+1) by omega]⟩
  ·intro j id Br;unfold lk at Br;cases hbq:Nat.beq j i<;>rw[hbq] at Br
   ·obtain⟨bx,h1⟩:=hr' j id Br;exact⟨bx,List.mem_append.2 (.inr h1)⟩
   ·obtain⟨bx,h1⟩:=hr id Br;exact⟨bx,List.mem_append.2 (.inl h1)⟩
  ·intro id cells hm c hc k hk;rcases List.mem_append.1 hm with hm|hm
   ·obtain⟨bx,h1⟩:=hri id cells hm c hc k hk;exact⟨bx,List.mem_append.2 (.inl h1)⟩
   ·obtain⟨bx,h1⟩:=A74 id cells hm c hc k hk;exact⟨bx,List.mem_append.2 (.inr h1)⟩
  ·cases us with
   |nil=>exact hp.elim
   |cons u us=>
    obtain⟨h1,h2,h3⟩:=hv w A (bt i) β' u (fun q hq=>hβ _ (List.mem_append.2 (.inl (List.mem_map_of_mem hq)))) hp.1
    obtain⟨XK,h2',h3'⟩:=Tv w A bt β' us (fun q hq=>hβ q (List.mem_append.2 (.inr hq))) hp.2
    refine⟨fun j=>?_,fun id bx hm=>?_,fun id bx b o hm ZH j hj=>?_⟩
    ·unfold lk;cases hbq:Nat.beq j i
     ·have Gg:=Q4 hbq;simp only[cond_false];rcases XK j with⟨u',h4,h5,h6⟩|⟨h4,h5⟩
      ·refine .inl ⟨u',by omega,?_,h6⟩
       rw[show j-i=(j-(i+1))+1 by omega]
       simpa using h5
      ·refine .inr ⟨h4,fun hij=>?_⟩
       rw[show j-i=(j-(i+1))+1 by omega]
       simpa using h5 (by omega)
     ·have:=Nat.eq_of_beq_eq_true hbq;subst this;exact .inl ⟨u,Nat.le_refl _,by simp,h1⟩
    ·rcases List.mem_append.1 hm with hm|hm
     ·exact h2 id bx hm
     ·exact h2' id bx hm
    ·rcases List.mem_append.1 hm with hm|hm
     ·exact⟨0,p,rfl,h3 id bx b o hm ZH j hj⟩
     ·obtain⟨k,p',h4,h5⟩:=h3' id bx b o hm ZH j hj;exact⟨k+1,p',by simpa using h4,by rw[show i+(k+1)=i+1+k by omega];exact h5⟩
def EM (bt:MG)(args:List PV)(h8:∀k p,args[k]?=some p->FY p=true->k<8):Fz:=
 ⟨BtX bt,XE bt args,fun i=>∃p,args[i]?=some p∧FY p=true,fun i=>bt i 0,fun i ⟨p,h1,h2⟩=>h8 i p h1 h2⟩
theorem IB {ts:List TypeId}{args:List PV}{us:List Value}{bt:MG}{K:List (Nat × PV)->List (Nat × Bx)->Option R} (Zq:Ins w Y bt args us)(hk:Agm P N 0 ts args K=some r):
  ∃tms bs,K tms bs=some r∧(Ck (fun _=>none) bs=true->us.length<=N->∃(h8:∀k p,args[k]?=some p->FY p=true->k<8),∃β0,
   B3 N w (EM bt args h8) Y β0 ⟨lk tms,Bu bs⟩ { tmps:=us.toArray++Array.replicate (N-us.toArray.size) undef,defers:=[] } w):=by
 obtain⟨tms,bs,qs,Eb,hb,DE,hqi,Ym,Nv,hr,hri,hv⟩:=Aei hk;refine⟨tms,bs,Eb,fun Ul hN=>?_⟩
 have Ahb:=V8 Ul
 have h8:∀k p,args[k]?=some p->FY p=true->k<8:=fun k p h1 h2=>by
  have:=(Ym k p h1 h2).2;omega
 have TN:(qs.map (·.1)).Nodup:=by rw[←hb];exact Ahb
 obtain⟨β0,hβ0⟩:∃β0:Bt,∀q∈qs,β0 q.1=bt q.2.1 q.2.2:=by
  have:∀(l:List (Nat × Nat × Nat)),(l.map (·.1)).Nodup->∃β0:Bt,∀q∈l,β0 q.1=bt q.2.1 q.2.2:=by
   intro l
   induction l with
   |nil=>intro _;exact⟨fun _=>none,by simp⟩
   |cons q l ih=>
    intro hn;simp only[List.map_cons,List.nodup_cons] at hn;obtain⟨b1,h1⟩:=ih hn.2;refine⟨Dd b1 q.1 (bt q.2.1 q.2.2),fun q' H0=>?_⟩
    rcases List.mem_cons.1 H0 with rfl|H0
    ·exact A3 _ _ _
    ·have Gg:q'.1≠q.1:=fun e=>hn.1 (by rw[←e];exact List.mem_map.2 ⟨q',H0,rfl⟩)
     rw[Aq _ _ Gg];exact h1 q' H0
  exact this qs TN
 refine⟨h8,β0,?_⟩;obtain⟨hs,hbr,hL⟩:=hv w _ bt β0 us hβ0 Zq.args
 have hqm:∀id bx,(id,bx)∈bs->∃ik,(id,ik)∈qs∧β0 id=bt ik.1 ik.2:=by
  intro id bx hm;have:id∈qs.map (·.1):=by rw[←hb];exact List.mem_map.2 ⟨_,hm,rfl⟩
  obtain⟨q,hq,rfl⟩:=List.mem_map.1 this;exact⟨q.2,hq,hβ0 q hq⟩
 have hX:∀b,DF (Bu bs) β0 b->BtX bt b:=by
  rintro b ⟨id,o,hl,hβ⟩
  cases hq:Bu bs id with
  |none=>rw[hq] at hl;exact hl.elim
  |some bx=>
   obtain⟨ik,_,h2⟩:=hqm id bx (Qt hq);rw[h2] at hβ;exact⟨_,_,_,hβ⟩
 have hA:∀b,De (Bu bs) β0 Y b->BtX bt b∨Y b:=fun b hb=>hb.imp (hX b) id
 have Awv:∀{p:PV} {u:Value},Ed w (fun b=>BtX bt b∨Y b) β0 p u->Ed w (De (Bu bs) β0 Y) β0 p u:=fun h=>h.step (Cq.refl _ _) (fun b _=>hA b) (fun _ _=>rfl)
 refine⟨rfl,by simp;omega,fun i hi=>?_,fun i hi=>?_,?_,?_,?_,fun i hi id Br=>?_,?_,fun b hb=>.inl (hX b hb),?_,?_,?_,fun b hY hXb=>Zq.Yx b hY (hX b hXb),Zq.Ylt,⟨rfl,rfl,rfl,Cq.refl _ _,fun _ _ _ _=>⟨rfl,rfl⟩⟩⟩
 ·rcases hs i with⟨u,_,h,_⟩|⟨h,_⟩
  ·rw[Nat.sub_zero,List.getElem?_eq_none (by omega)] at h;cases h
  ·exact h
 ·rcases hs i with⟨u,_,h,hv⟩|⟨h,h'⟩
  ·rw[Nat.sub_zero] at h
   have Cc:i<us.length:=by
    rcases Nat.lt_or_ge i us.length with h'|h'
    ·exact h'
    ·rw[List.getElem?_eq_none h'] at h;cases h
   have:(us.toArray++Array.replicate (N-us.toArray.size) undef).getD i undef=u:=by
    rw[Array.getD_eq_getD_getElem?,Array.getElem?_append_left (by simpa using Cc)]
    simp[h]
   show Ed w _ _ _ ((us.toArray++Array.replicate (N-us.toArray.size) undef).getD i undef);rw[this];exact Awv hv
  ·show Ed w _ _ (lk tms i) _;rw[h];exact A4.top _
 ·intro id bx hq;exact (hbr id bx (Qt hq)).step' hA
 ·intro id id' b o o' hl Ou hβ hβ';cases hq:Bu bs id with
  |none=>change Cv (Bu bs id) at hl;rw[hq] at hl;exact hl.elim
  |some bx=>
   cases H0:Bu bs id' with
   |none=>change Cv (Bu bs id') at Ou;rw[H0] at Ou;exact Ou.elim
   |some bx'=>
    obtain⟨ik,h1,h2⟩:=hqm id bx (Qt hq);obtain⟨ik',XK,h2'⟩:=hqm id' bx' (Qt H0);rw[h2] at hβ;rw[h2'] at hβ';obtain⟨h3,h4⟩:=Zq.inj _ _ _ _ b o o' hβ hβ';exact hqi _ h1 _ XK (Prod.ext h3 h4)
 ·intro id b o hn hβ;cases hq:Bu bs id with
  |none=>exact absurd hq hn
  |some bx=>
   obtain⟨ik,h1,h2⟩:=hqm id bx (Qt hq);rw[h2] at hβ;exact Zq.lt b ⟨_,_,_,hβ⟩
 ·obtain⟨bx,hm⟩:=hr i id Br;show Bu bs id≠none;rw[ZL Ahb hm];simp
 ·intro id cells hq c hc k hk;obtain⟨bx,hm⟩:=hri id cells (Qt hq) c hc k hk;show Bu bs k≠none;rw[ZL Ahb hm];simp
 ·intro id bx b o hq hl hβ _ j hj;obtain⟨k,p,h1,h2⟩:=hL id bx b o (Qt hq) hβ j hj;rw[Nat.zero_add] at h2;exact⟨k,p,h1,h2⟩
 ·rintro i ⟨p,h1,h2⟩
  have h3:=(Ym i p h1 h2).1;rw[Nat.zero_add] at h3;refine⟨?_,hβ0 _ h3⟩;have:Dl N i∈bs.map (·.1):=by rw[hb];exact List.mem_map.2 ⟨_,h3,rfl⟩
  obtain⟨⟨id,bx⟩,hm,e⟩:=List.mem_map.1 this;show Bu bs (Dl N i)≠none;rw[←e,ZL Ahb hm];simp
 ·intro id c b o hq _ _;obtain⟨k,p,h1,h2,h3⟩:=(Nv id _ (Qt hq)).2 c rfl;rw[Nat.zero_add] at h3;exact⟨k,h3,p,h1,h2⟩
end
open Go.RowKit
def Pm (β:Bt)(l:List (Option Nat)) (j:Nat):Option (Nat × Nat):=((l[j]?).bind id).bind β
section
variable {R:Type} {r:R} {P:Program} {N:Nat} {w0:World} {X0:Fz} {Y:Nat->Prop} {β β':Bt} {s:St} {a:Act} {w w':World} {A:Nat->Prop}
def Aso (s:St)(l:List (Option Nat)):Prop:=∀id,some id∈l->Cv (s.hp id)
def Qi (s:St)(z:List Nat):Prop:=∀id∈z,∃f c,s.hp id=some (.ar f c)
theorem XG (h : B3 N w0 X0 Y β s a w) {shr : Bool} {t : CT} {p : PV} {K : PV -> List Nat -> List Nat -> Option R} (hk : Akc shr s.hp t p K = some r) :
    ∃ c q z, K c (Option.toList q) z = some r ∧ (∀ x, c ≠ .agg x ∧ c ≠ .pbox x) ∧ UO p ∧ (∀ id, q = some id -> ∃ c, s.hp id = some (.ar false c)) ∧ Qi s z ∧
      ∀ (fz : List Nat) A u, (∀ i ∈ z, i ∈ fz) -> Qi s fz -> (∀ b, A b -> De (Ag s.hp fz) β Y b) -> Cj w (De s.hp β Y) β p u -> Jm w A (q.bind β) c u := by
  have notree : ∀ {c : PV}, BL c -> ∀ x, c ≠ .agg x ∧ c ≠ .pbox x := fun hT x => ⟨HG hT x, by rintro rfl; exact hT⟩
  unfold Akc at hk
  cases shr <;> simp only[cond_true, cond_false] at hk
  · have tree : ∀ t', (∀ es, t' ≠ .sl es) -> (JL t' p fun c => K c [] []) = some r -> ∃ c q z, K c (Option.toList q) z = some r ∧ (∀ x, c ≠ .agg x ∧ c ≠ .pbox x) ∧ UO p ∧ (∀ id, q = some id -> ∃ c, s.hp id = some (.ar false c)) ∧ Qi s z ∧
        ∀ (fz : List Nat) A u, (∀ i ∈ z, i ∈ fz) -> Qi s fz -> (∀ b, A b -> De (Ag s.hp fz) β Y b) -> Cj w (De s.hp β Y) β p u -> Jm w A (q.bind β) c u := by
      intro t' Gg hk
      obtain⟨c, Eb, hT, QV, hv⟩ := Q0 hk
      refine⟨c, none, [], Eb, notree hT, V7 QV, by simp, (by intro i hi; cases hi), fun fz A u _ _ hA hc => Of hT ?_⟩
      exact (hv w _ β u hc).1.step (Cq.refl _ _) (fun b _ hb => R9 (hA b hb))
    unfold Aw8 at hk
    cases t with
    | sl es =>
      dsimp only at hk
      split at hk
      · rename_i id es' off n
        cases hb : (Nat.beq es' es && Nat.beq off 0) <;> rw[hb] at hk
        · cases hk
        · simp only[Bool.and_eq_true] at hb
          have he := Nat.eq_of_beq_eq_true hb.1
          have ho := Nat.eq_of_beq_eq_true hb.2
          subst he ho
          simp only[cond_true] at hk
          split at hk
          · rename_i c h0
            obtain⟨hl, Eb⟩ := Ax hk
            refine⟨_, some id, [], Eb, by simp, trivial, fun i hi => by cases hi; exact⟨c, h0⟩, (by intro i hi; cases hi), fun fz A u _ _ hA hc => ?_⟩
            rcases hc with⟨h1, _, rfl, h4⟩ | ⟨b, o, x, cap, h1, h2, hx, h3, h4, h5⟩
            · exact .inl ⟨h1, rfl, by simp, h4⟩
            · have hx : x = o := by rcases hx with e | ⟨_, e⟩ <;> omega
              subst hx
              rcases h.box id _ h0 with⟨h6, _⟩ | ⟨b', o', h6, h7, h8, _⟩
              · rw[h1] at h6; cases h6
              · rw[h1] at h6
                cases h6
                refine .inr ⟨b, x, cap, h1, h2, h3, h4, h5, fun j q hq => ?_, fun j hj X5 => h8 rfl j hj X5⟩
                rw[List.getElem?_take] at hq
                split at hq
                · obtain⟨v, hv, h9, ht⟩ := h7 j q hq
                  exact⟨v, hv, h9, ht.step (Cq.refl _ _) (fun b _ hb => R9 (hA b hb))⟩
                · cases hq
          · cases hk
      · obtain⟨z, n, c, Eb, hp⟩ := Ho hk
        obtain⟨hz, Gi⟩ := Ax Eb
        subst hz
        have hpF : UO p := by rcases hp with e | ⟨e, _⟩ <;> (rw[e]; trivial)
        refine⟨_, none, [], Gi, by simp, hpF, by simp, (by intro i hi; cases hi), fun fz A u _ _ _ hc => ?_⟩
        have hu : u = .slice none 0 0 := by
          rcases hp with rfl | ⟨rfl, _⟩
          · cases hc; rfl
          · exact A4.val hc
        exact .inl ⟨rfl, rfl, rfl, none, hu⟩
    | int k => exact tree _ (by simp) hk
    | bool => exact tree _ (by simp) hk
    | str => exact tree _ (by simp) hk
    | any => exact tree _ (by simp) hk
  · obtain⟨c, m, Eb, hT, hF, hm, hv⟩ := SE h hk
    exact⟨c, none, m, Eb, notree hT, hF, by simp, hm, fun fz A u h1 h2 hA hc => Of hT ((hv fz h1 h2 u hc).1.step (Cq.refl _ _) (fun b _ hb => hA b hb))⟩
structure NM (s:St) (β:Bt) (Y:Nat->Prop) (w:World) (cs:List PV) (l:List (Option Nat)) (z:List Nat) (ps:List PV):Prop where
 len:l.length=cs.length
 pl:cs.length=ps.length
 na:∀c∈cs,∀x,c ≠ .agg x∧c ≠ .pbox x
 fr:∀p∈ps,UO p
 own:∀id,some id∈l->∃c,s.hp id=some (.ar false c)
 row:Qi s z
 sem:∀(fz:List Nat) A us,(∀i∈z,i∈fz)->Qi s fz->(∀b,A b->De (Ag s.hp fz) β Y b)->Bw (Cj w (De s.hp β Y) β) ps us->∀own j0,(∀j,j<l.length->own (j0+j)=Pm β l j)->Hf w A own j0 cs us
theorem NM.nil:NM s β Y w [] [] [] []:=⟨rfl,rfl,by simp,by simp,by simp,(by intro i hi;cases hi),fun fz A us _ _ _ hu own j0 _=>by
 cases us with
 |nil=>trivial
 |cons u us=>exact hu.elim⟩
theorem NM.cons {c p:PV}{q:Option Nat}{z zs:List Nat}{cs ps:List PV}{l:List (Option Nat)} (JK:∀x,c ≠ .agg x∧c ≠ .pbox x)(hF:UO p)(hq:∀id,q=some id->∃c,s.hp id=some (.ar false c)) (hz:Qi s z)
  (hv:∀(fz:List Nat) A u,(∀i∈z,i∈fz)->Qi s fz->(∀b,A b->De (Ag s.hp fz) β Y b)->Cj w (De s.hp β Y) β p u->Jm w A (q.bind β) c u) (H:NM s β Y w cs l zs ps):NM s β Y w (c::cs) (q::l) (z++zs) (p::ps):=by
 refine⟨by simp[H.len],by simp[H.pl],?_,?_,?_,?_,fun fz A us hz1 hz2 hA hu own j0 G3=>?_⟩
 ·intro x hx;rcases List.mem_cons.1 hx with rfl|hx
  ·exact JK
  ·exact H.na x hx
 ·intro x hx;rcases List.mem_cons.1 hx with rfl|hx
  ·exact hF
  ·exact H.fr x hx
 ·intro id Br;rcases List.mem_cons.1 Br with e|Br
  ·exact hq id e.symm
  ·exact H.own id Br
 ·intro i hi;rcases List.mem_append.1 hi with hi|hi
  ·exact hz i hi
  ·exact H.row i hi
 ·cases us with
  |nil=>exact hu.elim
  |cons u us=>
   have h0:=G3 0 (by simp)
   rw[Nat.add_zero] at h0;refine⟨?_,H.sem fz A us (fun i hi=>hz1 i (by simp[hi])) hz2 hA hu.2 own (j0+1) fun j hj=>?_⟩
   ·rw[h0];exact hv fz A u (fun i hi=>hz1 i (by simp[hi])) hz2 hA hu.1
   ·have:=G3 (j+1) (by simp;omega)
    rw[show j0+1+j=j0+(j+1) by omega,this]
    simp[Pm]
theorem Wg (h:B3 N w0 X0 Y β s a w){shr:Bool}:∀{ts:List CT}{ps:List PV}{K:List PV->List Nat->List Nat->Option R},JZ shr s.hp ts ps K=some r ->
  ∃cs l z,K cs (l.filterMap id) z=some r∧NM s β Y w cs l z ps
 |[],[],K,hk=>⟨[],[],[],hk,NM.nil⟩
 |[],_::_,K,hk=>by cases hk
 |_::_,[],K,hk=>by cases hk
 |t::ts,p::ps,K,hk=>by
  unfold JZ at hk;obtain⟨c,q,z,Eb,JK,hF,hq,hz,hv⟩:=XG h hk;obtain⟨cs,l,zs,Gi,H⟩:=Wg h Eb;refine⟨c::cs,q::l,z++zs,?_,NM.cons JK hF hq hz hv H⟩;cases q<;>exact Gi
theorem KT (h:B3 N w0 X0 Y β s a w):∀{ts:List CT}{ws ps:List PV}{K:List PV->List Nat->List Nat->Option R},OV s.hp ts ws ps K=some r ->
  ∃cs l z,K cs (l.filterMap id) z=some r∧cs.length=ws.length∧NM s β Y w cs l z ps
 |[],[],[],K,hk=>⟨[],[],[],hk,rfl,NM.nil⟩
 |[],_::_,_,K,hk=>by cases hk
 |[],[],_::_,K,hk=>by cases hk
 |_::_,[],_,K,hk=>by cases hk
 |_::_,_::_,[],K,hk=>by cases hk
 |t::ts,x::ws,p::ps,K,hk=>by
  unfold OV at hk;obtain⟨c,q,z,Eb,JK,hF,hq,hz,hv⟩:=XG h hk;obtain⟨cs,l,zs,Gi,hl,H⟩:=KT h Eb;refine⟨c::cs,q::l,z++zs,?_,by simp[hl],NM.cons JK hF hq hz hv H⟩
  cases q<;>exact Gi
theorem Ahh {own:Bt}{zz j:Nat}{p:PV}{u:Value}(hp:∀x,p ≠ .agg x∧p ≠ .pbox x)(h:Hf w A own j [p] [u]):Awn w A own zz j p u:=by
 cases p<;>first|exact h.1|exact absurd rfl (hp _).1|exact absurd rfl (hp _).2
theorem Akb (h:B3 N w0 X0 Y β s a w){id b o:Nat}{c cs:List PV}{l:List (Option Nat)} {z:List Nat}(h0:s.hp id=some (.st c)) (hβ:β id=some (b,o)) (H:NM s β Y w cs l z c){fz:List Nat}{A:Nat->Prop}(h1:∀i∈z,i∈fz)(h2:Qi s fz)(hA:∀b,A b->De (Ag s.hp fz) β Y b)
  {own:Bt} {j0:Nat} (G3:∀j,j<l.length->own (j0+j)=Pm β l j):Aum w A own j0 b o cs:=by
 obtain⟨b',o',Ib,Ot,hb3⟩:=h.box id _ h0;rw[hβ] at Ib;cases Ib;refine⟨c.mapIdx (fun j _=>(w.cell? ⟨b,o+j,none⟩).getD undef),H.sem fz A _ h1 h2 hA ?_ own j0 G3,?_,fun k hk=>hb3 k (by have:=H.pl;omega)⟩
 ·refine Bw.of_at (by simp) fun j p v hp hv=>?_
  obtain⟨u,hu,hcr⟩:=Ot j p hp;rw[List.getElem?_mapIdx,hp,Option.map_some,hu] at hv;simp at hv;subst hv;exact hcr
 ·intro k v hkv;rw[List.getElem?_mapIdx] at hkv;cases hp:c[k]? with
  |none=>rw[hp] at hkv;cases hkv
  |some p=>
   obtain⟨u,hu,hcr⟩:=Ot k p hp;rw[hp,Option.map_some,hu] at hkv;simp at hkv;subst hkv;exact hu
theorem Akn (h:B3 N w0 X0 Y β s a w){shr:Bool}{t:TypeId}{p:PV}{u:Value}(hp:Ed w (De s.hp β Y) β p u) {K:PV->List Nat->List Nat->Option R}(hk:Ard P shr s.hp t p K=some r):
  ∃v l z,K v (l.filterMap id) z=some r∧l.length=plc v∧Aso s l∧Qi s z ∧
   ∀(fz:List Nat) A zz,(∀i∈z,i∈fz)->Qi s fz->(∀b,A b->De (Ag s.hp fz) β Y b)->(∀id c b o,some id∈l->s.hp id=some (.st c)->β id=some (b,o)->zz<=b) ->
    ∀own j0,(∀j,j<l.length->own (j0+j)=Pm β l j)->Awn w A own zz j0 v u:=by
 unfold Ard at hk;split at hk
 ·rename_i e he;split at hk
  ·rename_i id off;split at hk
   ·rename_i c h0;obtain⟨hof,Eb⟩:=Ax hk;have hof:=Nat.eq_of_beq_eq_true hof;subst hof;obtain⟨cs,l,z,Gi,H⟩:=Wg h Eb;obtain⟨b,o,hβ,hu⟩:=hp;refine⟨.pbox cs,some id::l,z,Gi,by simp only[plc,List.length_cons,H.len];omega,?_,H.row,fun fz A zz h1 h2 hA hz own j0 G3=>?_⟩
    ·intro i hi;rcases List.mem_cons.1 hi with e|hi
     ·cases e;rw[h0];trivial
     ·obtain⟨c',W9⟩:=H.own i hi;rw[W9];trivial
    ·have h3:=G3 0 (by simp)
     rw[Nat.add_zero] at h3;refine⟨b,o,by rw[h3];exact hβ,hz id c b o (by simp) h0 hβ,by rw[hu,Nat.add_zero],Akb h h0 hβ H h1 h2 hA fun j hj=>?_⟩
     have:=G3 (j+1) (by simp;omega)
     rw[show j0+1+j=j0+(j+1) by omega,this]
     simp[Pm]
   ·cases hk
  ·cases hk
 ·cases H8:Cx P t<;>rw[H8] at hk<;>simp only[cond_true,cond_false] at hk
  ·obtain⟨cs,l,z,Eb,H⟩:=Wg h hk;obtain⟨c,cs',YQ,Gi⟩:=Bl Eb;subst YQ;obtain⟨NI,Un⟩:=Ef Gi;subst NI;have JK:=H.na c (by simp)
   have hc1:plc c=1:=by cases c<;>first|rfl|exact absurd rfl (JK _).1|exact absurd rfl (JK _).2
   have hF:=H.fr p (by simp)
   refine⟨c,l,z,Un,by rw[hc1];exact H.len,fun i hi=>?_,H.row,fun fz A zz h1 h2 hA _ own j0 G3=>Ahh JK (H.sem fz A [u] h1 h2 hA ⟨?_,trivial⟩ own j0 G3)⟩
   ·obtain⟨c',W9⟩:=H.own i hi;rw[W9];trivial
   ·cases p<;>first|exact hp|exact hF.elim
  ·obtain⟨ps,LH,Eb⟩:=Kb hk;subst LH;obtain⟨cs,l,z,Gi,H⟩:=Wg h Eb;obtain⟨vs,hu,Ui⟩:=hp;refine⟨.agg cs,l,z,Gi,H.len,fun i hi=>?_,H.row,fun fz A zz h1 h2 hA _ own j0 G3=>⟨vs,hu,H.sem fz A vs h1 h2 hA Ui own j0 G3⟩⟩
   obtain⟨c',W9⟩:=H.own i hi;rw[W9];trivial
def Aa7 (P:Program)(tmps:Array Value)(w:World)(rv:ResultVar)(u:Value):Prop:=
  (match rv with
   |.tmp t=>(pure (tmps.getD t undef):Sem Value)
   |.cell a t=>do loadVar t (←asAddr (tmps.getD a undef))).run P w=.ok u w
theorem Apn (h:B3 N w0 X0 Y β s a w)(t:Nat):Ed w (De s.hp β Y) β (s.tm t) (a.tmps.getD t undef):=by
 rcases Nat.lt_or_ge t N with h'|h'
 ·exact h.tms t h'
 ·rw[h.tmo t h'];exact A4.top _
theorem Amx (h:B3 N w0 X0 Y β s a w){rv:ResultVar}{K:PV->Option R}(hk:Arq P s rv K=some r):∃p u,K p=some r∧Aa7 P a.tmps w rv u∧Ed w (De s.hp β Y) β p u:=by
 unfold Arq at hk;split at hk
 ·rename_i t;exact⟨_,_,hk,rfl,Apn h t⟩
 ·rename_i x t;obtain⟨v,ad,val,Eb,D6,hl,hv,_⟩:=Ad9 h (Apn h x) hk;refine⟨v,val,Eb,?_,hv⟩;unfold Aa7;simp[D6,asAddr,hl]
theorem EN {l l':List (Option Nat)} {j:Nat}(h:j<l.length):Pm β (l++l') j=Pm β l j:=by
 unfold Pm;rw[List.getElem?_append_left h]
theorem CM {l l':List (Option Nat)} {j:Nat}:Pm β (l++l') (l.length+j)=Pm β l' j:=by
 unfold Pm;rw[List.getElem?_append_right (by omega),Nat.add_sub_cancel_left]
theorem SM (h:B3 N w0 X0 Y β s a w){shr:Bool}:∀{rs:List ResultVar}{ts:List TypeId}{K:List PV->List Nat->List Nat->Option R},Abb P shr s rs ts K=some r ->
  ∃vs l z us,K vs (l.filterMap id) z=some r∧Bw (Aa7 P a.tmps w) rs us∧l.length=Sc vs∧Aso s l∧Qi s z ∧
   ∀(fz:List Nat) A zz,(∀i∈z,i∈fz)->Qi s fz->(∀b,A b->De (Ag s.hp fz) β Y b)->(∀id c b o,some id∈l->s.hp id=some (.st c)->β id=some (b,o)->zz<=b) ->
    ∀own j0,(∀j,j<l.length->own (j0+j)=Pm β l j)->Aj0 w A own zz j0 vs us
 |[],[],K,hk=>⟨[],[],[],[],hk,trivial,rfl,(by intro id Br;cases Br),(by intro id Br;cases Br),fun _ _ _ _ _ _ _ _ _ _=>trivial⟩
 |[],_::_,K,hk=>by cases hk
 |_::_,[],K,hk=>by cases hk
 |rv::rs,t::ts,K,hk=>by
  unfold Abb at hk;obtain⟨p,u,Eb,hu,hp⟩:=Amx h hk;obtain⟨v,l,z,Gi,hl,hL,hz,hv⟩:=Akn h hp Eb;obtain⟨vs,l',z',us,Un,hus,Ou,hL',hz',Ui⟩:=SM h Gi;refine⟨v::vs,l++l',z++z',u::us,?_,⟨hu,hus⟩,by simp only[List.length_append,Sc,List.map_cons,List.sum_cons,hl];rw[Ou];rfl,?_,?_,fun fz A zz h1 h2 hA Gv own j0 G3=>⟨?_,?_⟩⟩
  ·rw[List.filterMap_append];exact Un
  ·intro id Br;rcases List.mem_append.1 Br with Br|Br
   ·exact hL id Br
   ·exact hL' id Br
  ·intro id Br;rcases List.mem_append.1 Br with Br|Br
   ·exact hz id Br
   ·exact hz' id Br
  ·exact hv fz A zz (fun i hi=>h1 i (by simp[hi])) h2 hA (fun id c b o hi=>Gv id c b o (by simp[hi])) own j0 fun j hj=>by rw[G3 j (by simp;omega),EN hj]
  ·refine Ui fz A zz (fun i hi=>h1 i (by simp[hi])) h2 hA (fun id c b o hi=>Gv id c b o (by simp[hi])) own (j0+plc v) fun j hj=>?_
   rw[←hl,Nat.add_assoc,G3 (l.length+j) (by simp;omega),CM]
theorem W7 (h:B3 N w0 X0 Y β s a w){bt:MG}(hpt:∀i,X0.pt i=bt i 0):∀{ts:List TypeId}{i:Nat}{ps:List PV}{K:List (List PV)->List Nat->List Nat->List Nat->Option R},IG P N s.hp i ts ps K=some r ->
  (∀k p,ps[k]?=some p->FY p=true->X0.pn (i+k)) ->
  ∃os l z q,K os (l.filterMap id) z q=some r∧(∀id,some id∈l->∃c,s.hp id=some (.ar false c))∧Qi s z∧(∀id∈q,Cv (s.hp id))∧(∀k p,ps[k]?=some p->FY p=true->Dl N (i+k)∈q) ∧
   ∀(fz:List Nat) A,(∀i∈z,i∈fz)->Qi s fz->(∀i∈q,i ∉ fz)->(∀b,A b->De (Ag s.hp fz) β Y b) ->
    ∀own j0,(∀j,j<l.length->own (j0+j)=Pm β l j)->CC w A own bt j0 i ps os
 |[],i,ps,K,hk,_=>by
  obtain⟨LH,hk⟩:=Ef hk;subst LH;exact⟨[],[],[],[],hk,by simp,(by intro id Br;cases Br),by simp,by simp,fun _ _ _ _ _ _ _ _ _=>rfl⟩
 |t::ts,i,ps,K,hk,hpn=>by
  unfold IG at hk;obtain⟨p,ps',LH,Eb⟩:=Bl hk;subst LH
  have A0a:∀k p,ps'[k]?=some p->FY p=true->X0.pn (i+1+k):=fun k p' h1 h2=>by
   have:=hpn (k+1) p' (by simpa using h1) h2
   rw[show i+1+k=i+(k+1) by omega]
   exact this
  have hpq:∀{q:List Nat},(FY p=true->Dl N i∈q)->(∀k p,ps'[k]?=some p->FY p=true->Dl N (i+1+k)∈q)->∀k p',(p::ps')[k]?=some p'->FY p'=true->Dl N (i+k)∈q:=by
   intro q h1 h2 k p' h3 h4;cases k with
   |zero=>
    simp only[List.getElem?_cons_zero,Option.some.injEq] at h3;subst h3;exact h1 h4
   |succ k=>
    have:=h2 k p' (by simpa using h3) h4
    rw[show i+1+k=i+(k+1) by omega] at this
    exact this
  split at Eb
  ·rename_i ws;obtain⟨e,he,Gi⟩:=Dt Eb;split at Gi
   ·rename_i c h0;obtain⟨cs,l,z,Un,X6,H⟩:=KT h Gi;obtain⟨os,l',z',q,T8,hL',hz',H0,hpi,hv⟩:=W7 h hpt Un A0a;refine⟨cs::os,l++l',z++z',Dl N i::q,by rw[List.filterMap_append];exact T8,?_,?_,?_,hpq (fun _=>List.mem_cons_self) (fun k p h1 h2=>List.mem_cons_of_mem _ (hpi k p h1 h2)),fun fz A h1 h2 h3 hA own j0 G3=>?_⟩
    ·intro id Br;rcases List.mem_append.1 Br with Br|Br
     ·exact H.own id Br
     ·exact hL' id Br
    ·intro id Br;rcases List.mem_append.1 Br with Br|Br
     ·exact H.row id Br
     ·exact hz' id Br
    ·intro id Br;rcases List.mem_cons.1 Br with rfl|Br
     ·rw[h0];trivial
     ·exact H0 id Br
    ·have Ym:=(h.pin i (by have:=hpn 0 _ rfl rfl;rwa [Nat.add_zero] at this)).2
     obtain⟨b,o,Ib,_,_⟩:=h.box _ _ h0;rw[Ib,hpt] at Ym;refine⟨⟨b,o,Ym.symm,X6,Akb h h0 Ib H (fun i hi=>h1 i (by simp[hi])) h2 hA fun j hj=>by rw[G3 j (by simp;omega),EN hj]⟩,?_⟩
     refine hv fz A (fun i hi=>h1 i (by simp[hi])) h2 (fun i hi=>h3 i (by simp[hi])) hA own (j0+cs.length) fun j hj=>?_
     rw[←H.len,Nat.add_assoc,G3 (l.length+j) (by simp;omega),CM]
   ·cases Gi
  ·split at Eb
   ·rename_i c h0;obtain⟨os,l',z',q,T8,hL',hz',H0,hpi,hv⟩:=W7 h hpt Eb A0a;refine⟨c::os,l',z',Dl N i::q,T8,hL',hz',?_,hpq (fun _=>List.mem_cons_self) (fun k p h1 h2=>List.mem_cons_of_mem _ (hpi k p h1 h2)),fun fz A h1 h2 h3 hA own j0 G3=>⟨?_,hv fz A h1 h2 (fun i hi=>h3 i (by simp[hi])) hA own j0 G3⟩⟩
    ·intro id Br;rcases List.mem_cons.1 Br with rfl|Br
     ·rw[h0];trivial
     ·exact H0 id Br
    ·have Ym:=(h.pin i (by have:=hpn 0 _ rfl rfl;rwa [Nat.add_zero] at this)).2
     rw[hpt] at Ym;rcases h.box _ _ h0 with⟨h4,h5⟩|⟨b,o,h4,h5,h6,_⟩
     ·exact .inl ⟨by rw[←Ym];exact h4,h5⟩
     ·exact .inr ⟨b,o,by rw[←Ym];exact h4,h5.weak (fun b _ hb=>R9 (hA b hb)),h6 rfl⟩
   ·cases Eb
  ·rename_i hn1 hn2;have hnL:FY p=false:=by cases p<;>first|rfl|exact absurd rfl (hn1 _)|exact absurd rfl (hn2 _)
   obtain⟨os,l',z',q,T8,hL',hz',H0,hpi,hv⟩:=W7 h hpt Eb A0a;refine⟨os,l',z',q,T8,hL',hz',H0,hpq (fun e=>by rw[hnL] at e;cases e) hpi,fun fz A h1 h2 h3 hA own j0 G3=>?_⟩
   have:=hv fz A h1 h2 h3 hA own j0 G3;cases p<;>first|exact this|cases hnL
theorem Ads {f:ResultVar->Sem Value}:∀{rs:List ResultVar}{us:List Value},Bw (fun rv u=>(f rv).run P w=.ok u w) rs us->(rs.mapM f).run P w=.ok us w
 |[],[],_=>by simp
 |[],_::_,h=>h.elim
 |_::_,[],h=>h.elim
 |rv::rs,u::us,h=>by
  rw[List.mapM_cons];simp[h.1,Ads h.2]
theorem Aep {fn:Func}{us:List Value}(h:Bw (Aa7 P a.tmps w) fn.results.toList us):(results fn a.tmps).run P w=.ok (Ly us) w:=by
 unfold results;rw[Array.mapM_eq_mapM_toList];simp only[map_eq_pure_bind,bind_assoc,pure_bind,Sem.run_bind];refine Eq.trans (congrArg (fun x=>Result.andThen x _) (Ads h)) ?_
 simp only[Result.andThen_ok,Sem.run_pure]
 congr 1
 clear h
 match us with
 |[]=>rfl
 |[u]=>rfl
 |u::v::us=>exact dif_neg (by simp)
theorem Aeb:∀{l:List (Option Nat)},Fl (l.filterMap id)=true->∀{j j' i:Nat},l[j]?=some (some i)->l[j']?=some (some i)->j=j'
 |[],_,j,j',i,h,_=>by simp at h
 |q::l,hn,j,j',i,h,h'=>by
  have hn':Fl (l.filterMap id)=true:=by
   cases q with
   |none=>exact hn
   |some x=>
    simp only[List.filterMap_cons,id_eq,Fl,Bool.and_eq_true] at hn;exact hn.2
  have hq:∀(x k:Nat),q=some x->l[k]?≠some (some x):=by
   intro x k e hk;subst e;simp only[List.filterMap_cons,id_eq,Fl,Bool.and_eq_true,Bool.not_eq_true'] at hn;exact Wl hn.1 (List.mem_filterMap.2 ⟨some x,List.mem_of_getElem? hk,rfl⟩)
  cases j with
  |zero=>
   cases j' with
   |zero=>rfl
   |succ k'=>
    simp at h h';exact absurd h' (hq i k' h)
  |succ k=>
   cases j' with
   |zero=>
    simp at h h';exact absurd h (hq i k h')
   |succ k'=>
    simp at h h';rw[Aeb hn' h h']
theorem Zt {C:Ji}{f:FuncId}{fn:Func}{args:List PV}{res:A5}{w:World}{Y:Nat->Prop}{bt:MG}{us:List Value}(Zq:Ins w Y bt args us){h8:∀k p,args[k]?=some p->FY p=true->k<8}
  {s':St} {a':Act} {w':World} {β':Bt} (hr:Afg C P f fn args s'=some res) (h:B3 fn.ntmps w (EM bt args h8) Y β' s' a' w'):
  a'.defers=[]∧∃v,(results fn a'.tmps).run P w'=.ok v w'∧∃vs own,Ending.returned v=.returned (Ly vs)∧Out w w' Y bt args own res vs:=by
 unfold Afg at hr;obtain⟨vs,l,z,us',hr1,hus,hll,hL,hz,hv⟩:=SM h hr;obtain⟨os,l',z',q,hr2,hL',hz',hq,hpi,Tv⟩:=W7 h (bt:=bt) (fun _=>rfl) hr1 (fun k p h1 h2=>by rw[Nat.zero_add];exact⟨p,h1,h2⟩)
 obtain⟨TY,hr3⟩:=Ax hr2;cases hr3;simp only[Bool.and_eq_true] at TY;obtain⟨TY,A07⟩:=TY;obtain⟨hn1,hn2,hn3⟩:=L8 TY
 have JB:∀i∈z++z',i ∉ (l.filterMap id++l'.filterMap id)++q:=by
  intro i hi Qx;have:=List.all_eq_true.1 A07 i hi;have h2:((l.filterMap id++l'.filterMap id)++q).any (Nat.beq i)=true:=List.any_eq_true.2 ⟨i,Qx,Nat.beq_refl i⟩;rw[h2] at this;cases this
 have Alb:Qi s' (z++z'):=by
  intro i hi;rcases List.mem_append.1 hi with hi|hi
  ·exact hz i hi
  ·exact hz' i hi
 refine⟨h.dfr,Ly us',Aep hus,us',Pm β' (l++l'),rfl,?_⟩;have Bai:Fl ((l++l').filterMap id)=true:=by rw[List.filterMap_append];exact hn1
 have G3:∀j b o,Pm β' (l++l') j=some (b,o)->∃id,(l++l')[j]?=some (some id)∧β' id=some (b,o):=by
  intro j b o hj;unfold Pm at hj;cases hlj:(l++l')[j]? with
  |none=>rw[hlj] at hj;cases hj
  |some q=>
   cases q with
   |none=>rw[hlj] at hj;cases hj
   |some id=>
    rw[hlj] at hj;exact⟨id,rfl,hj⟩
 have Ok:∀(j i:Nat),(l++l')[j]?=some (some i)->i∈l.filterMap id++l'.filterMap id:=by
  intro j i hj;rw[←List.filterMap_append];exact List.mem_filterMap.2 ⟨some i,List.mem_of_getElem? hj,rfl⟩
 have I5:∀(j i:Nat),(l++l')[j]?=some (some i)->Cv (s'.hp i):=by
  intro j i hj;rcases List.mem_append.1 (List.mem_of_getElem? hj) with Qx|Qx
  ·exact hL i Qx
  ·obtain⟨c,hc⟩:=hL' i Qx;rw[hc];trivial
 have Aym:∀i,i∈(l.filterMap id++l'.filterMap id)++q->Ag s'.hp (z++z') i=s'.hp i:=by
  intro i hi;rw[Co,if_neg (fun Qx=>JB i Qx hi)]
 have Axg:∀i b o,bt i 0=some (b,o)->Dl fn.ntmps i∈q∧Cv (s'.hp (Dl fn.ntmps i))∧β' (Dl fn.ntmps i)=some (b,o):=by
  intro i b o TX;obtain⟨p,h1,h2⟩:=Zq.l0 i _ TX;have h3:=hpi i p h1 h2;rw[Nat.zero_add] at h3;exact⟨h3,hq _ h3,(h.pin i ⟨p,h1,h2⟩).2.trans TX⟩
 have hAO:∀b,SU bt (Pm β' (l++l')) Y b->De (Ag s'.hp (z++z')) β' Y b:=by
  rintro b (⟨j,o,hj⟩|⟨i,o,TX⟩|hY)
  ·obtain⟨id,h1,h2⟩:=G3 j b o hj;refine .inl ⟨id,o,?_,h2⟩;rw[Aym id (List.mem_append.2 (.inl (Ok j id h1)))];exact I5 j id h1
  ·obtain⟨h1,h2,h3⟩:=Axg i b o TX;refine .inl ⟨_,o,?_,h3⟩;rw[Aym _ (List.mem_append.2 (.inr h1))];exact h2
  ·exact .inr hY
 have CL:∀(j id b o:Nat),(l++l')[j]?=some (some id)->β' id=some (b,o)->b<w.heap.size->∃i k o',bt i (k+1)=some (b,o'):=by
  intro j id b o hj hβ Cc;rcases h.ownd b ⟨id,o,I5 j id hj,hβ⟩ with⟨i,k,o',TX⟩|hge
  ·cases k with
   |zero=>
    obtain⟨h1,h2,h3⟩:=Axg i b o' TX;have:=h.inj id _ b o o' (I5 j id hj) h2 hβ h3;subst this;exact absurd h1 (hn3 _ (Ok j _ hj))
   |succ k=>exact⟨i,k,o',TX⟩
  ·omega
 refine⟨h.fr.os,h.fr.tape,h.fr.output,h.fr.step,h.fr.rng,?_,?_,?_,?_⟩
 ·refine hv (z++z') _ _ (fun i hi=>List.mem_append.2 (.inl hi)) Alb hAO (fun id c b o hi hc hβ=>?_) _ 0 (fun j hj=>by rw[Nat.zero_add,EN hj])
  rcases Nat.lt_or_ge b w.heap.size with Cc|hge
  ·obtain⟨k,I2,p,h1,h2⟩:=h.stp id c b o hc hβ Cc;have h3:=hpi k p h1 h2;rw[Nat.zero_add,←I2] at h3;obtain⟨j,hj⟩:=List.mem_iff_getElem?.1 hi;refine absurd h3 (hn3 id ?_);exact List.mem_append.2 (.inl (List.mem_filterMap.2 ⟨some id,hi,rfl⟩))
  ·exact hge
 ·refine Tv (z++z') _ (fun i hi=>List.mem_append.2 (.inr hi)) Alb (fun i hi Qx=>JB i Qx (List.mem_append.2 (.inr hi))) hAO _ _ (fun j hj=>?_)
  rw[←hll,CM]
 ·intro j b o hj;obtain⟨id,h1,h2⟩:=G3 j b o hj;refine⟨h.blt id b o (Dk (I5 j id h1)) h2,fun Cc=>⟨CL j id b o h1 h2 Cc,fun x hx=>?_⟩⟩
  cases Nv:s'.hp id with
  |none=>have:=I5 j id h1;rw[Nv] at this;exact this.elim
  |some bx=>
   have IA:=I5 j id h1;rw[Nv] at IA;cases bx with
   |st c=>
    obtain⟨k,I2,p,h3,h4⟩:=h.stp id c b o Nv h2 Cc;have h5:=hpi k p h3 h4;rw[Nat.zero_add,←I2] at h5;exact absurd h5 (hn3 _ (Ok j _ h1))
   |ar fz c=>exact h.rngB id _ b o Nv IA h2 Cc x hx
   |mv=>exact IA.elim
 ·intro j j' b o o' hj X5;obtain⟨id,h1,h2⟩:=G3 j b o hj;obtain⟨id',XK,h2'⟩:=G3 j' b o' X5;have:=h.inj id id' b o o' (I5 j id h1) (I5 j' id' XK) h2 h2';subst this;exact Aeb Bai h1 XK
theorem QH {G:U7}(Jr:NoNG P)(hm:P.follows .mixedOrders=true){C:Ji}{fu:Nat}{call:Af}(C6:∀f args res,call f args=some res->Da G P f args res){f:FuncId}{fn:Func}{c:Code}(hf:P.funcs[f]?=some fn) (hb:fn.body=some c)
  {args:List PV} {res:A5} (hk:Avr C P fu call f fn c args=some res):Da G P f args res:=by
 refine⟨⟨fn,hf,by rw[hb];rfl⟩,fun w Y bt us Zq hG hGY=>?_⟩
 unfold Avr at hk;obtain⟨tms,bs,Eb,Gv⟩:=IB Zq hk;obtain⟨Ib,Gi⟩:=Ax Eb;simp only[Bool.and_eq_true] at Ib
 have Ha:us.length<=fn.ntmps:=by
  rw[←Zq.args.len];exact Nat.le_of_ble_eq_true Ib.1
 obtain⟨h8,β0,hs⟩:=Gv Ib.2 Ha;refine calls_of_wp hf hb ?_;have hE:LO P G w (EM bt args h8):=⟨Jr,fun w' UT=>G.stable w w' (fun b hb Cc=>UT.step.keep b Cc (hGY b hb).2) hG,hGY⟩
 refine DN hE C6 hm c hs Gi (fun s' a' w' β' hr h=>Zt Zq hr h) (fun id s' a' w' β' hr h=>by cases hr) (fun s' a' w' β' hr h=>Zt Zq hr h)
def Ajv (G:U7)(P:Program)(C:Ji):Prop:=∀f g args res,C.ext f=some g->g args=some res->Da G P f args res
theorem Yb {G:U7}(Jr:NoNG P)(hm:P.follows .mixedOrders=true){C:Ji}(hx:Ajv G P C){fu:Nat}:∀(d:Nat)(f:FuncId)(args:List PV)(res:A5),Ad C P fu d f args=some res->Da G P f args res
 |0,_,_,_,h=>by cases h
 |d+1,f,args,res,h=>by
  unfold Ad at h;split at h
  ·rename_i g hg;exact hx f g args res hg h
  ·split at h
   ·cases h
   ·rename_i fn hf;split at h
    ·cases h
    ·rename_i c hb;exact QH Jr hm (Yb Jr hm hx d) hf hb h
end
open Go.ChangeShapes Go.WideShapes Go.ChangeAt Go.RowKit Go.Deep
def ZM (P:Program):List Field->Nat->Nat->Bool
 |[],i,n=>Nat.beq i n
 |f::r,i,n=>Nat.beq f.offset i&&ZM P r (i+P.cellsOf f.type) n
def Qy (P:Program):Nat->TypeId->Bool
 |0,_=>false
 |d+1,t=>
  match P.underlying t with
  |some .bool=>true
  |some (.int _)=>true
  |some .string=>true
  |some (.slice e)=>Qy P d e&&Nat.blt 0 (P.cellsOf e)
  |some (.struct fs)=>ZM P fs.toList 0 (P.cellsOf t)&&fs.toList.all fun f=>Qy P d f.type
  |some (.array n e)=>Nat.beq (P.cellsOf t) (n*P.cellsOf e)&&Qy P d e
  |_=>false
def WT (P:Program):Nat->TypeId->List PV->Prop
 |0,_,_=>False
 |d+1,t,ps=>
  match P.underlying t with
  |some .bool=>∃b,ps=[.sc (.bool b)]
  |some (.int k)=>∃n,ps=[.sc (.int k n)]∧(Lit.int k n).wf=true
  |some .string=>∃s:ByteArray,ps=[.sc (.string s)]∧s.size<=maxLen
  |some (.slice e)=>∃rows:List (List PV),ps=[.lst false (P.cellsOf e) rows.length rows.flatten]∧rows.length<=maxLen∧∀r∈rows,r.length=P.cellsOf e∧WT P d e r
  |some (.struct fs)=>∃rows:List (List PV),ps=rows.flatten∧Bw (fun f r=>WT P d f.type r) fs.toList rows
  |some (.array n e)=>∃rows:List (List PV),ps=rows.flatten∧rows.length=n∧∀r∈rows,r.length=P.cellsOf e∧WT P d e r
  |_=>False
def WTv (P:Program)(t:TypeId)(p:PV):Prop:=
 match Cx P t with
 |true=>∃ps,p=.agg ps∧WT P 12 t ps
 |false=>WT P 12 t [p]
section
variable {P:Program} {d:Nat} {t e:TypeId} {ps:List PV}
theorem At1 (hu:P.underlying t=some .bool):WT P (d+1) t ps↔∃b,ps=[.sc (.bool b)]:=by
 show (match P.underlying t with|some .bool=>_|some (.int k)=>_|some .string=>_|some (.slice e)=>_|some (.struct fs)=>_|some (.array n e)=>_|_=>_)↔_
 rw[hu]
theorem Asc {k:IntKind}(hu:P.underlying t=some (.int k)):WT P (d+1) t ps↔∃n,ps=[.sc (.int k n)]∧(Lit.int k n).wf=true:=by
 show (match P.underlying t with|some .bool=>_|some (.int k)=>_|some .string=>_|some (.slice e)=>_|some (.struct fs)=>_|some (.array n e)=>_|_=>_)↔_
 rw[hu]
theorem Alg (hu:P.underlying t=some .string):WT P (d+1) t ps↔∃s:ByteArray,ps=[.sc (.string s)]∧s.size<=maxLen:=by
 show (match P.underlying t with|some .bool=>_|some (.int k)=>_|some .string=>_|some (.slice e)=>_|some (.struct fs)=>_|some (.array n e)=>_|_=>_)↔_
 rw[hu]
theorem Ad6 (hu:P.underlying t=some (.slice e)):WT P (d+1) t ps↔∃rows:List (List PV),ps=[.lst false (P.cellsOf e) rows.length rows.flatten]∧rows.length<=maxLen∧∀r∈rows,r.length=P.cellsOf e∧WT P d e r:=by
 show (match P.underlying t with|some .bool=>_|some (.int k)=>_|some .string=>_|some (.slice e)=>_|some (.struct fs)=>_|some (.array n e)=>_|_=>_)↔_
 rw[hu]
theorem Amj {fs:Array Field}(hu:P.underlying t=some (.struct fs)):WT P (d+1) t ps↔∃rows:List (List PV),ps=rows.flatten∧Bw (fun f r=>WT P d f.type r) fs.toList rows:=by
 show (match P.underlying t with|some .bool=>_|some (.int k)=>_|some .string=>_|some (.slice e)=>_|some (.struct fs)=>_|some (.array n e)=>_|_=>_)↔_
 rw[hu]
theorem Aq5 {n:Nat}(hu:P.underlying t=some (.array n e)):WT P (d+1) t ps↔∃rows:List (List PV),ps=rows.flatten∧rows.length=n∧∀r∈rows,r.length=P.cellsOf e∧WT P d e r:=by
 show (match P.underlying t with|some .bool=>_|some (.int k)=>_|some .string=>_|some (.slice e)=>_|some (.struct fs)=>_|some (.array n e)=>_|_=>_)↔_
 rw[hu]
end
inductive Ki where
 |bool
 |int (k:IntKind)
 |str
 |sl (e:TypeId)
 |st (ts:List TypeId)
 |ar (n:Nat) (e:TypeId)
 |no
def Zj (P:Program)(t:TypeId):Ki:=
 match P.underlying t with
 |some .bool=>.bool
 |some (.int k)=>.int k
 |some .string=>.str
 |some (.slice e)=>.sl e
 |some (.struct fs)=>.st (fs.toList.map (·.type))
 |some (.array n e)=>.ar n e
 |_=>.no
section
variable {P:Program} {d:Nat} {t e:TypeId} {ps:List PV} {p:PV}
theorem Bw.cons_inv {α β:Type}{R:α->β->Prop}{a:α}{zs:List α}:∀{rs:List β},Bw R (a::zs) rs->∃r rs',rs=r::rs'∧R a r∧Bw R zs rs'
 |[],h=>h.elim
 |r::rs,h=>⟨r,rs,rfl,h.1,h.2⟩
theorem Bw.nil_inv {α β:Type}{R:α->β->Prop}:∀{rs:List β},Bw R ([]:List α) rs->rs=[]
 |[],_=>rfl
 |_::_,h=>h.elim
theorem A0v {k:IntKind}(hk:Zj P t=.int k)(h:WT P d t ps):∃n,ps=[.sc (.int k n)]∧(Lit.int k n).wf=true:=by
 cases d with
 |zero=>exact h.elim
 |succ d=>
 unfold Zj at hk;split at hk<;>first|cases hk|skip
 rename_i hu;exact (Asc hu).1 h
theorem A40 (hk:Zj P t=.sl e)(h:WT P d t ps):∃rows:List (List PV),ps=[.lst false (P.cellsOf e) rows.length rows.flatten]∧rows.length<=maxLen∧∀r∈rows,r.length=P.cellsOf e∧WT P (d-1) e r:=by
 cases d with
 |zero=>exact h.elim
 |succ d=>
 rw[Nat.add_sub_cancel];unfold Zj at hk;split at hk<;>first|cases hk|skip
 rename_i hu;exact (Ad6 hu).1 h
theorem Au8 (hk:Cx P t=false)(h:WTv P t p):WT P 12 t [p]:=by
 unfold WTv at h;rw[hk] at h;exact h
theorem LY {α:Type}(f:α->List PV)(Q:α->Prop):∀{rows:List (List PV)},(∀r∈rows,∃x,r=f x∧Q x)->∃xs:List α,rows.flatten=xs.flatMap f∧rows.length=xs.length∧∀x∈xs,Q x
 |[],_=>⟨[],rfl,rfl,by simp⟩
 |r::rows,h=>by
  obtain⟨x,h1,h2⟩:=h r (by simp)
  obtain⟨xs,h3,h4,h5⟩:=LY (rows:=rows) f Q fun r hr=>h r (by simp[hr])
  refine⟨x::xs,by simp[h1,h3],by simp[h4],fun y hy=>?_⟩
  rcases List.mem_cons.1 hy with rfl|hy
  ·exact h2
  ·exact h5 y hy
end
abbrev No:Nat->Prop:=fun _=>False
section
variable {H:Type} {enc:TypeId × Value->H} {P:Program} {w:World} {base:Nat} {held:Bool}
theorem Bw.flat {α β:Type}{R:α->β->Prop}:∀{l:List Nat}{f:Nat->List α}{g:Nat->List β},(∀i∈l,Bw R (f i) (g i))->Bw R (l.map f).flatten (l.map g).flatten
 |[],_,_,_=>trivial
 |i::l,f,g,h=>by
  simp only[List.map_cons,List.flatten_cons];exact (h i (by simp)).app (Bw.flat fun j hj=>h j (by simp[hj]))
theorem Akz {a:Addr}{v:Value}(h:w.cell? a=some v):a.spot=none∧a.block<w.heap.size:=by
 unfold World.cell? at h;split at h
 ·rename_i c t f e;refine⟨?_,?_⟩
  ·cases hs:a.spot with
   |none=>rfl
   |some x=>rw[hs] at h;simp at h
  ·rcases Nat.lt_or_ge a.block w.heap.size with h1|h1
   ·exact h1
   ·rw[Array.getElem?_eq_none h1] at e;cases e
 ·cases h
theorem PH {α:Type}{g:Nat->List α}{es:Nat}:∀{n:Nat},(∀i,i<n->(g i).length=es)->((List.range n).map g).flatten.length=n*es
 |0,_=>by simp
 |n+1,h=>by
  rw[List.range_succ,List.map_append,List.flatten_append,List.length_append,PH (fun i hi=>h i (by omega))]
  simp[h n (by omega),Nat.succ_mul]
theorem PZ {a:Addr}{g:Nat->List Value}{es:Nat}:∀{n:Nat},(∀i,i<n->(g i).length=es)->(∀i,i<n->∀k,k<es->w.cell? (a.add (i*es+k))=(g i)[k]?) ->
  ∀j,j<n*es->w.cell? (a.add j)=(((List.range n).map g).flatten)[j]?
 |0,_,_,j,hj=>by omega
 |n+1,hl,hc,j,hj=>by
  have XN:=PH (fun i (hi:i<n)=>hl i (by omega))
  rw[List.range_succ,List.map_append,List.flatten_append,List.getElem?_append,XN];rw[Nat.succ_mul] at hj;split
  ·rename_i h1;exact PZ (fun i hi=>hl i (by omega)) (fun i hi=>hc i (by omega)) j h1
  ·rename_i h1;have:=hc n (by omega) (j-n*es) (by omega)
   rw[show n*es+(j-n*es)=j by omega] at this
   simpa using this
abbrev TR (w:World)(c:PV)(v:Value):Prop:=(BL c∧A4 w No c v)∧v.oneCell'=true
theorem MF {d:Nat}{cs:List Value}{n:Nat}(hn:cs.length=n):∀(l:List Field)(i:Nat),ZM P l i n=true ->
  (∀f∈l,∃ps,WT P d f.type ps∧Bw (TR w) ps ((cs.drop f.offset).take (P.cellsOf f.type)))->∃rows:List (List PV),Bw (fun f r=>WT P d f.type r) l rows∧Bw (TR w) rows.flatten (cs.drop i)
 |[],i,ho,_=>by
  have:=Nat.eq_of_beq_eq_true ho;refine⟨[],trivial,?_⟩;rw[List.drop_of_length_le (by omega)]
  trivial
 |f::l,i,ho,h=>by
  simp only[ZM,Bool.and_eq_true] at ho;have ho1:=Nat.eq_of_beq_eq_true ho.1;obtain⟨ps,h1,h2⟩:=h f (by simp)
  obtain⟨rows,h3,h4⟩:=MF hn l _ ho.2 fun g hg=>h g (by simp[hg])
  refine⟨ps::rows,⟨h1,h3⟩,?_⟩;rw[ho1] at h2;have:cs.drop i=(cs.drop i).take (P.cellsOf f.type)++cs.drop (i+P.cellsOf f.type):=by rw[←List.drop_drop];exact (List.take_append_drop _ _).symm
  rw[this,List.flatten_cons];exact h2.app h4
theorem QU {d:Nat}{e:TypeId}{cs:List Value}{k:Nat}:∀(n:Nat),n*k<=cs.length ->
  (∀i,i<n->∃ps,(ps.length=k∧WT P d e ps)∧Bw (TR w) ps ((cs.drop (i*k)).take k))->∃rows:List (List PV),rows.length=n∧(∀r∈rows,r.length=k∧WT P d e r)∧Bw (TR w) rows.flatten (cs.take (n*k))
 |0,_,_=>⟨[],rfl,by simp,by simp[Bw]⟩
 |n+1,hl,h=>by
  rw[Nat.succ_mul] at hl;obtain⟨rows,h1,h2,h3⟩:=QU n (by omega) fun i hi=>h i (by omega)
  obtain⟨ps,h4,h5⟩:=h n (by omega)
  refine⟨rows++[ps],by simp[h1],?_,?_⟩
  ·intro r hr;rcases List.mem_append.1 hr with hr|hr
   ·exact h2 r hr
   ·rw[List.mem_singleton.1 hr];exact h4
  ·rw[List.flatten_append,Nat.succ_mul,List.take_add];refine h3.app ?_
   simpa using h5
theorem Z5:∀(d:Nat)(t:TypeId),Qy P d t=true->∀(fuel:Nat)(cs:List Value)(x:DataW H × List MemPlace),DataW.trod enc P w base (fun _=>true) held fuel t cs=some x ->
  ∃ps,WT P d t ps∧Bw (TR w) ps cs
 |0,_,h,_,_,_,_=>by cases h
 |d+1,t,hp,fuel,cs,x,h=>by
  unfold Qy at hp;split at hp
  ·rename_i hu;obtain⟨b,rfl,_⟩:=DataW.trod_bool hu h;simp only[At1 hu];exact⟨[.sc (.bool b)],⟨b,rfl⟩,⟨⟨trivial,A4.sc _⟩,rfl⟩,trivial⟩
  ·rename_i k hu;obtain⟨n,rfl,_,hw⟩:=DataW.trod_int hu h;simp only[Asc hu];exact⟨[.sc (.int k n)],⟨n,rfl,hw⟩,⟨⟨trivial,A4.sc _⟩,rfl⟩,trivial⟩
  ·rename_i hu;obtain⟨s,rfl,_,hw⟩:=DataW.trod_string hu h;simp only[Alg hu];exact⟨[.sc (.string s)],⟨s,rfl,hw⟩,⟨⟨trivial,A4.sc _⟩,rfl⟩,trivial⟩
  ·rename_i e hu;simp only[Bool.and_eq_true] at hp;have LL:0<P.cellsOf e:=Nat.lt_of_succ_le (Nat.le_of_ble_eq_true hp.2);simp only[Ad6 hu];rcases open_slice hu h with⟨rfl,_⟩|⟨a,len,cap,m,n,D,Pl,rfl,_,hl,hm,hmm,_,hi⟩
   ·exact⟨[.lst false (P.cellsOf e) 0 []],⟨[],by simp,by simp,by simp⟩,⟨⟨trivial,A4.lnil _ _⟩,rfl⟩,trivial⟩
   ·simp only[if_true] at hmm;subst hmm
    have hi':∀i,i<len->∃q:List PV × List Value,(q.2.length=P.cellsOf e∧(∀k,k<P.cellsOf e->w.cell? (a.add (i*P.cellsOf e+k))=q.2[k]?))∧WT P d e q.1∧Bw (TR w) q.1 q.2:=by
     intro i Cc;obtain⟨cs',hc,ht⟩:=hi i (by omega)
     obtain⟨_,X6,hat⟩:=World.cells?_some hc;obtain⟨ps,h1,h2⟩:=Z5 d e hp.1 _ _ _ ht;exact⟨(ps,cs'),⟨X6,fun k hk=>by rw[←Pv.add_add];exact hat k hk⟩,h1,h2⟩
    obtain⟨F,hF⟩:=choose_lt hi';refine⟨[.lst false (P.cellsOf e) len ((List.range len).map fun i=>(F i).1).flatten],⟨(List.range len).map fun i=>(F i).1,by simp,by simp;omega,?_⟩,⟨⟨trivial,?_⟩,rfl⟩,trivial⟩
    ·intro r hr;obtain⟨i,hi1,rfl⟩:=List.mem_map.1 hr;have hi2:=List.mem_range.1 hi1;exact⟨by rw[(hF i hi2).2.2.len];exact (hF i hi2).1.1,(hF i hi2).2.1⟩
    ·rcases Nat.eq_zero_or_pos len with h0|h0
     ·subst h0;exact A4.lemp _ _ _
     ·have Wc:Bw (TR w) ((List.range len).map fun i=>(F i).1).flatten ((List.range len).map fun i=>(F i).2).flatten:=Bw.flat fun i hi=>(hF i (List.mem_range.1 hi)).2.2
      have hcell:=PZ (w:=w) (a:=a) (g:=fun i=>(F i).2) (fun i hi=>(hF i hi).1.1) (fun i hi=>(hF i hi).1.2)
      have Ha:=PH (g:=fun i=>(F i).2) (fun i (hi:i<len)=>(hF i hi).1.1)
      have h00:w.cell? a≠none:=by
       have:=hcell 0 (Nat.mul_pos h0 LL);rw[show a.add 0=a by unfold Addr.add;simp] at this
       rw[this,List.getElem?_eq_getElem (by rw[Ha];exact Nat.mul_pos h0 LL)]
       simp
      obtain⟨v0,hv0⟩:=Option.ne_none_iff_exists'.1 h00;obtain⟨hs,hb⟩:=Akz hv0
      have key:∀j c,(((List.range len).map fun i=>(F i).1).flatten)[j]?=some c->∃v,w.cell? (a.add j)=some v∧TR w c v:=by
       intro j c hj
       have hlj:j<len*P.cellsOf e:=by
        rw[←Ha,←Wc.len];rcases Nat.lt_or_ge j (((List.range len).map fun i=>(F i).1).flatten).length with h1|h1
        ·exact h1
        ·rw[List.getElem?_eq_none h1] at hj;cases hj
       have h1:=hcell j hlj;rw[List.getElem?_eq_getElem (by rw[Ha];exact hlj)] at h1
       exact⟨_,h1,Wc.at_ hj (List.getElem?_eq_getElem (by rw[Ha];exact hlj))⟩
      refine A4.lst _ _ _ a _ (fun j=>(w.cell? (a.add j)).getD undef) hs hb (fun h=>h) hl (fun j c hj=>?_) (fun j c hj=>?_) (fun j c hj=>?_)
      ·obtain⟨v,hv,_⟩:=key j c hj;rw[hv];rfl
      ·obtain⟨v,hv,ht⟩:=key j c hj;rw[hv];exact ht.2
      ·obtain⟨v,hv,ht⟩:=key j c hj;rw[hv];exact ht.1.2
  ·rename_i fs hu;simp only[Bool.and_eq_true] at hp;simp only[Amj hu];obtain⟨xs,n,_,_,Ha,hxl,hf⟩:=DataW.trod_struct hu h
   obtain⟨rows,h1,h2⟩:=MF (P:=P) (w:=w) (d:=d) Ha fs.toList 0 hp.1 fun f YZ=>by
    obtain⟨i,hi⟩:=List.mem_iff_getElem?.1 YZ;have hi':fs[i]?=some f:=by simpa using hi
    have Cc:i<fs.size:=(Array.getElem?_eq_some_iff.1 hi').1;have h3:=hf i f hi';rw[List.getElem?_eq_getElem (by omega)] at h3
    exact Z5 d f.type (List.all_eq_true.1 hp.2 f YZ) _ _ _ h3
   exact⟨_,⟨rows,rfl,h1⟩,by simpa using h2⟩
  ·rename_i n e hu;simp only[Bool.and_eq_true] at hp;simp only[Aq5 hu];obtain⟨xs,m,_,_,Ha,hxl,hf⟩:=DataW.trod_array hu h;have Lw:=Nat.eq_of_beq_eq_true hp.1
   obtain⟨rows,h1,h2,h3⟩:=QU (P:=P) (w:=w) (d:=d) (e:=e) (cs:=cs) (k:=P.cellsOf e) n (by omega) fun i hi=>by
    have h3:=hf i hi;rw[List.getElem?_eq_getElem (by omega)] at h3
    obtain⟨ps,h4,h5⟩:=Z5 d e hp.2 _ _ _ h3;refine⟨ps,⟨?_,h4⟩,h5⟩;rw[h5.len,List.length_take,List.length_drop,Ha,Lw];have:(i+1)*P.cellsOf e<=n*P.cellsOf e:=Nat.mul_le_mul_right _ hi;rw[Nat.succ_mul] at this;omega
   refine⟨_,⟨rows,rfl,h1,h2⟩,?_⟩;rw[List.take_of_length_le (by omega)] at h3
   exact h3
  ·cases hp
theorem Aol {r:Reach}{b0:Nat}{t:TypeId}{v:Value}{dd:DataW H}{p:List MemPlace}(hp:Qy P 12 t=true)(hv:Value.okWide P w r b0 t v)(h:DataW.Trod enc P w base (fun _=>true) held t v dd p):
  ∃q,WTv P t q∧Vc w No q v:=by
 obtain⟨fuel,hf⟩:=h;obtain⟨ps,h1,h2⟩:=Z5 12 t hp fuel _ _ hf;unfold WTv Cx
 have two:∀{cs:Array Value},v=.agg cs->∃q,(∃ps,q=.agg ps∧WT P 12 t ps)∧Vc w No q v:=by
  intro cs e;subst e;exact⟨.agg ps,⟨ps,rfl,h1⟩,cs.toList,by simp,h2.mono fun c v h=>h.1⟩
 have one:v.cells.toList=[v]->∃q,WT P 12 t [q]∧Vc w No q v:=by
  intro e;rw[e] at h2
  match ps,h2 with
  |[q],h2=>
   refine⟨q,h1,?_⟩;have h3:=h2.1.1;cases q<;>first|exact h3|exact h3.1.elim
  |[],h2=>exact h2.elim
  |_::_::_,h2=>exact h2.2.elim
 unfold Qy at hp;split at hp
 ·rename_i hu;simp only[hu];obtain⟨b,rfl,_⟩:=open_bool hu hv ⟨fuel,hf⟩;exact one rfl
 ·rename_i k hu;simp only[hu];obtain⟨b,rfl,_⟩:=open_int hu hv ⟨fuel,hf⟩;exact one rfl
 ·rename_i hu;simp only[hu];obtain⟨b,rfl,_⟩:=ChangeMaps.open_string hu hv ⟨fuel,hf⟩;exact one rfl
 ·rename_i e hu;simp only[hu];obtain⟨a,len,cap,rfl⟩:=okWide_slice hu hv;exact one rfl
 ·rename_i fs hu;simp only[hu];obtain⟨cs,rfl,_⟩:=okWide_struct hu hv;exact two rfl
 ·rename_i n e hu;simp only[hu];unfold Value.okWide at hv;simp only[hu] at hv;obtain⟨cs,rfl,_⟩:=hv;exact two rfl
 ·cases hp
theorem XZ:∀{ts:List TypeId}{vs:List Value}{ds:List (DataW H)} {p:List MemPlace}{r:Reach}{b0:Nat},(ts.all fun t=>Qy P 12 t)=true->(∀(j:Nat) t v,ts[j]?=some t->vs[j]?=some v->Value.okWide P w r b0 t v) ->
  DataW.TrodAll enc P w base (fun _=>true) held ts vs ds p->∃qs,Bw (WTv P) ts qs∧Bw (Vc w No) qs vs
 |[],[],[],_,_,_,_,_,_=>⟨[],trivial,trivial⟩
 |t::ts,v::vs,d::ds,_,r,b0,hp,hv,⟨p,q,h1,h2,_⟩=>by
  simp only[List.all_cons,Bool.and_eq_true] at hp;obtain⟨x,h3,h4⟩:=Aol hp.1 (hv 0 t v rfl rfl) h1;obtain⟨xs,h5,h6⟩:=XZ hp.2 (fun j t v ht Tv=>hv (j+1) t v ht Tv) h2
  exact⟨x::xs,⟨h3,h5⟩,h4,h6⟩
 |[],_::_,_,_,_,_,_,_,h=>by cases h
 |[],[],_::_,_,_,_,_,_,h=>by cases h
 |_::_,[],_,_,_,_,_,_,h=>by cases h
 |_::_,_::_,[],_,_,_,_,_,h=>by cases h
theorem BU (hl:laidOutB P=true){W W':World}{sp:Nat->Bool}:∀{ts:List TypeId}{vs:List Value}{ds:List (DataW H)} {p:List MemPlace},(ts.all fun t=>P.readableRec t&&Nat.blt t P.types.size)=true ->
  DataW.TrodAll enc P W 0 (fun _=>true) true ts vs ds p->(∀x∈p,W.sameAt W' x)->(∀x∈p,sp x.block=true)->DataW.TrodAll enc P W' 0 sp true ts vs ds p
 |[],[],[],_,_,h,_,_=>h
 |t::ts,v::vs,d::ds,_,hr,⟨p,q,h1,h2,e⟩,hs,hsp=>by
  simp only[List.all_cons,Bool.and_eq_true] at hr;refine⟨p,q,WideElems.Trod_stays hl hr.1.1 (Nat.lt_of_succ_le (Nat.le_of_ble_eq_true hr.1.2)) h1 (fun x hx=>hs x ?_) (fun x hx=>hsp x ?_),BU hl hr.2 h2 (fun x hx=>hs x ?_) (fun x hx=>hsp x ?_),e⟩
  all_goals rw[e,List.mem_append]
  ·exact .inl hx
  ·exact .inl hx
  ·exact .inr hx
  ·exact .inr hx
 |[],_::_,_,_,_,h,_,_=>by cases h
 |[],[],_::_,_,_,h,_,_=>by cases h
 |_::_,[],_,_,_,h,_,_=>by cases h
 |_::_,_::_,[],_,_,h,_,_=>by cases h
theorem UL {f:Func}{s:ChangeSpec}{apart fresh Aav again:Bool}{W W':World}{args:Array Value}{v:Value}{ds gs:List (DataW H)} {before pa pv:List MemPlace}
  (hW:DataW.Whole enc P f.params.toList s.vars apart W args.toList ds gs before)
  (A31:∀(b:Nat)(sp:Nat->Bool)(hd:Bool),DataW.TrodAll enc P W' b sp hd f.resultTypes.toList (v.resultList f.resultTypes.size) (s.fn H (ds++gs)).results [])
  (Ey:∀sp:Nat->Bool,(∀p∈before,sp p.block=true)->DataW.TrodAll enc P W' 0 sp true f.params.toList args.toList (s.fn H (ds++gs)).args pa)
  (Ab9:∀sp:Nat->Bool,(∀p∈before,sp p.block=true)->DataW.TrodVars enc P W' sp s.vars (s.fn H (ds++gs)).vars pv)
  (LH:before=pa++pv)(hb:Below W.heap.size W W')
  (hok:∀(j:Nat)(t:TypeId)(r:Value),f.resultTypes[j]?=some t->(v.resultList f.resultTypes.size)[j]?=some r->Value.okWide P W' .any 0 t r):
  s.post enc P f apart fresh Aav again W args v W':=by
 have Cc:∀p∈before,p.block<W.heap.size:=fun p hp=>hW.lt p hp
 have hold:∀p∈before,(fun b=>decide (b<W.heap.size)) p.block=true:=fun p hp=>by simpa using Cc p hp
 refine⟨ds,gs,before,[],pa,pv,hW,A31 _ _ _,Ey _ hold,Ab9 _ hold,World.keptBut_mono (fun p hp=>⟨hp,?_⟩) (hb.frame (· ∈ before)),fun _=>?_⟩
 ·rw[LH,List.mem_append] at hp;exact Or.inr hp
 ·obtain⟨_,_,_,_,_,hz,hn⟩:=hW;refine⟨hok,_,_,([]++pa)++pv,⟨[]++pa,pv,trodAll_append (Ey _ (fun _ _=>rfl)) (A31 _ _ _),Ab9 _ (fun _ _=>rfl),rfl,?_,?_⟩,?_⟩
  ·intro b off hp;have Zq:MemPlace.cell b off∈before:=by rw[LH];simpa using hp
   rw[hb.frozen (Cc _ Zq)];exact hz b off Zq
  ·intro ha;have:=hn ha;rw[LH] at this
   simpa using this
  ·intro p hp _;rw[LH]
   simpa using hp
theorem law_contract {G:U7}{C:Ji}(hx:Ajv G P C)(Jr:NoNG P)(hm:P.follows .mixedOrders=true)(hl:laidOutB P=true){f:FuncId}{fn:Func}{s:ChangeSpec}{tb:TypeId}(hfn:P.funcs[f]?=some fn)
  (Ab9:s.vars=[]) (A43:∀ds:List (DataW H),ds.length=fn.params.size->s.fn H ds={ results:=[.lit (.bool true)],args:=ds }) (Azi:(fn.params.toList.all fun t=>Qy P 12 t)=true)
  (A3f:(fn.params.toList.all fun t=>P.readableRec t&&Nat.blt t P.types.size)=true) (hrt:fn.resultTypes = #[tb]) (hub:P.underlying tb=some .bool)
  {apart fresh Aav again:Bool} (W:World) (base:Nat) (args:Array Value) (ds gs:List (DataW H)) (before:List MemPlace)
  (hval:∀(j:Nat) t v,fn.params[j]?=some t->args[j]?=some v->Value.okWide P W .any base t v)
  (hW:DataW.Whole enc P fn.params.toList s.vars apart W args.toList ds gs before)
  (A71:∀qs:List PV,Bw (WTv P) fn.params.toList qs->∃fu d,Ad C P fu d f qs=some ⟨[.sc (.bool true)],[]⟩) (hG:G.ok W)(hGY:∀b,G.bl b->b<W.heap.size):
  Calls P f args W fun e W'=>∃v,e=.returned v∧s.post enc P fn apart fresh Aav again W args v W':=by
 have hW':=hW;obtain⟨p,q,hA,hV,rfl,JB,TY⟩:=hW;rw[Ab9] at hV;obtain⟨rfl,rfl⟩:=trodVars_none hV;obtain⟨qs,h1,h2⟩:=XZ Azi (fun j t v ht hv=>hval j t v (by simpa using ht) (by simpa using hv)) hA
 obtain⟨fu,d,hc⟩:=A71 qs h1;have hS:=(Yb Jr hm hx d f qs _ hc).2 W No Y4 args.toList (Adc (fun b h=>h.elim) h2) hG (fun b hb=>⟨hGY b hb,Qd b⟩)
 rw[Array.toArray_toList] at hS;refine hS.mono fun e W' ⟨vs,own,he,ho⟩=>?_
 have hv:=ho.vals
 have Ui:vs=[.bool true]:=by
  match vs,hv with
  |[u],hv=>
   have:A4 W' _ (.sc (.bool true)) u:=hv.1;rw[this.val]
  |[],hv=>exact hv.elim
  |_::_::_,hv=>exact hv.2.elim
 subst Ui;subst he;have hb:Below W.heap.size W W':=⟨ho.os,ho.tape,ho.output,ho.ext.size,fun k hk=>ho.ext.keep k hk (Qd k)⟩
 have Cc:∀x∈p,x.block<W.heap.size:=fun x hx=>hW'.lt x (by simpa using hx)
 have Ha:ds.length=fn.params.size:=by
  have:∀{ts:List TypeId} {vs:List Value} {ds:List (DataW H)} {p:List MemPlace},DataW.TrodAll enc P W 0 (fun _=>true) true ts vs ds p->ds.length=ts.length:=by
   intro ts
   induction ts with
   |nil=>intro vs ds p h;cases vs<;>cases ds<;>first|rfl|cases h
   |cons t ts ih=>
    intro vs ds p h;cases vs with
    |nil=>cases h
    |cons v vs=>
     cases ds with
     |nil=>cases h
     |cons d ds=>obtain⟨_,_,_,h2,_⟩:=h;simp[ih h2]
  simpa using this hA
 have hsp:=A43 (ds++[]) (by simpa using Ha)
 refine⟨_,rfl,UL (pa:=p) (pv:=[]) hW' ?_ ?_ ?_ rfl hb ?_⟩
 ·intro b sp hd;rw[hsp,hrt];exact trodAll_mk1 (shut_bool hub _)
 ·intro sp A8g;rw[hsp];simp only[List.append_nil];exact BU hl A3f hA (fun x hx=>hb.same (Cc x hx)) (fun x hx=>A8g x (by simpa using hx))
 ·intro sp _;rw[hsp,Ab9];rfl
 ·exact ok_one hrt rfl (okWide_bool_mk hub _)
end
end
section
open Go.Proofs.Tryz (prog)
set_option maxRecDepth 100000
theorem Au4 {d:Nat}{ps:List PV}{k:IntKind}{t e:TypeId}(hk:Zj prog t=.sl e)(hc:prog.cellsOf e=1)(he:Zj prog e=.int k)(h:WT prog d t ps):
  ∃l:List Int,ps=[.lst false 1 l.length (Ah k l)]∧l.length<=maxLen∧∀n∈l,(Lit.int k n).wf=true:=by
 obtain⟨rows,rfl,hl,hr⟩:=A40 hk h;obtain⟨l,h1,h2,h3⟩:=LY (A0g k) (fun n=>(Lit.int k n).wf=true) fun r hrr=>A0v he (hr r hrr).2
 refine⟨l,?_,by omega,h3⟩
 rw[h1,h2,hc]
theorem A4w {n:Int}(h:(Lit.int .u8 n).wf=true):0<=n∧n<=255:=by
 simp[Lit.wf,IntKind.min,IntKind.max,IntKind.signed,IntKind.bits] at h;omega
theorem Adn {p:PV}{k:IntKind}{t e:TypeId}(ha:Cx prog t=false)(hk:Zj prog t=.sl e)(hc:prog.cellsOf e=1)(he:Zj prog e=.int k)(h:WTv prog t p):
  ∃l:List Int,p=.lst false 1 l.length (Ah k l)∧l.length<=maxLen∧∀n∈l,(Lit.int k n).wf=true:=by
 have h':=Au8 (P:=prog) (t:=t) (p:=p) ha h;obtain⟨l,h1,h2,h3⟩:=Au4 hk hc he h';exact⟨l,by injection h1,h2,h3⟩
end
section
open Go.IntKind (wrap)
theorem Dz:type_of% @Bool.not_true:=@Bool.not_true
theorem My:type_of% @Bool.not_false:=@Bool.not_false
theorem Dc:type_of% @Nat.mul_one:=@Nat.mul_one
theorem Ch:type_of% @Nat.zero_add:=@Nat.zero_add
theorem C8:type_of% @List.drop_zero.{0}:=@List.drop_zero
theorem L6:type_of% @List.take_of_length_le.{0}:=@List.take_of_length_le
theorem Io:type_of% @List.length_append.{0}:=@List.length_append
theorem Zx:type_of% @List.length_nil.{0}:=@List.length_nil
theorem Ik:type_of% @List.length_cons.{0}:=@List.length_cons
theorem Kz:type_of% @Int.toNat_natCast:=@Int.toNat_natCast
theorem Bn:type_of% @if_neg.{1}:=@if_neg
theorem C5:type_of% @if_pos.{1}:=@if_pos
theorem Zzp:type_of% @List.cons_append.{0}:=@List.cons_append
theorem Zzq:type_of% @List.nil_append.{0}:=@List.nil_append
theorem Zzv:type_of% @List.append_assoc.{0}:=@List.append_assoc
theorem VN:type_of% @List.map_cons.{0,0}:=@List.map_cons
end
section
open Go.Proofs.Tryz (prog)
open Go.IntKind (wrap)
set_option maxRecDepth 100000
abbrev Qo:FuncId:=147
theorem BE {xs:FuncId->Option (List PV->Option A5)} (fu d:Nat)(a0 a1:Int):Ad (CX xs) prog fu (d+1) Qo [.sc (.int .u64 a0),.sc (.int .i64 a1)]=(fun (call:Af)=>Aa (wrap .u64 a1) fun x1=>Aa (X3 .u64 x1 63) fun x2=>Ar (decide (0<=x2))<|Aa (J0 .u64 a0 x2) fun x3=>Aa (wrap .u64 (64-x2)) fun x4=>Ar (decide (0<=x4))<|Aa (Is .u64 a0 x4) fun x5=>Aa (YE .u64 x3 x5) fun x6=>some (A5.mk [.sc (.int .u64 x6)] [])) (Ad (CX xs) prog fu d):=by kernel_rfl
abbrev G0:FuncId:=86
noncomputable def I0 (fu:Nat)(call:Af)(Be:Nat)(a0:List PV)(nn y0 y1:Nat)(y2:List PV)(y3 y4:Int)(y5:List PV):Option A5:=Dh CB prog fu call 86 Tryz.f86 (B7 Tryz.f86) [.lst false 1 Be a0] [.r,.r,.l,.r,.l] nn ⟨lk [(3,(.view 3 1 0 y0)),(11,(.lst false 1 y1 y2)),(12,(.sc (.int .i64 y3))),(13,(.sc (.int .i64 y4)))],Bu [(3,(.ar false y5))]⟩
noncomputable def Ls (fu:Nat)(call:Af)(Be:Nat)(a0:List PV)(m0 nn y0:Nat)(y1:Int)(y2:Nat)(y3:List PV)(y4 y5 y6:Int)(y7:List PV):Option A5:=Dh CB prog fu call 86 Tryz.f86 (B7 Tryz.f86) [.lst false 1 Be a0] [.r,.r,.l,.r,.l,.i m0,.r,.r,.l,.l,.r,.r,.l] nn ⟨lk [(3,(.view 3 1 0 y0)),(5,(.sc (.int .u64 y1))),(11,(.lst false 1 y2 y3)),(12,(.sc (.int .i64 y4))),(13,(.sc (.int .i64 y5))),(17,(.sc (.int .i64 y6)))],Bu [(3,(.ar false y7))]⟩
theorem Tc (fu:Nat)(call:Af)(Be:Nat)(a0:List PV)(nn y0 y1:Nat)(y2:List PV)(y3 y4:Int)(y5:List PV):I0 fu call Be a0 (nn+1) y0 y1 y2 y3 y4 y5=(Bk (decide (y4<y3)) (Ar (decide (0<=y4)&&decide (y4<(↑y1:Int)))<|Ae .u64 (List.getD y2 (Int.toNat y4*1) .top) fun x2=>Ls fu call Be a0 nn (fu) (y0) x2 (y1) (y2) (y3) (y4) 0 (y5)) (Ar (decide (y0*1<=y5.length))<|some (A5.mk [.own 1 y0 (List.take (y0*1) y5)] []))):=by kernel_rfl
theorem S5 (fu:Nat)(call:Af)(Be:Nat)(a0:List PV)(m0 nn y0:Nat)(y1:Int)(y2:Nat)(y3:List PV)(y4 y5 y6:Int)(y7:List PV):Ls fu call Be a0 m0 (nn+1) y0 y1 y2 y3 y4 y5 y6 y7=(Bk (decide (y6<8)) (Aa (wrap .i64 (8*y6)) fun x3=>Aa (wrap .i64 (56-x3)) fun x4=>Ar (decide (0<=x4))<|Aa (Is .u64 y1 x4) fun x5=>Aa (wrap .u8 x5) fun x6=>Ar (decide (y0*1<=y7.length)&&true&&decide ((y0+1)*1<=1099511627776)&&decide (y0+1<=1099511627776))<|Aa (y0+1) fun x7=>Aa (List.take (y0*1) y7++[.sc (.int .u8 x6)]) fun x8=>Aa (wrap .i64 (y6+1)) fun x9=>Ls fu call Be a0 m0 (nn) x7 (y1) (y2) (y3) (y4) (y5) x9 x8) (Aa (wrap .i64 (y5+1)) fun C7=>I0 fu call Be a0 (m0) (y0) (y2) (y3) (y4) C7 (y7))):=by kernel_rfl
theorem RV {xs:FuncId->Option (List PV->Option A5)} (fu d Be:Nat)(a0:List PV):Ad (CX xs) prog fu (d+1) G0 [.lst false 1 Be a0]=(fun (call:Af)=>Aa (wrap .i64 (8*(↑Be:Int))) fun x1=>Ar (decide (0<=x1)&&decide (x1*1<=1099511627776)&&decide (x1<=1099511627776))<|I0 fu call Be a0 (fu) 0 (Be) (a0) ((↑Be:Int)) 0 ([])) (Ad (CX xs) prog fu d):=by kernel_rfl
abbrev Xc:FuncId:=135
noncomputable def Ks (fu:Nat)(call:Af)(Be:Nat)(a0:List PV)(nn:Nat)(y0:Int)(y1:Nat)(y2:List PV)(y3 y4:Int):Option A5:=Dh CB prog fu call 135 Tryz.f135 (B7 Tryz.f135) [.lst false 1 Be a0] [.r,.r,.l,.r,.l] nn ⟨lk [(3,(.sc (.int .u64 y0))),(6,(.lst false 1 y1 y2)),(7,(.sc (.int .i64 y3))),(8,(.sc (.int .i64 y4)))],Bu []⟩
theorem R5 (fu:Nat)(call:Af)(Be:Nat)(a0:List PV)(nn:Nat)(y0:Int)(y1:Nat)(y2:List PV)(y3 y4:Int):Ks fu call Be a0 (nn+1) y0 y1 y2 y3 y4=(Bk (decide (y4<y3)) (Ar (decide (0<=y4)&&decide (y4<(↑y1:Int)))<|Ae .u8 (List.getD y2 (Int.toNat y4*1) .top) fun x1=>Aa (wrap .u64 x1) fun x2=>Aa (wrap .i64 (8*y4)) fun x3=>Ar (decide (0<=x3))<|Aa (J0 .u64 x2 x3) fun x4=>Aa (YE .u64 y0 x4) fun x5=>Aa (wrap .i64 (y4+1)) fun x6=>Ks fu call Be a0 (nn) x5 (y1) (y2) (y3) x6) (some (A5.mk [.sc (.int .u64 y0)] []))):=by kernel_rfl
theorem NN {xs:FuncId->Option (List PV->Option A5)} (fu d Be:Nat)(a0:List PV):Ad (CX xs) prog fu (d+1) Xc [.lst false 1 Be a0]=(fun (call:Af)=>Ks fu call Be a0 (fu) 0 (Be) (a0) ((↑Be:Int)) 0) (Ad (CX xs) prog fu d):=by kernel_rfl
abbrev Oa:FuncId:=136
noncomputable def Gk (fu:Nat)(call:Af)(Ak Al:Int)(Bd Cy a1:Int)(nn:Nat)(y0 y1:Int)(y2 y3:Int)(y4 y5:Int):Option A5:=Dh CB prog fu call 136 Tryz.f136 (B7 Tryz.f136) [.pbox [.sc (.int .u64 Ak),.sc (.int .u64 Al),.sc (.int .u64 Bd),.sc (.int .u64 Cy)],.sc (.int .i64 a1)] [.r,.l] nn ⟨lk [(0,(.ptr 288000 0)),(4,(.sc (.int .i64 y0))),(5,(.sc (.int .i64 y1)))],Bu [(288000,(.st [(.sc (.int .u64 y2)),(.sc (.int .u64 y3)),(.sc (.int .u64 y4)),(.sc (.int .u64 y5))]))]⟩
theorem Ll (fu:Nat)(call:Af)(Ak Al:Int)(Bd Cy a1:Int)(nn:Nat)(y0 y1:Int)(y2 y3:Int)(y4 y5:Int):Gk fu call Ak Al Bd Cy a1 (nn+1) y0 y1 y2 y3 y4 y5=(Bk (decide (y1<y0)) (Aa (wrap .u64 (y2+y3)) fun x1=>Aj (call 147 [.sc (.int .u64 y3),.sc (.int .i64 13)]) fun x2 x3=>Ac x3<|Ab x2 fun x4 x5=>Ae .u64 x4 fun x6=>Ac x5<|Aa (E5 .u64 x6 x1) fun x7=>Aj (call 147 [.sc (.int .u64 x1),.sc (.int .i64 32)]) fun x8 x9=>Ac x9<|Ab x8 fun C7 Dm=>Ae .u64 C7 fun Eh=>Ac Dm<|Aa (wrap .u64 (y4+y5)) fun E6=>Aj (call 147 [.sc (.int .u64 y5),.sc (.int .i64 16)]) fun D8 Ez=>Ac Ez<|Ab D8 fun Fu Gt=>Ae .u64 Fu fun G7=>Ac Gt<|Aa (E5 .u64 G7 E6) fun Gj=>Aa (wrap .u64 (Eh+Gj)) fun Gx=>Aj (call 147 [.sc (.int .u64 Gj),.sc (.int .i64 21)]) fun Ju H3=>Ac H3<|Ab Ju fun Jd Fn=>Ae .u64 Jd fun Ev=>Ac Fn<|Aa (E5 .u64 Ev Gx) fun Hz=>Aa (wrap .u64 (E6+x7)) fun J3=>Aj (call 147 [.sc (.int .u64 x7),.sc (.int .i64 17)]) fun Gy O4=>Ac O4<|Ab Gy fun Nu K7=>Ae .u64 Nu fun M4=>Ac K7<|Aa (E5 .u64 M4 J3) fun Oh=>Aj (call 147 [.sc (.int .u64 J3),.sc (.int .i64 32)]) fun P1 Py=>Ac Py<|Ab P1 fun Q9 Um=>Ae .u64 Q9 fun Ii=>Ac Um<|Aa (wrap .i64 (y1+1)) fun Lq=>Gk fu call Ak Al Bd Cy a1 (nn) (y0) Lq Gx Oh Ii Hz) (some (A5.mk [] [[.sc (.int .u64 y2),.sc (.int .u64 y3),.sc (.int .u64 y4),.sc (.int .u64 y5)]]))):=by kernel_rfl
theorem Xy {xs:FuncId->Option (List PV->Option A5)} (fu d:Nat)(Ak Al:Int)(Bd Cy a1:Int):Ad (CX xs) prog fu (d+1) Oa [.pbox [.sc (.int .u64 Ak),.sc (.int .u64 Al),.sc (.int .u64 Bd),.sc (.int .u64 Cy)],.sc (.int .i64 a1)]=(fun (call:Af)=>Gk fu call Ak Al Bd Cy a1 (fu) (a1) 0 (Ak) (Al) (Bd) (Cy)) (Ad (CX xs) prog fu d):=by kernel_rfl
abbrev Ob:FuncId:=134
theorem Xr {xs:FuncId->Option (List PV->Option A5)} (fu d:Nat)(Ak Al:Int)(Bd Cy a1:Int):Ad (CX xs) prog fu (d+1) Ob [.pbox [.sc (.int .u64 Ak),.sc (.int .u64 Al),.sc (.int .u64 Bd),.sc (.int .u64 Cy)],.sc (.int .u64 a1)]=(fun (call:Af)=>Aa (E5 .u64 Cy a1) fun x1=>Aj (call 136 [.pbox [.sc (.int .u64 Ak),.sc (.int .u64 Al),.sc (.int .u64 Bd),.sc (.int .u64 x1)],.sc (.int .i64 2)]) fun x2 x3=>Ac x2<|Ab x3 fun x4 x5=>Ab x4 fun x6 x7=>Ae .u64 x6 fun x8=>Ab x7 fun x9 C7=>Ae .u64 x9 fun Dm=>Ab C7 fun Eh E6=>Ae .u64 Eh fun D8=>Ab E6 fun Ez Fu=>Ae .u64 Ez fun Gt=>Ac Fu<|Ac x5<|Aa (E5 .u64 x8 a1) fun G7=>some (A5.mk [] [[.sc (.int .u64 G7),.sc (.int .u64 Dm),.sc (.int .u64 D8),.sc (.int .u64 Gt)]])) (Ad (CX xs) prog fu d):=by kernel_rfl
abbrev GU:FuncId:=109
noncomputable def Ln (fu:Nat)(call:Af)(a0 a1:Int)(Ld:Nat)(a2:List PV)(nn y0:Nat)(y1:List PV)(y2 y3:Int)(y4 y5:Int)(y6 y7 y8:Int):Option A5:=Dh CB prog fu call 109 Tryz.f109 (B7 Tryz.f109) [.sc (.int .u64 a0),.sc (.int .u64 a1),.lst false 1 Ld a2] [.r,.r,.r,.l,.r,.l] nn ⟨lk [(2,(.lst false 1 y0 y1)),(7,(.ptr 7 0)),(8,(.sc (.int .i64 y2))),(22,(.sc (.int .i64 y3))),(23,(.sc (.int .i64 y4)))],Bu [(7,(.st [(.sc (.int .u64 y5)),(.sc (.int .u64 y6)),(.sc (.int .u64 y7)),(.sc (.int .u64 y8))]))]⟩
theorem Xi (fu:Nat)(call:Af)(a0 a1:Int)(Ld:Nat)(a2:List PV)(nn y0:Nat)(y1:List PV)(y2 y3:Int)(y4 y5:Int)(y6 y7 y8:Int):Ln fu call a0 a1 Ld a2 (nn+1) y0 y1 y2 y3 y4 y5 y6 y7 y8=(Bk (decide (y4<y3)) (Aa (wrap .i64 (8*y4)) fun x6=>Aa (wrap .i64 (8*y4)) fun x7=>Aa (wrap .i64 (x7+8)) fun x8=>Ar (decide (0<=x6))<|Ar (decide (0<=x8))<|Ar (decide (Int.toNat x6<=Int.toNat x8)&&decide (Int.toNat x8<=y0))<|Aa (Int.toNat x8-Int.toNat x6) fun x9=>Aa (List.take (x9*1) (List.drop (Int.toNat x6*1) y1)) fun C7=>Aj (call 135 [.lst false 1 x9 C7]) fun Dm Eh=>Ac Eh<|Ab Dm fun E6 D8=>Ae .u64 E6 fun Ez=>Ac D8<|Aj (call 134 [.pbox [.sc (.int .u64 y5),.sc (.int .u64 y6),.sc (.int .u64 y7),.sc (.int .u64 y8)],.sc (.int .u64 Ez)]) fun Fu Gt=>Ac Fu<|Ab Gt fun G7 Gj=>Ab G7 fun Gx Ju=>Ae .u64 Gx fun H3=>Ab Ju fun Jd Fn=>Ae .u64 Jd fun Ev=>Ab Fn fun Hz J3=>Ae .u64 Hz fun Gy=>Ab J3 fun O4 Nu=>Ae .u64 O4 fun K7=>Ac Nu<|Ac Gj<|Aa (wrap .i64 (y4+1)) fun M4=>Ln fu call a0 a1 Ld a2 (nn) (y0) (y1) (y2) (y3) M4 H3 Ev Gy K7) (Aa (wrap .i64 (8*y2)) fun Oh=>Ar (decide (0<=Oh))<|Ar (decide (Int.toNat Oh<=y0)&&decide (y0<=y0))<|Aa (y0-Int.toNat Oh) fun P1=>Aa (List.take (P1*1) (List.drop (Int.toNat Oh*1) y1)) fun Py=>Aj (call 135 [.lst false 1 P1 Py]) fun Q9 Um=>Ac Um<|Ab Q9 fun Ii Lq=>Ae .u64 Ii fun Sr=>Ac Lq<|Aa (wrap .u64 (↑y0:Int)) fun Xv=>Aa (J0 .u64 Xv 56) fun Ss=>Aa (YE .u64 Sr Ss) fun Zu=>Aj (call 134 [.pbox [.sc (.int .u64 y5),.sc (.int .u64 y6),.sc (.int .u64 y7),.sc (.int .u64 y8)],.sc (.int .u64 Zu)]) fun Y5 Xw=>Ac Y5<|Ab Xw fun Xe Xx=>Ab Xe fun X9 X8=>Ae .u64 X9 fun AW=>Ab X8 fun Yu X7=>Ae .u64 Yu fun BF=>Ab X7 fun DR EL=>Ae .u64 DR fun BO=>Ab EL fun DV Yy=>Ae .u64 DV fun EW=>Ac Yy<|Ac Xx<|Aa (E5 .u64 BO 255) fun AM=>Aj (call 136 [.pbox [.sc (.int .u64 AW),.sc (.int .u64 BF),.sc (.int .u64 AM),.sc (.int .u64 EW)],.sc (.int .i64 4)]) fun BB DI=>Ac BB<|Ab DI fun BJ Zw=>Ab BJ fun Ya Xg=>Ae .u64 Ya fun BS=>Ab Xg fun ET CH=>Ae .u64 ET fun CN=>Ab CH fun CF CO=>Ae .u64 CF fun FJ=>Ab CO fun Z9 HN=>Ae .u64 Z9 fun LC=>Ac HN<|Ac Zw<|Aa (E5 .u64 BS CN) fun EG=>Aa (E5 .u64 EG FJ) fun JX=>Aa (E5 .u64 JX LC) fun OB=>some (A5.mk [.sc (.int .u64 OB)] []))):=by kernel_rfl
theorem Aaz {xs:FuncId->Option (List PV->Option A5)} (fu d:Nat)(a0 a1:Int)(Ld:Nat)(a2:List PV):Ad (CX xs) prog fu (d+1) GU [.sc (.int .u64 a0),.sc (.int .u64 a1),.lst false 1 Ld a2]=(fun (call:Af)=>Aa (E5 .u64 a0 8317987319222330741) fun x1=>Aa (E5 .u64 a1 7237128888997146477) fun x2=>Aa (E5 .u64 a0 7816392313619706465) fun x3=>Aa (E5 .u64 a1 8387220255154660723) fun x4=>Aa (wrap .i64 (Int.tdiv (↑Ld:Int) 8)) fun x5=>Ln fu call a0 a1 Ld a2 (fu) (Ld) (a2) x5 x5 0 x1 x2 x3 x4) (Ad (CX xs) prog fu d):=by kernel_rfl
abbrev Uk:FuncId:=66
theorem VQ {xs:FuncId->Option (List PV->Option A5)} (fu d:Nat)(a0:Int)(Lx:Nat)(a1:List PV):Ad (CX xs) prog fu (d+1) Uk [.sc (.int .i64 a0),.lst false 1 Lx a1]=(fun (call:Af)=>Aa (wrap .u64 a0) fun x1=>Aj (call 109 [.sc (.int .u64 x1),.sc (.int .u64 0),.lst false 1 Lx a1]) fun x2 x3=>Ac x3<|Ab x2 fun x4 x5=>Ae .u64 x4 fun x6=>Ac x5<|some (A5.mk [.sc (.int .u64 x6)] [])) (Ad (CX xs) prog fu d):=by kernel_rfl
abbrev GY:FuncId:=137
theorem Aaa {xs:FuncId->Option (List PV->Option A5)} (fu d:Nat)(a0 a1:Int)(Ld:Nat)(a2:List PV):Ad (CX xs) prog fu (d+1) GY [.sc (.int .u64 a0),.sc (.int .i64 a1),.lst false 1 Ld a2]=(fun (call:Af)=>Aa (wrap .u64 a1) fun x1=>Aa (wrap .u64 (1+x1)) fun x2=>Aj (call 109 [.sc (.int .u64 a0),.sc (.int .u64 x2),.lst false 1 Ld a2]) fun x3 x4=>Ac x4<|Ab x3 fun x5 x6=>Ae .u64 x5 fun x7=>Ac x6<|some (A5.mk [.sc (.int .u64 x7)] [])) (Ad (CX xs) prog fu d):=by kernel_rfl
abbrev Rm:FuncId:=128
theorem CY {xs:FuncId->Option (List PV->Option A5)} (fu d:Nat)(a0 a1:Int):Ad (CX xs) prog fu (d+1) Rm [.sc (.int .u64 a0),.sc (.int .u64 a1)]=(fun (call:Af)=>Ar (decide (0<=a1))<|Aa (J0 .u64 a0 a1) fun x1=>Aa (wrap .u64 (64-a1)) fun x2=>Ar (decide (0<=x2))<|Aa (Is .u64 a0 x2) fun x3=>Aa (YE .u64 x1 x3) fun x4=>some (A5.mk [.sc (.int .u64 x4)] [])) (Ad (CX xs) prog fu d):=by kernel_rfl
abbrev Qf:FuncId:=103
theorem BA {xs:FuncId->Option (List PV->Option A5)} (fu d:Nat)(Ak Al:Int)(Bd Cy:Int):Ad (CX xs) prog fu (d+1) Qf [.agg [.sc (.int .u64 Ak),.sc (.int .u64 Al),.sc (.int .u64 Bd),.sc (.int .u64 Cy)]]=(fun (call:Af)=>Aa (wrap .u64 (Ak+Al)) fun x1=>Aj (call 128 [.sc (.int .u64 Al),.sc (.int .u64 13)]) fun x2 x3=>Ac x3<|Ab x2 fun x4 x5=>Ae .u64 x4 fun x6=>Ac x5<|Aa (E5 .u64 x6 x1) fun x7=>Aj (call 128 [.sc (.int .u64 x1),.sc (.int .u64 32)]) fun x8 x9=>Ac x9<|Ab x8 fun C7 Dm=>Ae .u64 C7 fun Eh=>Ac Dm<|Aa (wrap .u64 (Bd+Cy)) fun E6=>Aj (call 128 [.sc (.int .u64 Cy),.sc (.int .u64 16)]) fun D8 Ez=>Ac Ez<|Ab D8 fun Fu Gt=>Ae .u64 Fu fun G7=>Ac Gt<|Aa (E5 .u64 G7 E6) fun Gj=>Aa (wrap .u64 (Eh+Gj)) fun Gx=>Aj (call 128 [.sc (.int .u64 Gj),.sc (.int .u64 21)]) fun Ju H3=>Ac H3<|Ab Ju fun Jd Fn=>Ae .u64 Jd fun Ev=>Ac Fn<|Aa (E5 .u64 Ev Gx) fun Hz=>Aa (wrap .u64 (E6+x7)) fun J3=>Aj (call 128 [.sc (.int .u64 x7),.sc (.int .u64 17)]) fun Gy O4=>Ac O4<|Ab Gy fun Nu K7=>Ae .u64 Nu fun M4=>Ac K7<|Aa (E5 .u64 M4 J3) fun Oh=>Aj (call 128 [.sc (.int .u64 J3),.sc (.int .u64 32)]) fun P1 Py=>Ac Py<|Ab P1 fun Q9 Um=>Ae .u64 Q9 fun Ii=>Ac Um<|some (A5.mk [.agg [.sc (.int .u64 Gx),.sc (.int .u64 Oh),.sc (.int .u64 Ii),.sc (.int .u64 Hz)]] [])) (Ad (CX xs) prog fu d):=by kernel_rfl
abbrev S9:FuncId:=61
noncomputable def Gz (fu:Nat)(call:Af)(a0 a1:Int)(Ld:Nat)(a2:List PV)(nn y0:Nat)(y1:List PV)(y2:Int)(y3:List PV):Option A5:=Dh CB prog fu call 61 Tryz.f61 (B7 Tryz.f61) [.sc (.int .u64 a0),.sc (.int .u64 a1),.lst false 1 Ld a2] [.r,.r,.l,.r,.l] nn ⟨lk [(2,(.lst false 1 y0 y1)),(7,(.ptr 7 0)),(8,(.sc (.int .i64 y2)))],Bu [(7,(.ar false y3))]⟩
noncomputable def Fy (fu:Nat)(call:Af)(a0 a1:Int)(Ld:Nat)(a2:List PV)(m0 nn y0:Nat)(y1:List PV)(y2 y3 y4:Int)(y5:List PV):Option A5:=Dh CB prog fu call 61 Tryz.f61 (B7 Tryz.f61) [.sc (.int .u64 a0),.sc (.int .u64 a1),.lst false 1 Ld a2] [.r,.r,.l,.r,.l,.i m0,.r,.l,.l,.r,.l,.r,.l] nn ⟨lk [(2,(.lst false 1 y0 y1)),(7,(.ptr 7 0)),(8,(.sc (.int .i64 y2))),(9,(.sc (.int .u64 y3))),(10,(.sc (.int .i64 y4)))],Bu [(7,(.ar false y5))]⟩
theorem Ps (fu:Nat)(call:Af)(a0 a1:Int)(Ld:Nat)(a2:List PV)(nn y0:Nat)(y1:List PV)(y2:Int)(y3:List PV):Gz fu call a0 a1 Ld a2 (nn+1) y0 y1 y2 y3=(Bk (decide (y2<=(↑y0:Int))) (Fy fu call a0 a1 Ld a2 nn (fu) (y0) (y1) (y2) 0 7 (y3)) (Ae .u64 (List.getD y3 2 .top) fun x5=>Aa (E5 .u64 x5 255) fun x6=>Ar (decide (3<=y3.length))<|Aa (Bq y3 [.sc (.int .u64 x6)] 2) fun x7=>Ae .u64 (List.getD x7 0 .top) fun x8=>Ae .u64 (List.getD x7 1 .top) fun x9=>Ae .u64 (List.getD x7 2 .top) fun C7=>Ae .u64 (List.getD x7 3 .top) fun Dm=>Aj (call 103 [.agg [.sc (.int .u64 x8),.sc (.int .u64 x9),.sc (.int .u64 C7),.sc (.int .u64 Dm)]]) fun Eh E6=>Ac E6<|Ab Eh fun D8 Ez=>Ft D8 fun Fu=>Ab Fu fun Gt G7=>Ae .u64 Gt fun Gj=>Ab G7 fun Gx Ju=>Ae .u64 Gx fun H3=>Ab Ju fun Jd Fn=>Ae .u64 Jd fun Ev=>Ab Fn fun Hz J3=>Ae .u64 Hz fun Gy=>Ac J3<|Ac Ez<|Aj (call 103 [.agg [.sc (.int .u64 Gj),.sc (.int .u64 H3),.sc (.int .u64 Ev),.sc (.int .u64 Gy)]]) fun O4 Nu=>Ac Nu<|Ab O4 fun K7 M4=>Ft K7 fun Oh=>Ab Oh fun P1 Py=>Ae .u64 P1 fun Q9=>Ab Py fun Um Ii=>Ae .u64 Um fun Lq=>Ab Ii fun Sr Xv=>Ae .u64 Sr fun Ss=>Ab Xv fun Zu Y5=>Ae .u64 Zu fun Xw=>Ac Y5<|Ac M4<|Aj (call 103 [.agg [.sc (.int .u64 Q9),.sc (.int .u64 Lq),.sc (.int .u64 Ss),.sc (.int .u64 Xw)]]) fun Xe Xx=>Ac Xx<|Ab Xe fun X9 X8=>Ft X9 fun AW=>Ab AW fun Yu X7=>Ae .u64 Yu fun BF=>Ab X7 fun DR EL=>Ae .u64 DR fun BO=>Ab EL fun DV Yy=>Ae .u64 DV fun EW=>Ab Yy fun AM BB=>Ae .u64 AM fun DI=>Ac BB<|Ac X8<|Aj (call 103 [.agg [.sc (.int .u64 BF),.sc (.int .u64 BO),.sc (.int .u64 EW),.sc (.int .u64 DI)]]) fun BJ Zw=>Ac Zw<|Ab BJ fun Ya Xg=>Ft Ya fun BS=>Ab BS fun ET CH=>Ae .u64 ET fun CN=>Ab CH fun CF CO=>Ae .u64 CF fun FJ=>Ab CO fun Z9 HN=>Ae .u64 Z9 fun LC=>Ab HN fun EG JX=>Ae .u64 EG fun OB=>Ac JX<|Ac Xg<|Ar (decide (4<=x7.length))<|Aa (Bq x7 [.sc (.int .u64 CN),.sc (.int .u64 FJ),.sc (.int .u64 LC),.sc (.int .u64 OB)] 0) fun NB=>Ae .u64 (List.getD NB 0 .top) fun NK=>Ae .u64 (List.getD NB 1 .top) fun QN=>Aa (E5 .u64 NK QN) fun ZP=>Ae .u64 (List.getD NB 2 .top) fun UB=>Aa (E5 .u64 ZP UB) fun x85=>Ae .u64 (List.getD NB 3 .top) fun VR=>Aa (E5 .u64 x85 VR) fun VO=>some (A5.mk [.sc (.int .u64 VO)] []))):=by kernel_rfl
theorem O8 (fu:Nat)(call:Af)(a0 a1:Int)(Ld:Nat)(a2:List PV)(m0 nn y0:Nat)(y1:List PV)(y2 y3 y4:Int)(y5:List PV):Fy fu call a0 a1 Ld a2 m0 (nn+1) y0 y1 y2 y3 y4 y5=(Bk (decide (y4>=0)) (Aa (wrap .i64 (y2+y4)) fun UM=>Bk (decide (UM<(↑y0:Int))) (Aa (wrap .i64 (y2+y4)) fun MA=>Ar (decide (0<=MA)&&decide (MA<(↑y0:Int)))<|Ae .u8 (List.getD y1 (Int.toNat MA*1) .top) fun YS=>Aa (J0 .u64 y3 8) fun UP=>Aa (wrap .u64 YS) fun x92=>Aa (YE .u64 UP x92) fun x93=>Aa (wrap .i64 (y4-1)) fun x94=>Fy fu call a0 a1 Ld a2 m0 (nn) (y0) (y1) (y2) x93 x94 (y5)) (Bk (y4==7) (Aa (wrap .u8 (↑y0:Int)) fun x95=>Aa (J0 .u64 y3 8) fun x96=>Aa (wrap .u64 x95) fun UA=>Aa (YE .u64 x96 UA) fun OQ=>Aa (wrap .i64 (y4-1)) fun x99=>Fy fu call a0 a1 Ld a2 m0 (nn) (y0) (y1) (y2) OQ x99 (y5)) (Aa (J0 .u64 y3 8) fun V2=>Aa (YE .u64 V2 0) fun Xs=>Aa (wrap .i64 (y4-1)) fun Jh=>Fy fu call a0 a1 Ld a2 m0 (nn) (y0) (y1) (y2) Xs Jh (y5)))) (Ae .u64 (List.getD y5 3 .top) fun Mx=>Aa (E5 .u64 Mx y3) fun X1=>Ar (decide (4<=y5.length))<|Aa (Bq y5 [.sc (.int .u64 X1)] 3) fun Uy=>Ae .u64 (List.getD Uy 0 .top) fun Vq=>Ae .u64 (List.getD Uy 1 .top) fun Pa=>Ae .u64 (List.getD Uy 2 .top) fun DK=>Ae .u64 (List.getD Uy 3 .top) fun HC=>Aj (call 103 [.agg [.sc (.int .u64 Vq),.sc (.int .u64 Pa),.sc (.int .u64 DK),.sc (.int .u64 HC)]]) fun JS ID=>Ac ID<|Ab JS fun Lf P5=>Ft Lf fun NW=>Ab NW fun IX GQ=>Ae .u64 IX fun MY=>Ab GQ fun KJ JN=>Ae .u64 KJ fun MT=>Ab JN fun JO GJ=>Ae .u64 JO fun KH=>Ab GJ fun JG IQ=>Ae .u64 JG fun Xu=>Ac IQ<|Ac P5<|Aj (call 103 [.agg [.sc (.int .u64 MY),.sc (.int .u64 MT),.sc (.int .u64 KH),.sc (.int .u64 Xu)]]) fun EC OD=>Ac OD<|Ab EC fun NF Zi=>Ft NF fun QE=>Ab QE fun NC QY=>Ae .u64 NC fun VD=>Ab QY fun QX NG=>Ae .u64 QX fun UQ=>Ab NG fun UG SB=>Ae .u64 UG fun SD=>Ab SB fun RI RN=>Ae .u64 RI fun QR=>Ac RN<|Ac Zi<|Ar (decide (4<=Uy.length))<|Aa (Bq Uy [.sc (.int .u64 VD),.sc (.int .u64 UQ),.sc (.int .u64 SD),.sc (.int .u64 QR)] 0) fun JT=>Ae .u64 (List.getD JT 0 .top) fun ND=>Aa (E5 .u64 ND y3) fun RA=>Ar (decide (1<=JT.length))<|Aa (Bq JT [.sc (.int .u64 RA)] 0) fun PD=>Aa (wrap .i64 (y2+8)) fun RQ=>Gz fu call a0 a1 Ld a2 (m0) (y0) (y1) RQ PD)):=by kernel_rfl
theorem GP {xs:FuncId->Option (List PV->Option A5)} (fu d:Nat)(a0 a1:Int)(Ld:Nat)(a2:List PV):Ad (CX xs) prog fu (d+1) S9 [.sc (.int .u64 a0),.sc (.int .u64 a1),.lst false 1 Ld a2]=(fun (call:Af)=>Aa (E5 .u64 a0 8317987319222330741) fun x1=>Aa (E5 .u64 a1 7237128888997146477) fun x2=>Aa (E5 .u64 a0 7816392313619706465) fun x3=>Aa (E5 .u64 a1 8387220255154660723) fun x4=>Gz fu call a0 a1 Ld a2 (fu) (Ld) (a2) 0 ([.sc (.int .u64 x1),.sc (.int .u64 x2),.sc (.int .u64 x3),.sc (.int .u64 x4)])) (Ad (CX xs) prog fu d):=by kernel_rfl
abbrev Mf:FuncId:=33
theorem CR {xs:FuncId->Option (List PV->Option A5)} (fu d:Nat)(a0:Int)(Lx:Nat)(a1:List PV):Ad (CX xs) prog fu (d+1) Mf [.sc (.int .i64 a0),.lst false 1 Lx a1]=(fun (call:Af)=>Aa (wrap .u64 a0) fun x1=>Aj (call 61 [.sc (.int .u64 x1),.sc (.int .u64 0),.lst false 1 Lx a1]) fun x2 x3=>Ac x3<|Ab x2 fun x4 x5=>Ae .u64 x4 fun x6=>Ac x5<|some (A5.mk [.sc (.int .u64 x6)] [])) (Ad (CX xs) prog fu d):=by kernel_rfl
abbrev Tb:FuncId:=85
theorem FH {xs:FuncId->Option (List PV->Option A5)} (fu d:Nat)(a0 a1:Int)(Ld:Nat)(a2:List PV):Ad (CX xs) prog fu (d+1) Tb [.sc (.int .u64 a0),.sc (.int .i64 a1),.lst false 1 Ld a2]=(fun (call:Af)=>Aa (wrap .u64 a1) fun x1=>Aa (wrap .u64 (1+x1)) fun x2=>Aj (call 61 [.sc (.int .u64 a0),.sc (.int .u64 x2),.lst false 1 Ld a2]) fun x3 x4=>Ac x4<|Ab x3 fun x5 x6=>Ae .u64 x5 fun x7=>Ac x6<|some (A5.mk [.sc (.int .u64 x7)] [])) (Ad (CX xs) prog fu d):=by kernel_rfl
abbrev Fg:FuncId:=79
noncomputable def F9 (fu:Nat)(call:Af)(Be:Nat)(a0:List PV)(nn y0:Nat)(y1:List PV)(y2:Nat)(y3:Int)(y4:List PV):Option A5:=Dh CB prog fu call 79 Tryz.f79 (B7 Tryz.f79) [.lst false 1 Be a0] [.r,.r,.l,.r,.l] nn ⟨lk [(0,(.lst false 1 y0 y1)),(3,(.view 3 1 0 y2)),(4,(.sc (.int .i64 y3)))],Bu [(3,(.ar false y4))]⟩
noncomputable def Hp (fu:Nat)(call:Af)(Be:Nat)(a0:List PV)(m0 nn y0:Nat)(y1:List PV)(y2:Nat)(y3 y4:Int)(y5:List PV):Option A5:=Dh CB prog fu call 79 Tryz.f79 (B7 Tryz.f79) [.lst false 1 Be a0] [.r,.r,.l,.r,.l,.i m0,.r,.l,.l,.r,.l] nn ⟨lk [(0,(.lst false 1 y0 y1)),(3,(.view 3 1 0 y2)),(4,(.sc (.int .i64 y3))),(5,(.sc (.int .i64 y4)))],Bu [(3,(.ar false y5))]⟩
theorem Nm (fu:Nat)(call:Af)(Be:Nat)(a0:List PV)(nn y0:Nat)(y1:List PV)(y2:Nat)(y3:Int)(y4:List PV):F9 fu call Be a0 (nn+1) y0 y1 y2 y3 y4=(Bk (decide (y3<(↑y0:Int))) (Hp fu call Be a0 nn (fu) (y0) (y1) (y2) (y3) 7 (y4)) (Ar (decide (y2*1<=y4.length))<|some (A5.mk [.own 1 y2 (List.take (y2*1) y4)] []))):=by kernel_rfl
theorem Np (fu:Nat)(call:Af)(Be:Nat)(a0:List PV)(m0 nn y0:Nat)(y1:List PV)(y2:Nat)(y3 y4:Int)(y5:List PV):Hp fu call Be a0 m0 (nn+1) y0 y1 y2 y3 y4 y5=(Bk (decide (y4>=0)) (Ar (decide (0<=y3)&&decide (y3<(↑y0:Int)))<|Ae .u64 (List.getD y1 (Int.toNat y3*1) .top) fun x1=>Aa (wrap .i64 (8*y4)) fun x2=>Aa (wrap .u64 x2) fun x3=>Ar (decide (0<=x3))<|Aa (Is .u64 x1 x3) fun x4=>Aa (wrap .u8 x4) fun x5=>Ar (decide (y2*1<=y5.length)&&true&&decide ((y2+1)*1<=1099511627776)&&decide (y2+1<=1099511627776))<|Aa (y2+1) fun x6=>Aa (List.take (y2*1) y5++[.sc (.int .u8 x5)]) fun x7=>Aa (wrap .i64 (y4-1)) fun x8=>Hp fu call Be a0 m0 (nn) (y0) (y1) x6 (y3) x8 x7) (Aa (wrap .i64 (y3+1)) fun x9=>F9 fu call Be a0 (m0) (y0) (y1) (y2) x9 (y5))):=by kernel_rfl
theorem AQ {xs:FuncId->Option (List PV->Option A5)} (fu d Be:Nat)(a0:List PV):Ad (CX xs) prog fu (d+1) Fg [.lst false 1 Be a0]=(fun (call:Af)=>F9 fu call Be a0 (fu) (Be) (a0) 0 0 ([])) (Ad (CX xs) prog fu d):=by kernel_rfl
end
section
open Go.IntKind (wrap)
def rot (x k:Int):Int:=YE .u64 (J0 .u64 x k) (Is .u64 x (64-k))
structure W4 where
 a:Int
 b:Int
 c:Int
 d:Int
def W4.cells (v:W4):List PV:=[.sc (.int .u64 v.a),.sc (.int .u64 v.b),.sc (.int .u64 v.c),.sc (.int .u64 v.d)]
def A72 (v:W4):W4:=⟨rot (wrap .u64 (v.a+v.b)) 32,E5 .u64 (rot v.b 13) (wrap .u64 (v.a+v.b)),wrap .u64 (v.c+v.d),E5 .u64 (rot v.d 16) (wrap .u64 (v.c+v.d))⟩
def A8v (v:W4):W4:=⟨wrap .u64 (v.a+v.d),E5 .u64 (rot v.b 17) (wrap .u64 (v.c+v.b)),rot (wrap .u64 (v.c+v.b)) 32,E5 .u64 (rot v.d 21) (wrap .u64 (v.a+v.d))⟩
def TQ (v:W4):W4:=A8v (A72 v)
def Ahu:Nat->W4->W4
 |0,v=>v
 |n+1,v=>Ahu n (TQ v)
def A4p (r:W4)(m:Int):W4:=⟨E5 .u64 r.a m,r.b,r.c,r.d⟩
def U0 (v:W4)(m:Int):W4:=A4p (Ahu 2 ⟨v.a,v.b,v.c,E5 .u64 v.d m⟩) m
def Vo:List Int->Int
 |[]=>0
 |b::r=>b+256*Vo r
def UK:Nat->W4->List Int->W4
 |0,v,_=>v
 |n+1,v,l=>UK n (U0 v (Vo (l.take 8))) (l.drop 8)
def Azc (k0 k1:Int):W4:=⟨E5 .u64 k0 8317987319222330741,E5 .u64 k1 7237128888997146477,E5 .u64 k0 7816392313619706465,E5 .u64 k1 8387220255154660723⟩
def Ams (v:W4):W4:=Ahu 4 ⟨v.a,v.b,E5 .u64 v.c 255,v.d⟩
def Amz (v:W4):Int:=E5 .u64 (E5 .u64 (E5 .u64 v.a v.b) v.c) v.d
def Qc (l:List Int):Int:=Vo (l.drop (8*(l.length / 8)))+72057594037927936*((l.length:Int) % 256)
def Awu (k0 k1:Int)(l:List Int):Int:=Amz (Ams (U0 (UK (l.length / 8) (Azc k0 k1) l) (Qc l)))
def R3 (dom:Int)(l:List Int):Int:=Awu (wrap .u64 dom) 0 l
def Auj (key dom:Int)(l:List Int):Int:=Awu key (wrap .u64 (1+wrap .u64 dom)) l
def Li (l:List Int):Prop:=∀b∈l,0<=b∧b<=255
theorem W0:∀{l:List Int},Li l->0<=Vo l∧Vo l<256 ^ l.length
 |[],_=>by simp[Vo]
 |b::r,h=>by
  have h1:=h b (by simp)
  have h2:=W0 (l:=r) fun x hx=>h x (by simp[hx])
  have h3:(256:Int) ^ (b::r).length=256 ^ r.length*256:=by rw[Ik,Int.pow_succ]
  simp only[Vo];omega
theorem CU:∀(l r:List Int),Vo (l++r)=Vo l+256 ^ l.length*Vo r
 |[],r=>by simp[Vo]
 |b::l,r=>by
  have ih:=CU l r;simp only[Zzp,Vo,Ik,Int.pow_succ];rw[ih,Int.mul_add];have:(256:Int)*(256 ^ l.length*Vo r)=256 ^ l.length*256*Vo r:=by rw[←Int.mul_assoc,Int.mul_comm 256]
  omega
theorem Abl {a c:Int}(k b:Nat)(h0:0<=a)(h1:a<((2 ^ k:Nat):Int)) (hc:c=((b*2 ^ k:Nat):Int)) (h:a+c<=18446744073709551615):YE .u64 a c=a+c∧YE .u64 c a=a+c:=by
 obtain⟨n,rfl⟩:=Int.eq_ofNat_of_zero_le h0;subst hc;have hn:n<2 ^ k:=by omega
 generalize hB:b*2 ^ k=m at h
 have e4:(BitVec.ofInt 64 (n:Int)).toNat=n:=by
  rw[BitVec.toNat_ofInt];omega
 have e5:(BitVec.ofInt 64 (m:Int)).toNat=m:=by
  rw[BitVec.toNat_ofInt];omega
 have e6:m ||| n=m+n:=by
  have:=Nat.shiftLeft_add_eq_or_of_lt hn b;rw[Nat.shiftLeft_eq,hB] at this;exact this.symm
 constructor
 ·show wrap .u64 ((BitVec.ofInt 64 (n:Int) ||| BitVec.ofInt 64 (m:Int)).toNat:Int)=_;rw[BitVec.toNat_or,e4,e5,Nat.or_comm,e6,D7 (by omega) (by omega)]
  omega
 ·show wrap .u64 ((BitVec.ofInt 64 (m:Int) ||| BitVec.ofInt 64 (n:Int)).toNat:Int)=_;rw[BitVec.toNat_or,e4,e5,e6,D7 (by omega) (by omega)]
  omega
theorem Akd {a k:Int}(h0:0<=a)(hk:0<=k)(I2:k<=64)(h:a*((2 ^ k.toNat:Nat):Int)<=18446744073709551615):J0 .u64 a k=a*((2 ^ k.toNat:Nat):Int):=by
 show wrap .u64 (a*2 ^ (min k.toNat IntKind.u64.bits))=_;have e:min k.toNat IntKind.u64.bits=k.toNat:=Nat.min_eq_left (by show k.toNat<=64;omega)
 have e2:(2:Int) ^ k.toNat=((2 ^ k.toNat:Nat):Int):=by simp
 rw[e,e2,D7 (Int.mul_nonneg h0 (Int.natCast_nonneg _)) h]
end
end Go.Proofs.YtpogefhpiaaliaaGreatDoor.Pv
