/-
  The proof of CertificateStrict, part 3.
-/
import Derived.Test.YtdjihiphpgkfmaaGreatDoorTB
import Derived.StillTail
import Derived.WalkKit
import Derived.ProofKit
import Derived.OpenShut
import Derived.ShutString
import Derived.ChangeOld
import Derived.Below
import Derived.Deep.Slices
import Derived.ChangeSame
import Derived.WideKeyArgs
import Derived.Carry
import Derived.Test.YtdjihiphpgkfmaaGreatDoorRows
set_option linter.unusedSimpArgs false
set_option linter.unusedVariables false
namespace Go.Proofs.YtdjihiphpgkfmaaGreatDoor.Pv
section
section
variable {R R':Type} {Rel:Option R->Option R'->Prop}
theorem Ij (hn:Rel none none){k:IntKind}{p:PV}{K:Int->Option R}{K':Int->Option R'}(hK:∀n,Rel (K n) (K' n)):Rel (Ad k p K) (Ad k p K'):=by
 unfold Ad;split
 ·split<;>first|exact hK _|exact hn
 ·exact hn
theorem D8 (hn:Rel none none){p:PV}{K:IntKind->Int->Option R}{K':IntKind->Int->Option R'}(hK:∀k n,Rel (K k n) (K' k n)):Rel (Do p K) (Do p K'):=by
 unfold Do;split<;>first|exact hK _ _|exact hn
theorem G7 (hn:Rel none none){p:PV}{K:Bool->Option R}{K':Bool->Option R'}(hK:∀n,Rel (K n) (K' n)):Rel (Bl p K) (Bl p K'):=by
 unfold Bl;split<;>first|exact hK _|exact hn
theorem Gp (hn:Rel none none){p:PV}{K:ByteArray->Option R}{K':ByteArray->Option R'}(hK:∀n,Rel (K n) (K' n)):Rel (Co p K) (Co p K'):=by
 unfold Co;split<;>first|exact hK _|exact hn
theorem Gg (hn:Rel none none){es:Nat}{p:PV}{K:Bool->Nat->List PV->Option R}{K':Bool->Nat->List PV->Option R'}(hK:∀z n c,Rel (K z n c) (K' z n c)):Rel (Fd es p K) (Fd es p K'):=by
 unfold Fd;split
 ·rename_i es' _ _;cases Nat.beq es' es
  ·exact hn
  ·exact hK _ _ _
 ·exact hK _ _ _
 ·exact hn
theorem Akq (hn:Rel none none){es:Nat}{p:PV}{K:PV->Option R}{K':PV->Option R'}(hK:∀p,Rel (K p) (K' p)):Rel (fsK es p K) (fsK es p K'):=by
 unfold fsK;split
 ·rename_i es' _ _;cases Nat.beq es' es
  ·exact hn
  ·exact hK _
 ·exact Gg hn fun _ _ _=>hK _
theorem Aa8 (hn:Rel none none){es:Nat}{p:PV}{K:Nat->List PV->Option R}{K':Nat->List PV->Option R'}(hK:∀n c,Rel (K n c) (K' n c)):Rel (El es p K) (El es p K'):=by
 unfold El;split
 ·rename_i es' _ _;cases Nat.beq es' es
  ·exact hn
  ·exact hK _ _
 ·exact hn
theorem A9 (hn:Rel none none){b:Bool}{K:Option R}{K':Option R'}(hK:b=true->Rel K K'):Rel (Ap b K) (Ap b K'):=by
 cases b
 ·exact hn
 ·exact hK rfl
theorem HB {b:Bool}{x y:Option R}{x' y':Option R'}(hx:Rel x x')(hy:Rel y y'):Rel (Bc b x y) (Bc b x' y'):=by
 cases b
 ·exact hy
 ·exact hx
theorem Du (hn:Rel none none){α:Type}{o:Option α}{K:α->Option R}{K':α->Option R'}(hK:∀a,o=some a->Rel (K a) (K' a)):Rel (Ep o K) (Ep o K'):=by
 cases o
 ·exact hn
 ·exact hK _ rfl
theorem Bi (hn:Rel none none){α:Type}{l:List α}{K:α->List α->Option R}{K':α->List α->Option R'}(hK:∀a r,l=a::r->Rel (K a r) (K' a r)):Rel (Ab l K) (Ab l K'):=by
 cases l
 ·exact hn
 ·exact hK _ _ rfl
theorem Fk (hn:Rel none none){α:Type}{l:List α}{K:Option R}{K':Option R'}(hK:Rel K K'):Rel (Ac l K) (Ac l K'):=by
 cases l
 ·exact hK
 ·exact hn
theorem Jn (hn:Rel none none){p:PV}{K:List PV->Option R}{K':List PV->Option R'}(hK:∀c,p=.agg c->Rel (K c) (K' c)):Rel (Cy p K) (Cy p K'):=by
 unfold Cy;split
 ·exact hK _ rfl
 ·exact hn
theorem Aes (hn:Rel none none){p:PV}{K:List PV->Option R}{K':List PV->Option R'}(hK:∀c,Rel (K c) (K' c)):Rel (W6 p K) (W6 p K'):=by
 unfold W6;split
 ·exact hK _
 ·exact hn
theorem OO (hn:Rel none none){r:Option A0}{K:List PV->List (List PV)->Option R} {K':List PV->List (List PV)->Option R'} (hK:∀v o,Rel (K v o) (K' v o)):Rel (Ag r K) (Ag r K'):=by
 unfold Ag;split
 ·exact hK _ _
 ·exact hn
theorem Aav (hn:Rel none none){p:PV}{K:Value->Option R}{K':Value->Option R'}(hK:∀v,Rel (K v) (K' v)):Rel (fnK p K) (fnK p K'):=by
 unfold fnK;split
 ·exact hK _
 ·exact hn
theorem Aji (hn:Rel none none){p:PV}{K:FuncId->Option R}{K':FuncId->Option R'}(hK:∀v,Rel (K v) (K' v)):Rel (fvK p K) (fvK p K'):=by
 unfold fvK;split
 ·rename_i f a b;cases (a.isEmpty&&b.isEmpty)
  ·exact hn
  ·exact hK _
 ·exact hn
theorem Qa (hn:Rel none none){t:CT}{p:PV}{K:PV->Option R}{K':PV->Option R'}(hK:∀p,Rel (K p) (K' p)):Rel (CK t p K) (CK t p K'):=by
 unfold CK;split
 ·exact Ij hn fun _=>hK _
 ·exact G7 hn fun _=>hK _
 ·exact Gp hn fun _=>hK _
 ·exact Gg hn fun _ _ _=>hK _
 ·exact Aav hn fun _=>hK _
theorem Ala (hn:Rel none none){t:CT}{p:PV}{K:PV->Option R}{K':PV->Option R'}(hK:∀p,Rel (K p) (K' p)):Rel (fcK t p K) (fcK t p K'):=by
 unfold fcK;split
 ·exact Akq hn hK
 ·exact Qa hn hK
theorem R0 (hn:Rel none none):∀{ts:List CT}{cells:List PV}{off:Nat}{K:List PV->Option R}{K':List PV->Option R'},(∀c,Rel (K c) (K' c))->Rel (Vf ts cells off K) (Vf ts cells off K')
 |[],_,_,_,_,hK=>hK _
 |_::_,_,_,_,_,hK=>Qa hn fun _=>R0 hn fun _=>hK _
theorem Ow (hn:Rel none none):∀{ts:List CT}{cells:List PV}{off:Nat}{K:List PV->Option R}{K':List PV->Option R'},(∀c,Rel (K c) (K' c))->Rel (Qr ts cells off K) (Qr ts cells off K')
 |[],_,_,_,_,hK=>hK _
 |_::_,_,_,_,_,hK=>Ala hn fun _=>Ow hn fun _=>hK _
theorem AC (hn:Rel none none){g:Bool}{cells:List PV}{K:PV->Option R}{K':PV->Option R'}(hK:∀p,Rel (K p) (K' p)):Rel (mkV g cells K) (mkV g cells K'):=by
 cases g
 ·exact Bi hn fun _ _ _=>Fk hn (hK _)
 ·exact hK _
theorem Ajv (hn:Rel none none){P:Program}{t:TypeId}{v:Value}{K:PV->Option R}{K':PV->Option R'}(hK:∀p,Bq p=[]->Rel (K p) (K' p)) (hK':∀c,Rel (K (.agg c)) (K' (.agg c))):Rel (cvK P t v K) (cvK P t v K'):=by
 unfold cvK;split
 ·exact A9 hn fun _=>R0 hn fun _=>hK' _
 ·split
  ·exact hK _ rfl
  ·exact hn
 ·exact hK _ rfl
theorem Ahh (hn:Rel none none){op:BinOp}{x y:Int}{K:Bool->Option R}{K':Bool->Option R'}(hK:∀n,Rel (K n) (K' n)):Rel (Akp op x y K) (Akp op x y K'):=by
 unfold Akp;split<;>first|exact hK _|exact hn
theorem ZQ (hn:Rel none none){op:BinOp}{k:IntKind}{x y:Int}{K:PV->Option R}{K':PV->Option R'}(hK:∀n,Rel (K n) (K' n)):Rel (HI op k x y K) (HI op k x y K'):=by
 unfold HI;split<;>first|exact hK _|exact A9 hn fun _=>hK _|exact Ahh hn fun _=>hK _
theorem YI (hn:Rel none none){op:BinOp}{x y:ByteArray}{K:PV->Option R}{K':PV->Option R'}(hK:∀n,Rel (K n) (K' n)):Rel (LC op x y K) (LC op x y K'):=by
 unfold LC;split<;>first|exact hK _|exact A9 hn fun _=>hK _|exact hn
theorem PQ (hn:Rel none none){e:Bool}{p:PV}{K:PV->Option R}{K':PV->Option R'}(hK:∀n,Rel (K n) (K' n)):Rel (LN e p K) (LN e p K'):=by
 unfold LN;split<;>first|exact hK _|exact HB (hK _) (HB (hK _) (hK _))|exact HB (hK _) (hK _)|exact hn
theorem TM (hn:Rel none none):∀{ts:List CT}{ps qs:List PV}{K:Bool->Option R}{K':Bool->Option R'},(∀b,Rel (K b) (K' b))->Rel (HP ts ps qs K) (HP ts ps qs K'):=by
 intro ts
 induction ts with
 |nil=>
  intro ps qs K K' hK;cases ps<;>cases qs<;>first|exact hK _|exact hn
 |cons t ts ih=>
  intro ps qs K K' hK;cases ps with
  |nil=>cases t<;>cases qs<;>exact hn
  |cons p ps=>
   cases qs with
   |nil=>cases t<;>exact hn
   |cons q qs=>
    cases t
    ·exact Ij hn fun _=>Ij hn fun _=>ih fun _=>hK _
    ·exact G7 hn fun _=>G7 hn fun _=>ih fun _=>hK _
    ·exact Gp hn fun _=>Gp hn fun _=>ih fun _=>hK _
    ·exact hn
    ·exact hn
theorem Age (hn:Rel none none){P:Program}{op:BinOp}{t:TypeId}{x y:PV}{K:PV->Option R}{K':PV->Option R'}(hK:∀p,Rel (K p) (K' p)):Rel (Ahn P op t x y K) (Ahn P op t x y K'):=by
 unfold Ahn;split
 ·split
  ·exact Ij hn fun _=>D8 hn fun _ _=>A9 hn fun _=>hK _
  ·exact Ij hn fun _=>D8 hn fun _ _=>A9 hn fun _=>hK _
  ·exact Ij hn fun _=>Ij hn fun _=>ZQ hn hK
 ·exact Gp hn fun _=>Gp hn fun _=>YI hn hK
 ·split
  ·exact G7 hn fun _=>G7 hn fun _=>hK _
  ·exact G7 hn fun _=>G7 hn fun _=>hK _
  ·exact hn
 ·split
  ·exact PQ hn fun _=>hK _
  ·exact PQ hn fun _=>hK _
  ·exact hn
 ·exact hn
theorem VN (hn:Rel none none){P:Program}{op:BinOp}{t:TypeId}{x y:PV}{K:PV->Option R}{K':PV->Option R'}(hK:∀p,Rel (K p) (K' p)):Rel (V1 P op t x y K) (V1 P op t x y K'):=by
 unfold V1;split
 ·split
  ·exact A9 hn fun _=>Jn hn fun _ _=>Jn hn fun _ _=>TM hn fun _=>hK _
  ·exact A9 hn fun _=>Jn hn fun _ _=>Jn hn fun _ _=>TM hn fun _=>hK _
  ·exact hn
 ·exact Age hn hK
theorem Ajk (hn:Rel none none){op:UnOp}{x:PV}{K:PV->Option R}{K':PV->Option R'}(hK:∀p,Rel (K p) (K' p)):Rel (unK op x K) (unK op x K'):=by
 unfold unK;split<;>first|exact G7 hn fun _=>hK _|exact D8 hn fun _ _=>hK _|exact hn
theorem Hw (hn:Rel none none){p:Option PV}{d:Nat}{K:Nat->Option R}{K':Nat->Option R'}(hK:∀n,Rel (K n) (K' n)):Rel (Mp p d K) (Mp p d K'):=by
 unfold Mp;split
 ·exact hK _
 ·exact D8 hn fun _ _=>A9 hn fun _=>hK _
theorem BX (hn:Rel none none){x:PV}{d:Nat}{K:PV->Option R}{K':PV->Option R'}(hK:∀n,Rel (K n) (K' n)):Rel (U9 x d K) (U9 x d K'):=by
 unfold U9;split<;>first|exact hK _|exact hn
theorem KK (hn:Rel none none){P:Program}{t:TypeId}{x:PV}{i:Int}{K:PV->Option R}{K':PV->Option R'}(hK:∀p,Rel (K p) (K' p)):Rel (Kv P t x i K) (Kv P t x i K'):=by
 unfold Kv;split
 ·exact A9 hn fun _=>A9 hn fun _=>BX hn hK
 ·refine A9 hn fun _=>?_
  split
  ·exact A9 hn fun _=>A9 hn fun _=>hK _
  ·exact Gg hn fun _ _ _=>A9 hn fun _=>hK _
 ·exact hn
theorem DI (hn:Rel none none){Hf:Nat->Option (Nat × Nat)}:∀{ps:List (Nat × PV)} {cells:List PV}{K:List PV->Option R}{K':List PV->Option R'},(∀c,Rel (K c) (K' c))->Rel (Ud Hf ps cells K) (Ud Hf ps cells K')
 |[],_,_,_,hK=>hK _
 |(_,_)::_,_,_,_,hK=>Du hn fun _ _=>A9 hn fun _=>DI hn hK
theorem U5 (hn:Rel none none){P:Program}{t:TypeId}{K:List PV->Option R}{K':List PV->Option R'}(hK:∀p,Rel (K p) (K' p)):Rel (Hh P t K) (Hh P t K'):=
 Du hn fun _ _=>A9 hn fun _=>R0 hn hK
theorem Afj (hn:Rel none none){x y:PV}{K:PV->Option R}{K':PV->Option R'}(hK:∀p,Rel (K p) (K' p)):Rel (Ajz x y K) (Ajz x y K'):=
 D8 hn fun _ _=>Ij hn fun _=>hK _
theorem Ai3 (hn:Rel none none){x y:PV}{K:PV->Option R}{K':PV->Option R'}(hK:∀p,Rel (K p) (K' p)):Rel (Ak8 x y K) (Ak8 x y K'):=
 D8 hn fun _ _=>Ij hn fun _=>hK _
theorem Ago (hn:Rel none none){P:Program}{t:TypeId}{x:PV}{K:Nat->Option R}{K':Nat->Option R'}(hK:∀p,Rel (K p) (K' p)):Rel (Ad8 P t x K) (Ad8 P t x K'):=by
 unfold Ad8;split
 ·exact Gp hn fun _=>hK _
 ·exact hK _
 ·split
  ·exact A9 hn fun _=>hK _
  ·exact Gg hn fun _ _ _=>hK _
 ·exact hn
def ST (Rel:Option R->Option R'->Prop)(f f':Nat->Option (List PV)) (l:List Nat):Prop:=∀i∈l,f i=f' i∨(f i=none∧∀b,Rel none b)
variable {f f':Nat->Option (List PV)}
theorem ST.sub {l l':List Nat}(h:ST Rel f f' l)(hs:∀i∈l',i∈l):ST Rel f f' l':=fun i hi=>h i (hs i hi)
theorem Zl (hn:Rel none none){l:List Nat}{id:Nat}(hf:ST Rel f f' l)(hi:id∈l){K:List PV->Option R}{K':List PV->Option R'}(hK:∀c,f id=some c->Rel (K c) (K' c)):Rel (Ep (f id) K) (Ep (f' id) K'):=by
 rcases hf id hi with h|⟨h,hb⟩
 ·rw [←h];exact Du hn hK
 ·rw [h];exact hb _
theorem AV (hn:Rel none none){es:Nat}{p:PV}{K:Nat->List PV->Option R}{K':Nat->List PV->Option R'}(hf:ST Rel f f' (At p)) (hK:∀n c,Rel (K n c) (K' n c)):Rel (XW f es p K) (XW f' es p K'):=by
 unfold XW;split
 ·rename_i id es' off n;cases Nat.beq es' es
  ·exact hn
  ·exact Zl hn hf (by simp [At]) fun _ _=>A9 hn fun _=>hK _ _
 ·exact Gg hn fun _ _ _=>hK _ _
theorem Aft (hn:Rel none none){t:CT}{p:PV}{K:PV->List Nat->Option R}{K':PV->List Nat->Option R'}(hf:ST Rel f f' (At p)) (hK:∀c m,(∀i∈m,f i≠none)->Rel (K c m) (K' c m)):Rel (Po f t p K) (Po f' t p K'):=by
 unfold Po;split
 ·split
  ·rename_i id es' off n;cases Nat.beq es' _
   ·exact hn
   ·exact Zl hn hf (by simp [At]) fun c hc=>A9 hn fun _=>hK _ _ (by simp [hc])
  ·exact Gg hn fun _ _ _=>hK _ _ (by simp)
 ·exact Qa hn fun _=>hK _ _ (by simp)
theorem Wa (hn:Rel none none):∀{ts:List CT}{ps:List PV}{K:List PV->List Nat->Option R}{K':List PV->List Nat->Option R'},ST Rel f f' (ps.flatMap At)->(∀c m,(∀i∈m,f i≠none)->Rel (K c m) (K' c m))->Rel (O4 f ts ps K) (O4 f' ts ps K')
 |[],[],_,_,_,hK=>hK _ _ (by simp)
 |[],_::_,_,_,_,_=>hn
 |_::_,[],_,_,_,_=>hn
 |_::_,p::ps,_,_,hf,hK=>Aft hn (fun i hi=>hf i (by simp only [List.flatMap_cons,List.mem_append];exact .inl hi)) fun _ m hm=>Wa hn (fun i hi=>hf i (by simp only [List.flatMap_cons,List.mem_append];exact .inr hi)) fun _ ms hms=>hK _ _ fun i hi=>by
   rcases List.mem_append.1 hi with h|h
   ·exact hm i h
   ·exact hms i h
theorem Aiw (hn:Rel none none){P:Program}{t:TypeId}{p:PV}{K:PV->List Nat->Option R}{K':PV->List Nat->Option R'}(hf:ST Rel f f' (Cb p)) (hK:∀c m,(∀i∈m,f i≠none)->Rel (K c m) (K' c m)):Rel (XU P f t p K) (XU P f' t p K'):=by
 unfold XU
 have h1:∀i,i∈[p].flatMap At->i∈Cb p:=by
  intro i hi;simp only [List.flatMap_cons,List.flatMap_nil,List.append_nil] at hi;cases p<;>first|exact hi|simp [At] at hi
 cases Cr P t
 ·exact Wa hn (fun i hi=>hf i (h1 i hi)) fun _ _ hm=>Bi hn fun _ _ _=>Fk hn (hK _ _ hm)
 ·refine Jn hn fun c hc=>?_
  subst hc;exact Wa hn (fun i hi=>hf i hi) fun _ _ hm=>hK _ _ hm
theorem NE (hn:Rel none none){P:Program}:∀{ts:List TypeId}{ps:List PV}{K:List PV->List Nat->Option R}{K':List PV->List Nat->Option R'},ST Rel f f' (ps.flatMap Cb)->(∀c m,(∀i∈m,f i≠none)->Rel (K c m) (K' c m))->Rel (KD P f ts ps K) (KD P f' ts ps K')
 |[],[],_,_,_,hK=>hK _ _ (by simp)
 |[],_::_,_,_,_,_=>hn
 |_::_,[],_,_,_,_=>hn
 |_::_,p::ps,_,_,hf,hK=>Aiw hn (fun i hi=>hf i (by simp only [List.flatMap_cons,List.mem_append];exact .inl hi)) fun _ m hm=>NE hn (fun i hi=>hf i (by simp only [List.flatMap_cons,List.mem_append];exact .inr hi)) fun _ ms hms=>hK _ _ fun i hi=>by
   rcases List.mem_append.1 hi with h|h
   ·exact hm i h
   ·exact hms i h
theorem ZN (hn:Rel none none){P:Program}{t:TypeId}{x:PV}{lo hi:Option PV}{K:PV->Option R}{K':PV->Option R'}(hf:(∃n e,P.underlying t=some (.array n e))->ST Rel f f' (At x)) (hK:∀c,Rel (K c) (K' c)):Rel (EC P f t x lo hi K) (EC P f' t x lo hi K'):=by
 unfold EC;split
 ·exact Gp hn fun _=>Hw hn fun _=>Hw hn fun _=>A9 hn fun _=>hK _
 ·refine A9 hn fun _=>?_
  split
  ·exact A9 hn fun _=>Hw hn fun _=>Hw hn fun _=>A9 hn fun _=>hK _
  ·exact Gg hn fun _ _ _=>Hw hn fun _=>Hw hn fun _=>A9 hn fun _=>hK _
 ·rename_i n e hu;refine A9 hn fun _=>?_
  split
  ·rename_i id off;exact Zl hn (hf ⟨_,_,hu⟩) (by simp [At]) fun _ _=>A9 hn fun _=>Hw hn fun _=>Hw hn fun _=>A9 hn fun _=>hK _
  ·exact hn
 ·exact hn
theorem OS {g g':Nat->Option (List PV)} (hn:Rel none none){P:Program}{t:TypeId}{x:PV}{K:PV->Option R}{K':PV->Option R'}(hf:∀i∈At x,(f i=f' i∧g i=g' i)∨(f i=none∧g i=none∧∀b,Rel none b)) (hK:∀c,Rel (K c) (K' c)):Rel (BF P f g t x K) (BF P f' g' t x K'):=by
 unfold BF;split
 ·rename_i id off;refine A9 hn fun _=>?_
  rcases hf id (by simp [At]) with ⟨h1,h2⟩|⟨h1,h2,h3⟩
  ·rw [←h1,←h2];split
   ·exact R0 hn fun _=>AC hn fun _=>hK _
   ·exact Du hn fun _ _=>Ow hn fun _=>AC hn hK
  ·rw [h1,h2];exact h3 _
 ·exact A9 hn fun _=>R0 hn fun _=>AC hn fun _=>hK _
 ·exact hn
theorem Aea (hn:Rel none none){P:Program}{d:Nat}{src dst:TypeId}{x:PV}{K:PV->List (Nat × Bk)->Option R} {K':PV->List (Nat × Bk)->Option R'} (hf:P.underlying dst=some .string->ST Rel f f' (At x)) (hK:∀v b,(∀q∈b,q.1=d)->Rel (K v b) (K' v b)):Rel (ID P f d src dst x K) (ID P f' d src dst x K'):=by
 unfold ID;split
 ·exact A9 hn fun _=>D8 hn fun _ _=>hK _ _ (by simp)
 ·rename_i hds;split
  ·exact Gp hn fun _=>hK _ _ (by simp)
  ·split
   ·exact AV hn (hf hds) fun _ _=>A9 hn fun _=>Du hn fun _ _=>hK _ _ (by simp)
   ·exact hn
  ·exact hn
 ·split
  ·exact Gp hn fun _=>A9 hn fun _=>hK _ _ (by simp)
  ·exact hn
 ·exact hn
theorem Aio (hn:Rel none none){shr:Bool}{id:Nat}{t:CT}{p:PV}{K:PV->List (Nat × Bk)->Option R} {K':PV->List (Nat × Bk)->Option R'} (hK:∀c b,(∀q∈b,q.1=id)->Rel (K c b) (K' c b)):Rel (Aiy shr id t p K) (Aiy shr id t p K'):=by
 unfold Aiy;split
 ·cases shr
  ·exact Aa8 hn fun _ _=>hK _ _ (by simp)
  ·exact Gg hn fun _ _ _=>hK _ _ (by simp)
 ·exact Qa hn fun _=>hK _ _ (by simp)
theorem V4 (hn:Rel none none){shr:Bool}{N:Nat}:∀{ts:List CT}{id:Nat}{ps:List PV}{K:List PV->List (Nat × Bk)->Option R} {K':List PV->List (Nat × Bk)->Option R'},(∀c b,(∀q∈b,∃j,q.1=id+N*j)->Rel (K c b) (K' c b))->Rel (Rc shr N id ts ps K) (Rc shr N id ts ps K')
 |[],_,_,_,_,hK=>Fk hn (hK _ _ (by simp))
 |_::_,id,_,_,_,hK=>Bi hn fun _ _ _=>Aio hn fun _ b hb=>V4 hn fun _ bs hbs=>hK _ _ fun q hq=>by
   rcases List.mem_append.1 hq with h|h
   ·exact ⟨0,by rw [hb q h];simp⟩
   ·obtain ⟨j,hj⟩:=hbs q h;exact ⟨j+1,by rw [hj,Nat.mul_add];omega⟩
theorem Agl (hn:Rel none none){P:Program}{shr:Bool}{N id:Nat}{t:TypeId}{p:PV}{K:PV->List (Nat × Bk)->Option R} {K':PV->List (Nat × Bk)->Option R'} (hK:∀c b,(∀q∈b,∃j,q.1=id+N*j)->Rel (K c b) (K' c b)):Rel (Adi P shr N id t p K) (Adi P shr N id t p K'):=by
 unfold Adi;split
 ·refine Aes hn fun ps=>V4 hn fun _ _ hb=>hK _ _ fun q hq=>?_
  rcases List.mem_cons.1 hq with rfl|hq
  ·exact ⟨0,by simp⟩
  ·obtain ⟨j,hj⟩:=hb q hq;exact ⟨j+1,by rw [hj,Nat.mul_add];omega⟩
 cases Cr P t
 ·exact V4 hn fun _ _ hb=>Bi hn fun _ _ _=>Fk hn (hK _ _ hb)
 ·exact Jn hn fun _ _=>V4 hn fun _ _ hb=>hK _ _ hb
theorem DP (hn:Rel none none){P:Program}{shr:Bool}{N:Nat}:∀{ts:List TypeId}{id:Nat}{ps:List PV}{K:List PV->List (Nat × Bk)->Option R} {K':List PV->List (Nat × Bk)->Option R'},(∀c b,(∀q∈b,∃j,q.1=id+N*j)->Rel (K c b) (K' c b))->Rel (EN P shr N id ts ps K) (EN P shr N id ts ps K')
 |[],_,_,_,_,hK=>Fk hn (hK _ _ (by simp))
 |t::_,id,_,_,_,hK=>Bi hn fun _ _ _=>Agl hn fun _ b hb=>DP hn fun _ bs hbs=>hK _ _ fun q hq=>by
   rcases List.mem_append.1 hq with h|h
   ·exact hb q h
   ·obtain ⟨j,hj⟩:=hbs q h;exact ⟨WB P t+j,by rw [hj,Nat.mul_add];omega⟩
end
theorem Ue {p:PV}{i:Nat}(h:i∈At p):i∈Cb p:=by cases p<;>first|exact h|simp [At] at h
theorem F5 {p:PV}{i:Nat}(h:i∈Cb p):i∈Bq p:=by cases p<;>first|exact h|simp [Cb,At] at h
theorem Kt {p:PV}{i:Nat}(h:i∈At p):i∈Bq p:=F5 (Ue h)
section
variable {R R':Type} {Rel:Option R->Option R'->Prop} {P:Program} {N:Nat} {tm tm':Nat->PV} {f f' g g':Nat->Option (List PV)} {o:Oper}
theorem HU (hn:Rel none none){t:TypeId}{x:Operand}{K:PV->Option R}{K':PV->Option R'}(hx:Ch tm x=Ch tm' x)(hK:∀p,Rel (K p) (K' p)):Rel (DF P t tm x K) (DF P t tm' x K'):=by
 unfold DF;split
 ·exact Ajv hn (fun _ _=>hK _) (fun _=>hK _)
 ·rw [hx];exact hK _
theorem Ag7 (hn:Rel none none){t:CT}{p:PV}{K:PV->Option R}{K':PV->Option R'}(hK:∀p,At p=[]->Rel (K p) (K' p)):Rel (CK t p K) (CK t p K'):=by
 unfold CK;split
 ·exact Ij hn fun _=>hK _ rfl
 ·exact G7 hn fun _=>hK _ rfl
 ·exact Gp hn fun _=>hK _ rfl
 ·exact Gg hn fun _ _ _=>hK _ rfl
 ·exact Aav hn fun _=>hK _ rfl
theorem NA (hn:Rel none none):∀{ts:List CT}{cells:List PV}{off:Nat}{K:List PV->Option R}{K':List PV->Option R'},(∀c,(∀p∈c,At p=[])->Rel (K c) (K' c))->Rel (Vf ts cells off K) (Vf ts cells off K')
 |[],_,_,_,_,hK=>hK _ (by simp)
 |_::_,_,_,_,_,hK=>Ag7 hn fun c hc=>NA hn fun cs hcs=>hK _ (by
   intro p hp;rcases List.mem_cons.1 hp with h|h
   ·rw [h];exact hc
   ·exact hcs p h)
theorem AY (hn:Rel none none){t:TypeId}{K:List PV->Option R}{K':List PV->Option R'}(hK:∀c,(∀p∈c,At p=[])->Rel (K c) (K' c)):Rel (Hh P t K) (Hh P t K'):=
 Du hn fun _ _=>A9 hn fun _=>NA hn hK
theorem Vb {p c:PV}(h:c∈cellsOf p){i:Nat}(hi:i∈At c):i∈Cb p:=by
 unfold cellsOf at h;split at h
 ·exact List.mem_flatMap.2 ⟨c,h,hi⟩
 ·simp at h;subst h;exact Ue hi
theorem ZT {cells new:List PV}{off:Nat}{c:PV}(h:c∈Ba cells new off):c∈cells∨c∈new:=by
 unfold Ba at h;rcases List.mem_append.1 h with h|h
 ·rcases List.mem_append.1 h with h|h
  ·exact .inl (List.mem_of_mem_take h)
  ·exact .inr h
 ·exact .inl (List.mem_of_mem_drop h)
theorem JP (hn:Rel none none){Hf:Nat->Option (Nat × Nat)} {S:Nat->Prop}:∀{ps:List (Nat × PV)} {cells:List PV}{K:List PV->Option R}{K':List PV->Option R'},(∀c∈cells,∀i∈At c,S i)->(∀q∈ps,∀i∈Cb q.2,S i) ->
  (∀cs,(∀c∈cs,∀i∈At c,S i)->Rel (K cs) (K' cs))->Rel (Ud Hf ps cells K) (Ud Hf ps cells K')
 |[],_,_,_,h1,_,hK=>hK _ h1
 |(_,p)::_,_,_,_,h1,h2,hK=>Du hn fun _ _=>A9 hn fun _=>JP hn (fun c hc i hi=>by
   rcases ZT hc with h|h
   ·exact h1 c h i hi
   ·exact h2 (_,p) List.mem_cons_self i (Vb h hi)) (fun q hq=>h2 q (List.mem_cons_of_mem _ hq)) hK
theorem EU (hn:Rel none none):∀{ts:List CT}{ps:List PV}{K:List PV->List Nat->Option R}{K':List PV->List Nat->Option R'},(∀t∈ts,∀es,t ≠ .sl es)->(∀c,Rel (K c []) (K' c []))->Rel (O4 g ts ps K) (O4 g' ts ps K')
 |[],[],_,_,_,hK=>hK _
 |[],_::_,_,_,_,_=>hn
 |_::_,[],_,_,_,_=>hn
 |t::ts,p::ps,K,K',ht,hK=>by
  show Rel (Po g t p _) (Po g' t p _)
  have:∀{g:Nat->Option (List PV)} {S:Type} {L:PV->List Nat->Option S},Po g t p L=CK t p fun c=>L c []:=by
   intro g S L;cases t with
   |sl es=>exact absurd rfl (ht _ (by simp) es)
   |_=>rfl
  rw [this,this];exact Qa hn fun c=>EU hn (fun t h=>ht t (by simp [h])) fun cs=>hK _
theorem Ahx (hn:Rel none none){es:Nat}{t:TypeId}{x:PV}{K:Nat->List PV->Option R}{K':Nat->List PV->Option R'}(hx:ST Rel g g' (At x)) (hK:∀m c,Rel (K m c) (K' m c)):Rel (YX P g es t x K) (YX P g' es t x K'):=by
 unfold YX;split
 ·exact A9 hn fun _=>Gp hn fun _=>hK _ _
 ·exact AV hn hx hK
 ·exact hn
theorem Aih (hn:Rel none none){t:TypeId}{x:PV}{K:Nat->Option R}{K':Nat->Option R'}(hK:∀n,Rel (K n) (K' n)):Rel (Ad7 P t x K) (Ad7 P t x K'):=by
 unfold Ad7;split
 ·exact Gg hn fun _ _ _=>A9 hn fun _=>hK _
 ·exact hn
theorem WK (hn:Rel none none){d:Nat}{t tx:TypeId}{x:PV}{K:PV->List (Nat × Bk)->Option R} {K':PV->List (Nat × Bk)->Option R'} (hx:ST Rel g g' (At x)) (hK:∀v nw,Rel (K v nw) (K' v nw)):Rel (V3 P g d t tx x K) (V3 P g' d t tx x K'):=by
 unfold V3;split
 ·exact A9 hn fun _=>Ahx hn hx fun _ _=>A9 hn fun _=>hK _ _
 ·exact hn
theorem KM (hn:Rel none none){C:Hb}{call:Ai}{K:PV->List Nat->List (Nat × Bk)->Option R} {K':PV->List Nat->List (Nat × Bk)->Option R'}
  (htm:∀x∈o.op.operands.toList,Ch tm x=Ch tm' x)
  (hfg:H4 P o.op=true->∀x∈o.op.operands.toList,∀i∈Bq (Ch tm' x),(f i=f' i∧g i=g' i)∨(f i=none∧g i=none∧∀b,Rel none b))
  (hK:∀v fz nw,(H4 P o.op=false->fz=[]∧∀q∈nw,o.dst=some q.1)->(∀i∈fz,g i≠none)->Rel (K v fz nw) (K' v fz nw)):
  Rel (JO C P N call tm f g o K) (JO C P N call tm' f' g' o K'):=by
 have h0:∀v,Rel (K v [] []) (K' v [] []):=fun v=>hK v [] [] (fun _=>⟨rfl,by simp⟩) (by simp)
 have hf:H4 P o.op=true->∀x∈o.op.operands.toList,ST Rel f f' (Bq (Ch tm' x)):=fun h x hx i hi=>(hfg h x hx i hi).imp (·.1) fun h=>⟨h.1,h.2.2⟩
 have hg:H4 P o.op=true->∀x∈o.op.operands.toList,ST Rel g g' (Bq (Ch tm' x)):=fun h x hx i hi=>(hfg h x hx i hi).imp (·.2) fun h=>⟨h.2.1,h.2.2⟩
 unfold JO;generalize hop:o.op=op at *
 split
 ·exact HU hn (htm _ (by simp [Op.operands])) h0
 ·exact HU hn (htm _ (by simp [Op.operands])) h0
 ·rename_i c x y;rw [htm c (by simp [Op.operands]),htm x (by simp [Op.operands]),htm y (by simp [Op.operands])]
  exact G7 hn fun _=>HB (h0 _) (h0 _)
 ·exact Du hn fun d hd=>U5 hn fun _=>hK _ _ _ (fun _=>⟨rfl,by simp [hd]⟩) (by simp)
 ·rename_i t x;rw [htm x (by simp [Op.operands])]
  refine Du hn fun d hd=>A9 hn fun _=>?_
  cases Vt P t
  ·exact Ow hn fun _=>hK _ _ _ (fun _=>⟨rfl,by simp [hd]⟩) (by simp)
  ·exact R0 hn fun _=>hK _ _ _ (fun _=>⟨rfl,by simp [hd]⟩) (by simp)
 ·rename_i t ps
  have:(ps.toList.map fun q=>(q.1,Ch tm q.2))=ps.toList.map fun q=>(q.1,Ch tm' q.2):=by
   apply List.map_congr_left;intro q hq;rw [htm q.2 (by simp only [Op.operands];exact List.mem_map_of_mem hq)]
  rw [this];exact A9 hn fun _=>U5 hn fun _=>DI hn fun _=>Ow hn fun _=>h0 _
 ·rename_i t n ps
  have:(ps.toList.map fun q=>(q.1,Ch tm q.2))=ps.toList.map fun q=>(q.1,Ch tm' q.2):=by
   apply List.map_congr_left;intro q hq;rw [htm q.2 (by simp only [Op.operands];exact List.mem_map_of_mem hq)]
  rw [this];refine Du hn fun d hd=>?_
  split
  ·rename_i e hu;cases hsl:Jm P [e]
   ·refine A9 hn fun _=>AY hn fun z hz=>DI hn fun cs=>EU hn ?_ fun cs'=>hK _ _ _ (fun _=>⟨rfl,by simp [hd]⟩) (by simp)
    intro c hc es he;obtain ⟨l,hl,hc⟩:=List.mem_flatten.1 hc;rw [List.eq_of_mem_replicate hl] at hc;subst he
    have:Jm P [e]=true:=by
     unfold Jm;simp only [List.any_cons,List.any_nil,Bool.or_false,Bool.or_eq_true];exact .inr (List.any_eq_true.2 ⟨_,hc,rfl⟩)
    rw [this] at hsl;cases hsl
   refine A9 hn fun _=>AY hn fun z hz=>JP (S:=fun i=>∃x∈(Op.buildSlice t n ps).operands.toList,i∈Bq (Ch tm' x)) hn ?_ ?_ fun cs hcs=>?_
   ·intro c hc i hi;obtain ⟨l,hl,hc⟩:=List.mem_flatten.1 hc;rw [List.eq_of_mem_replicate hl] at hc;rw [hz c hc] at hi;simp at hi
   ·intro q hq i hi;obtain ⟨q',hq',rfl⟩:=List.mem_map.1 hq;exact ⟨q'.2,by simp only [Op.operands];exact List.mem_map_of_mem hq',F5 hi⟩
   ·refine Wa hn (fun i hi=>?_) fun cs' m hm=>hK _ _ _ (fun h=>by simp [H4,hu,hsl] at h) hm
    obtain ⟨c,hc,hi⟩:=List.mem_flatMap.1 hi;obtain ⟨x,hx,hxi⟩:=hcs c hc i hi;exact hg (by simp [H4,hu,hsl]) x hx i hxi
  ·exact hn
 ·rename_i t x;rw [htm x (by simp [Op.operands])]
  exact OS hn (fun i hi=>hfg (by simp [H4]) x (by simp [Op.operands]) i (Kt hi)) h0
 ·rename_i x;rw [htm x (by simp [Op.operands])]
  exact BX hn h0
 ·rename_i op' t x y _;rw [htm x (by simp [Op.operands]),htm y (by simp [Op.operands])]
  exact VN hn h0
 ·rename_i op' t x;rw [htm x (by simp [Op.operands])]
  exact Ajk hn h0
 ·rename_i src dst x;rw [htm x (by simp [Op.operands])]
  exact Aea hn (fun hds i hi=>hg (by simp [H4,hds]) x (by simp [Op.operands]) i (Kt hi)) fun v b hb=>Du hn fun d hd=>hK _ _ _ (fun _=>⟨rfl,fun q hq=>by rw [hd,hb q hq,hd];rfl⟩) (by simp)
 ·rename_i t x y;rw [htm x (by simp [Op.operands]),htm y (by simp [Op.operands])]
  refine Du hn fun d hd=>?_
  split
  ·exact D8 hn fun _ _=>D8 hn fun _ _=>A9 hn fun _=>U5 hn fun _=>hK _ _ _ (fun _=>⟨rfl,by simp [hd]⟩) (by simp)
  ·exact hn
 ·rename_i t x lo hi mx;split
  ·rw [htm x (by simp [Op.operands])]
   have h1:lo.map (Ch tm)=lo.map (Ch tm'):=by
    cases lo with
    |none=>rfl
    |some y=>simp only [Option.map_some];rw [htm y (by simp [Op.operands])]
   have h2:hi.map (Ch tm)=hi.map (Ch tm'):=by
    cases hi with
    |none=>rfl
    |some y=>simp only [Option.map_some];rw [htm y (by simp [Op.operands])]
   rw [h1,h2];exact ZN hn (fun ⟨n,e,he⟩ i hi=>hf (by simp [H4,he]) x (by simp [Op.operands]) i (Kt hi)) h0
  ·exact hn
 ·rename_i t x fl;rw [htm x (by simp [Op.operands])]
  exact Du hn fun _ _=>A9 hn fun _=>BX hn h0
 ·rename_i t x fl;rw [htm x (by simp [Op.operands])]
  exact Du hn fun _ _=>A9 hn fun _=>Jn hn fun _ _=>Ow hn fun _=>AC hn h0
 ·rename_i t x i;rw [htm x (by simp [Op.operands]),htm i (by simp [Op.operands])]
  exact D8 hn fun _ _=>KK hn h0
 ·rename_i t x i;rw [htm x (by simp [Op.operands]),htm i (by simp [Op.operands])]
  refine D8 hn fun _ _=>?_
  split
  ·exact Gp hn fun _=>A9 hn fun _=>Du hn fun _ _=>h0 _
  ·exact Jn hn fun _ _=>A9 hn fun _=>Ow hn fun _=>AC hn h0
  ·exact hn
 ·rename_i x i;rw [htm x (by simp [Op.operands])]
  split
  ·exact Du hn fun _ _=>h0 _
  ·exact hn
 ·rename_i c
  have hmem:∀x∈c.args.toList,x∈(Op.call c).operands.toList:=by
   intro x hx;simp only [Op.operands,Call.operands,Array.toList_append,List.mem_append];exact .inr hx
  have rc:∀fn,H4 P (.call c)=true->Rel (KJ C P N call tm g o c fn K) (KJ C P N call tm' g' o c fn K'):=by
   intro fn hmm;unfold KJ;have:c.args.toList.map (Ch tm)=c.args.toList.map (Ch tm'):=List.map_congr_left fun x hx=>htm x (hmem x hx)
   rw [this];refine NE hn (fun i hi=>?_) fun vs m hm=>OO hn fun rv ro=>Fk hn (A9 hn fun _=>DP hn fun ws bs hbs=>A9 hn fun _=>hK _ _ _ (fun h=>by rw [hmm] at h;cases h) (fun i hi=>?_))
   ·obtain ⟨p,hp,hi⟩:=List.mem_flatMap.1 hi;obtain ⟨x,hx,rfl⟩:=List.mem_map.1 hp;exact hg hmm x (hmem x hx) i (F5 hi)
   ·have hi':i∈m:=by
     cases hq:Jm P (Ol P o.type)<;>rw [hq] at hi
     ·simp at hi
     ·exact hi
    exact hm i hi'
  split
  ·refine Bi hn fun x _ hx=>Bi hn fun _ _ _=>?_
   rw [htm x (hmem x (by rw [hx];simp))]
   exact Ago hn fun _=>h0 _
  ·refine Bi hn fun x _ hx=>Bi hn fun _ _ _=>?_
   rw [htm x (hmem x (by rw [hx];simp))]
   exact Aih hn fun _=>h0 _
  ·refine Bi hn fun x _ hx=>Bi hn fun y _ hy=>Fk hn ?_
   subst hy;rw [htm x (hmem x (by rw [hx];simp)),htm y (hmem y (by rw [hx];simp))]
   exact Afj hn h0
  ·refine Bi hn fun x _ hx=>Bi hn fun y _ hy=>Fk hn ?_
   subst hy;rw [htm x (hmem x (by rw [hx];simp)),htm y (hmem y (by rw [hx];simp))]
   exact Ai3 hn h0
  ·rename_i hc;have hmm:H4 P (.call c)=true:=by simp [H4,hc]
   refine A9 hn fun _=>Du hn fun d hd=>Bi hn fun _ _ hb=>Bi hn fun x _ hx=>Fk hn (Bi hn fun _ _ _=>Bi hn fun _ _ _=>?_)
   have hxm:x∈c.args.toList:=by rw [hb,hx];simp
   rw [htm x (hmem x hxm)];exact WK hn (fun i hi=>hg hmm x (hmem x hxm) i (Kt hi)) fun v nw=>hK _ _ _ (fun h=>by rw [hmm] at h;cases h) (by simp)
  ·rename_i fn hc;have hmm:H4 P (.call c)=true:=by simp [H4,hc]
   exact rc fn hmm
  ·rename_i t hc;have hmm:H4 P (.call c)=true:=by simp [H4,hc]
   have ht:=htm (.tmp t) (by simp [Op.operands,Call.operands,hc])
   change tm t=tm' t at ht;rw [ht];exact Aji hn fun fn=>rc fn hmm
  ·exact hn
 ·exact hn
variable {hp:Nat->Option Bk}
end
open Go.RowKit
abbrev Yj:=PV × List Nat × List (Nat × Bk)
def Gb (ops:Array Oper)(o:Oper)(tm:Nat->PV):Option Bool:=
 match o.guard with
 |none=>some true
 |some (j,want)=>
  match (ops[j]?).bind (·.dst) with
  |none=>none
  |some d=>
   match tm d with
   |.sc (.bool b)=>some (b==want)
   |.sc (.tuple _)=>some false
   |_=>none
section
variable {R:Type} {r:R} {C:Hb} {P:Program} {N:Nat} {call:Ai} {ops:Array Oper} {o x:Oper} {s:St} {K:St->Option R}
theorem GW:Dk C P N call ops o s K=match Gb ops o s.tm with
  |none=>none
  |some true=>VX C P N call o s K
  |some false=>Ap (Gu N o.dst) (K ⟨Bn s.tm o.dst (.sc undef),s.hp⟩):=by
 unfold Dk Gb;cases o.guard with
 |none=>rfl
 |some q=>
  obtain ⟨j,want⟩:=q;cases hd:(ops[j]?).bind (·.dst) with
  |none=>simp [hd]
  |some d=>
   simp only [hd];cases ht:s.tm d with
   |sc v=>
    cases v with
    |bool b=>
     cases b<;>cases want<;>simp only [Bc,cond_true,cond_false,Zu s.tm ht]<;>rfl
    |_=>rfl
   |_=>rfl
def Ads (C:Hb)(P:Program)(N:Nat)(call:Ai)(o:Oper)(s:St):Option Yj:=
 JO C P N call s.tm (rd s.hp) (J4 s.hp) o fun v fz nw=>some (v,fz,nw)
theorem Akd {K:PV->List Nat->List (Nat × Bk)->Option R}:JO C P N call s.tm (rd s.hp) (J4 s.hp) o K=(Ads C P N call o s).bind fun q=>K q.1 q.2.1 q.2.2:=by
 refine KM (Rel:=fun (a:Option R) (b:Option Yj)=>a=b.bind fun q=>K q.1 q.2.1 q.2.2) (K:=K) (K':=fun v fz nw=>some (v,fz,nw)) rfl (fun _ _=>rfl) (fun _ _ _ _ _=>.inl ⟨rfl,rfl⟩) fun v fz nw _ _=>rfl
theorem YO {q:Yj}(h:Ads C P N call o s=some q):(H4 P o.op=false->q.2.1=[]∧∀p∈q.2.2,o.dst=some p.1)∧∀i∈q.2.1,J4 s.hp i≠none:=by
 have:=KM (C:=C) (P:=P) (N:=N) (call:=call) (o:=o) (tm:=s.tm) (tm':=s.tm) (f:=rd s.hp) (f':=rd s.hp) (g:=J4 s.hp) (g':=J4 s.hp)
  (Rel:=fun (a:Option Yj)(_:Option Yj)=>∀q,a=some q->(H4 P o.op=false->q.2.1=[]∧∀p∈q.2.2,o.dst=some p.1)∧∀i∈q.2.1,J4 s.hp i≠none)
  (K:=fun v fz nw=>some (v,fz,nw)) (K':=fun v fz nw=>some (v,fz,nw)) (fun _ h=>by cases h) (fun _ _=>rfl) (fun _ _ _ _ _=>.inl ⟨rfl,rfl⟩) (fun v fz nw h1 h2 q hq=>by cases hq;exact ⟨h1,h2⟩)
 exact this q h
def gE (C:Hb)(P:Program)(N:Nat)(call:Ai)(ops:Array Oper)(o:Oper)(s:St):Option Yj:=
 match Gb ops o s.tm with
 |none=>none
 |some true=>bif Sb C P o.op then none else Ads C P N call o s
 |some false=>some (.sc undef,[],[])
def Hc (C:Hb)(P:Program)(ops:Array Oper)(o:Oper)(tm:Nat->PV):Bool:=Sb C P o.op&&(Gb ops o tm==some true)
theorem Kz (h:Hc C P ops o s.tm=false):Dk C P N call ops o s K=(gE C P N call ops o s).bind fun q=>DT N s o.dst q.1 q.2.1 q.2.2 K:=by
 rw [GW];unfold gE;unfold Hc at h;cases hv:Gb ops o s.tm with
 |none=>rfl
 |some b=>
  rw [hv] at h;cases b with
  |false=>
   show Ap _ _=DT N s o.dst (.sc undef) [] [] K;unfold DT;have h1:B3 s.hp []=true:=rfl;have h2:Az (Ah s.hp []) []=s.hp:=rfl;rw [h1,h2,Bool.and_true]
  |true=>
   have hm:Sb C P o.op=false:=by simpa using h
   simp only [VX,hm,cond_false];exact Akd
theorem Ip (h:Hc C P ops o s.tm=true):Dk C P N call ops o s K=Wt C P N call s o K:=by
 rw [GW];unfold Hc at h;simp only [Bool.and_eq_true,beq_iff_eq] at h;rw [h.2];simp only [VX,h.1,cond_true]
theorem Vs {q:Yj}(h:gE C P N call ops o s=some q):(H4 P o.op=false->q.2.1=[]∧∀p∈q.2.2,o.dst=some p.1)∧∀i∈q.2.1,J4 s.hp i≠none:=by
 unfold gE at h;split at h
 ·cases h
 ·cases hm:Sb C P o.op<;>rw [hm] at h
  ·exact YO h
  ·cases h
 ·cases h;exact ⟨fun _=>⟨rfl,by simp⟩,by simp⟩
theorem Fu {tm tm':Nat->PV}(h:∀t∈looks ops o,tm t=tm' t):∀y∈o.op.operands.toList,Ch tm y=Ch tm' y:=by
 intro y hy;cases y with
 |tmp t=>
  refine h t ?_;unfold looks Agn;refine List.mem_append.2 (.inl (List.mem_filterMap.2 ⟨.tmp t,hy,rfl⟩))
 |const v=>cases v<;>rfl
 |func f=>rfl
 |«global» g=>rfl
theorem Lh {tm tm':Nat->PV}(h:∀t∈looks ops o,tm t=tm' t):Gb ops o tm=Gb ops o tm':=by
 unfold Gb;cases hg:o.guard with
 |none=>rfl
 |some q=>
  obtain ⟨j,want⟩:=q;cases hd:(ops[j]?).bind (·.dst) with
  |none=>simp [hd]
  |some d=>
   have:tm d=tm' d:=h d (by
    unfold looks;rw [hg];refine List.mem_append.2 (.inr ?_);simp only [hd];simp)
   simp only [hd,this]
theorem Zr {s':St}{q:Yj}(ht:∀t∈looks ops o,s.tm t=s'.tm t)
  (hm:H4 P o.op=true->∀y∈o.op.operands.toList,∀i∈Bq (Ch s'.tm y),(rd s.hp i=rd s'.hp i∧J4 s.hp i=J4 s'.hp i)∨(rd s.hp i=none∧J4 s.hp i=none))
  (h:gE C P N call ops o s=some q):gE C P N call ops o s'=some q:=by
 unfold gE at h ⊢;rw [←Lh ht];split at h
 ·cases h
 ·cases hM:Sb C P o.op<;>rw [hM] at h
  ·have:=KM (C:=C) (P:=P) (N:=N) (call:=call) (o:=o) (tm:=s.tm) (tm':=s'.tm) (f:=rd s.hp) (f':=rd s'.hp) (g:=J4 s.hp) (g':=J4 s'.hp)
    (Rel:=fun (a b:Option Yj)=>a=some q->b=some q)
    (K:=fun v fz nw=>some (v,fz,nw)) (K':=fun v fz nw=>some (v,fz,nw)) (fun h=>h) (Fu ht)
    (fun hm' y hy i hi=>(hm hm' y hy i hi).imp id fun h=>⟨h.1,h.2,fun _ h=>by cases h⟩) (fun v fz nw _ _ h=>h)
   exact this h
  ·cases h
 ·exact h
end
open Go.RowKit
theorem R1:∀{nw:List (Nat × Bk)} {hp hp':Nat->Option Bk},B3 hp nw=true->(∀i b,(i,b)∈nw->hp' i=none)->B3 hp' nw=true
 |[],_,_,_,_=>rfl
 |(i,b)::nw,hp,hp',h,h'=>by
  simp only [B3,Bool.and_eq_true,Option.isNone_iff_eq_none] at h ⊢;exact ⟨⟨h' i b (by simp),h.1.2⟩,R1 h.2 fun j c hj=>h' j c (by simp [hj])⟩
section
variable {hp:Nat->Option Bk} {fz:List Nat} {nw:List (Nat × Bk)}
theorem Gj (ha:B3 hp nw=true){i:Nat}(hi:hp i≠none):Az (Ah hp fz) nw i=if i∈fz then (hp i).map Vq else hp i:=by
 obtain ⟨h1,h2⟩:=Bo ha;rw [(Ei h2).2 i (fun bx hb=>hi (h1 i bx hb)),B6]
theorem I2 (ha:B3 hp nw=true){i:Nat}{b:Bk}(hi:(i,b)∈nw):Az (Ah hp fz) nw i=some b:=
 (Ei (Bo ha).2).1 i b hi
theorem Oj (ha:B3 hp nw=true){i:Nat}(hi:hp i=none)(hn:∀b,(i,b) ∉ nw):Az (Ah hp fz) nw i=none:=by
 rw [(Ei (Bo ha).2).2 i hn,B6,hi];simp
theorem Ou (ha:B3 hp nw=true){i:Nat}(hi:hp i≠none):Az (Ah hp fz) nw i≠none:=by
 rw [Gj ha hi];cases h:hp i with
 |none=>exact absurd h hi
 |some b=>split<;>simp
theorem Ajm (b:Option Bk):(match b.map Vq with|some (.st c)=>some c|some (.ar _ c)=>some c|_=>none)=(match b with|some (.st c)=>some c|some (.ar _ c)=>some c|_=>none):=by
 cases b with
 |none=>rfl
 |some b=>cases b<;>rfl
theorem Ai5 (b:Option Bk):(match b.map Vq with|some (.ar _ c)=>some c|_=>none)=(match b with|some (.ar _ c)=>some c|_=>none):=by
 cases b with
 |none=>rfl
 |some b=>cases b<;>rfl
theorem VY (ha:B3 hp nw=true){i:Nat}(hi:hp i≠none):rd (Az (Ah hp fz) nw) i=rd hp i:=by
 unfold rd;rw [Gj ha hi];by_cases h:i∈fz
 ·rw [if_pos h];exact Ajm _
 ·rw [if_neg h]
theorem PD (ha:B3 hp nw=true){i:Nat}(hi:hp i≠none):J4 (Az (Ah hp fz) nw) i=J4 hp i:=by
 unfold J4;rw [Gj ha hi];by_cases h:i∈fz
 ·rw [if_pos h];exact Ai5 _
 ·rw [if_neg h]
theorem Aa3 {i:Nat}(hi:hp i=none):rd hp i=none:=by unfold rd;rw [hi]
theorem Mc {i:Nat}(hi:hp i=none):J4 hp i=none:=by unfold J4;rw [hi]
theorem Asv (b:Option Bk):(b.map Vq).map Vq=b.map Vq:=by
 cases b with
 |none=>rfl
 |some b=>cases b<;>rfl
theorem YF {fx fo:List Nat}{nx no:List (Nat × Bk)} (hx:B3 hp nx=true)(ho:B3 (Az (Ah hp fx) nx) no=true) (ho':B3 hp no=true)
  (hx':B3 (Az (Ah hp fo) no) nx=true) (h1:∀i∈fx,hp i≠none)(h2:∀i∈fo,hp i≠none):
  Az (Ah (Az (Ah hp fx) nx) fo) no=Az (Ah (Az (Ah hp fo) no) fx) nx:=by
 funext i
 by_cases hi:hp i=none
 ·by_cases hno:∃b,(i,b)∈no
  ·obtain ⟨b,hb⟩:=hno
   have hnx:∀b',(i,b') ∉ nx:=fun b' hb'=>by
    have:=(Bo ho).1 i b hb;rw [I2 hx hb'] at this;cases this
   rw [I2 ho hb,Gj hx' (by rw [I2 ho' hb];simp),I2 ho' hb,if_neg (fun h=>h1 i h hi)]
  ·have hno:∀b,(i,b) ∉ no:=fun b hb=>hno ⟨b,hb⟩
   by_cases hnx:∃b,(i,b)∈nx
   ·obtain ⟨b,hb⟩:=hnx;rw [I2 hx' hb,Gj ho (by rw [I2 hx hb];simp),I2 hx hb,if_neg (fun h=>h2 i h hi)]
   ·have hnx:∀b,(i,b) ∉ nx:=fun b hb=>hnx ⟨b,hb⟩
    rw [Oj ho (Oj hx hi hnx) hno,Oj hx' (Oj ho' hi hno) hnx]
 ·rw [Gj ho (Ou hx hi),Gj hx hi,Gj hx' (Ou ho' hi),Gj ho' hi];split<;>split<;>first|rfl|rw [Asv]
end
section
variable {R:Type} {r:R} {C:Hb} {P:Program} {N:Nat} {call:Ai} {ops:Array Oper} {o x:Oper} {s:St} {K:St->Option R}
structure AL (C:Hb) (P:Program) (ops:Array Oper) (x o:Oper):Prop where
 xo:∀d,x.dst=some d->d ∉ looks ops o
 ne:∀d,x.dst=some d->o.dst≠some d
 ox:∀d,o.dst=some d->d ∉ looks ops x
 mx:Sb C P x.op=true->H4 P o.op=false
 mo:Sb C P o.op=true->H4 P x.op=false
theorem So {l:List Nat}{d:Nat}(h:l.any (Nat.beq d)=false):d ∉ l:=by
 intro hm;have:l.any (Nat.beq d)=true:=List.any_eq_true.2 ⟨d,hm,Nat.beq_refl d⟩;rw [this] at h;cases h
theorem Afh (h:HF C P ops x o=false):AL C P ops x o:=by
 unfold HF at h;simp only [Bool.or_eq_false_iff,Bool.and_eq_false_iff] at h;obtain ⟨⟨⟨h1,h2⟩,h3⟩,h4⟩:=h;refine ⟨fun d hd=>?_,fun d hd he=>?_,fun d hd=>?_,fun hm=>?_,fun hm=>?_⟩
 ·simp only [hd,Bool.or_eq_false_iff] at h1;exact So h1.1
 ·simp only [hd,he,Bool.or_eq_false_iff] at h1;rw [Nat.beq_refl] at h1;cases h1.2
 ·simp only [hd] at h2;exact So h2
 ·rw [hm] at h3;rcases h3 with h|h
  ·cases h
  ·exact h
 ·rw [hm] at h4;rcases h4 with h|h
  ·cases h
  ·exact h
theorem Eu {tm:Nat->PV}{d:Option Tmp}{v:PV}{l:List Nat}(h:∀i,d=some i->i ∉ l):∀t∈l,Bn tm d v t=tm t:=by
 intro t ht;cases d with
 |none=>rfl
 |some d=>exact Ao _ _ (by rintro rfl;exact h _ rfl ht)
theorem Kw {tm:Nat->PV}{d e:Option Tmp}{u v:PV}(h:∀i,d=some i->e≠some i):Bn (Bn tm d u) e v=Bn (Bn tm e v) d u:=by
 cases d with
 |none=>rfl
 |some d=>
  cases e with
  |none=>rfl
  |some e=>exact TG _ _ _ (by rintro rfl;exact h _ rfl rfl)
def XD (C:Hb)(P:Program)(o:Oper)(s:St):Prop:=(∀y∈o.op.operands.toList,∀i∈Bq (Ch s.tm y),s.hp i≠none) ∧
 (Sb C P o.op=true->Ov o.op=false->∀y∈o.op.operands.toList,∀i∈Bq (Ch s.tm y),∀c,s.hp i=some (.st c)->∀p∈c,∀k∈At p,s.hp k≠none)
theorem Ho {tm tm':Nat->PV}(h:∀t∈looks ops o,tm t=tm' t):Hc C P ops o tm=Hc C P ops o tm':=by
 unfold Hc;rw [Lh h]
theorem Aaq (hw:XD C P o s)(xo:∀d,x.dst=some d->d ∉ looks ops o)(ne:∀d,x.dst=some d->o.dst≠some d)(ox:∀d,o.dst=some d->d ∉ looks ops x)(hx:Hc C P ops x s.tm=false)(ho:Hc C P ops o s.tm=false)
  (h:Dk C P N call ops x s (fun s1=>Dk C P N call ops o s1 K)=some r):Dk C P N call ops o s (fun s1=>Dk C P N call ops x s1 K)=some r:=by
 rw [Kz hx] at h;cases ex:gE C P N call ops x s with
 |none=>rw [ex] at h;cases h
 |some q=>
 obtain ⟨vx,fx,nx⟩:=q;rw [ex] at h;obtain ⟨hb,h1⟩:=Aq h;simp only [Bool.and_eq_true] at hb;have t1:∀t∈looks ops o,Bn s.tm x.dst vx t=s.tm t:=Eu xo;change Dk C P N call ops o ⟨Bn s.tm x.dst vx,Az (Ah s.hp fx) nx⟩ K=some r at h1;rw [Kz (by rw [Ho t1];exact ho)] at h1
 cases eo:gE C P N call ops o ⟨Bn s.tm x.dst vx,Az (Ah s.hp fx) nx⟩ with
 |none=>rw [eo] at h1;cases h1
 |some q=>
 obtain ⟨vo,fo,no⟩:=q;rw [eo] at h1;obtain ⟨hc,h2⟩:=Aq h1;change K ⟨Bn (Bn s.tm x.dst vx) o.dst vo,Az (Ah (Az (Ah s.hp fx) nx) fo) no⟩=some r at h2;simp only [Bool.and_eq_true] at hc
 have eo':gE C P N call ops o s=some (vo,fo,no):=by
  refine Zr t1 (fun _ y hy i hi=>?_) eo
  have:=hw.1 y hy i hi;exact .inl ⟨VY hb.2 this,PD hb.2 this⟩
 have ho':B3 s.hp no=true:=R1 hc.2 fun i b hi=>by
  cases hs:s.hp i with
  |none=>rfl
  |some c=>exact absurd ((Bo hc.2).1 i b hi) (Ou hb.2 (by rw [hs];simp))
 rw [Kz ho,eo']
 have hx':B3 (Az (Ah s.hp fo) no) nx=true:=R1 hb.2 fun i b hi=>by
  refine Oj ho' ((Bo hb.2).1 i b hi) fun c hc'=>?_
  have:=(Bo hc.2).1 i c hc';rw [I2 hb.2 hi] at this;cases this
 have t2:∀t∈looks ops x,s.tm t=Bn s.tm o.dst vo t:=fun t ht=>(Eu ox t ht).symm
 have ex':gE C P N call ops x ⟨Bn s.tm o.dst vo,Az (Ah s.hp fo) no⟩=some (vx,fx,nx):=by
  refine Zr t2 (fun _ y hy i hi=>?_) ex
  by_cases hs:s.hp i=none
  ·exact .inr ⟨Aa3 hs,Mc hs⟩
  ·exact .inl ⟨(VY ho' hs).symm,(PD ho' hs).symm⟩
 show Ap _ _=_;rw [hc.1,ho'];show Dk C P N call ops x ⟨Bn s.tm o.dst vo,Az (Ah s.hp fo) no⟩ K=some r;rw [Kz (by rw [←Ho t2];exact hx),ex']
 show Ap _ _=_;rw [hb.1,hx'];rw [←h2];have hfx:∀i∈fx,s.hp i≠none:=fun i hi hs=>(Vs ex).2 i hi (Mc hs)
 have hfo:∀i∈fo,s.hp i≠none:=fun i hi hs=>(Vs eo').2 i hi (Mc hs)
 show K ⟨Bn (Bn s.tm o.dst vo) x.dst vx,Az (Ah (Az (Ah s.hp fo) no) fx) nx⟩=K _;rw [Kw ne,YF hb.2 hc.2 ho' hx' hfx hfo]
end
open Go.RowKit
theorem Zv {C:Hb}{P:Program}{o:Op}(h:Sb C P o=true):H4 P o=true:=by
 unfold Sb at h;split at h
 ·rfl
 ·rename_i c;unfold H4;simp only;split at h<;>rename_i hc
  ·rw [hc]
  ·rw [hc]
  ·cases h
  ·rw [hc]
  ·cases h
 ·cases h
structure LX (N:Nat) (S:Nat->Prop) (dst:Option Nat) (hp hp1 hp' hp1':Nat->Option Bk):Prop where
 keep:∀i,hp i≠none->hp' i≠none
 off:∀i,i<N->dst≠some i->(¬S i∨hp i=none)->hp' i=hp i∧hp1' i=hp1 i
 same:∀i,hp i=hp1 i->hp' i=hp1' i
 far:∀i,¬S i->hp i≠none->hp' i=hp i
section
variable {R R':Type} {Rel:Option R->Option R'->Prop} {P:Program} {N:Nat} {tm tm':Nat->PV} {hp hp1:Nat->Option Bk} {f f':Nat->Option (List PV)} {o:Oper}
theorem PG (hn:Rel none none){t:CT}{p:PV}{K:PV->List Nat->Option R}{K':PV->List Nat->Option R'}(hf:ST Rel f f' (At p)) (hK:∀c m,(∀i∈m,f i≠none∧i∈At p)->Rel (K c m) (K' c m)):Rel (Po f t p K) (Po f' t p K'):=by
 unfold Po;split
 ·split
  ·rename_i id es' off n;cases Nat.beq es' _
   ·exact hn
   ·exact Zl hn hf (by simp [At]) fun c hc=>A9 hn fun _=>hK _ _ (by simp [hc,At])
  ·exact Gg hn fun _ _ _=>hK _ _ (by simp)
 ·exact Qa hn fun _=>hK _ _ (by simp)
theorem HY (hn:Rel none none):∀{ts:List CT}{ps:List PV}{K:List PV->List Nat->Option R}{K':List PV->List Nat->Option R'},ST Rel f f' (ps.flatMap At)->(∀c m,(∀i∈m,f i≠none∧i∈ps.flatMap At)->Rel (K c m) (K' c m))->Rel (O4 f ts ps K) (O4 f' ts ps K')
 |[],[],_,_,_,hK=>hK _ _ (by simp)
 |[],_::_,_,_,_,_=>hn
 |_::_,[],_,_,_,_=>hn
 |_::_,p::ps,_,_,hf,hK=>PG hn (fun i hi=>hf i (by simp only [List.flatMap_cons,List.mem_append];exact .inl hi)) fun _ m hm=>HY hn (fun i hi=>hf i (by simp only [List.flatMap_cons,List.mem_append];exact .inr hi)) fun _ ms hms=>hK _ _ fun i hi=>by
   simp only [List.flatMap_cons,List.mem_append];rcases List.mem_append.1 hi with h|h
   ·exact ⟨(hm i h).1,.inl (hm i h).2⟩
   ·exact ⟨(hms i h).1,.inr (hms i h).2⟩
theorem V7 {S:Nat->Prop}{dst:Option Nat}{id:Nat}{b:Bk}{h0 h1:Nat->Option Bk}(hS:S id)(hid:hp id≠none)(h:LX N S dst hp hp1 h0 h1):LX N S dst hp hp1 (Ct h0 id (some b)) (Ct h1 id (some b)):=by
 refine ⟨fun i hi=>?_,fun i hN hd hi=>?_,fun i hi=>?_,fun i hn hi=>?_⟩
 ·by_cases e:i=id
  ·subst e;rw [As];simp
  ·rw [Ao _ _ e];exact h.keep i hi
 ·have e:i≠id:=by
   rintro rfl
   rcases hi with hi|hi
   ·exact hi hS
   ·exact hid hi
  rw [Ao _ _ e,Ao _ _ e];exact h.off i hN hd hi
 ·by_cases e:i=id
  ·subst e;rw [As,As]
  ·rw [Ao _ _ e,Ao _ _ e];exact h.same i hi
 ·rw [Ao _ _ (by rintro rfl;exact hn hS)];exact h.far i hn hi
theorem RN {S:Nat->Prop}{d:Nat}{b:Bk}{h0 h1:Nat->Option Bk}(hz:hp d=none)(h:LX N S (some d) hp hp1 h0 h1):LX N S (some d) hp hp1 (Ct h0 d (some b)) (Ct h1 d (some b)):=by
 refine ⟨fun i hi=>?_,fun i hN hd hi=>?_,fun i hi=>?_,fun i hn hi=>?_⟩
 ·by_cases e:i=d
  ·subst e;rw [As];simp
  ·rw [Ao _ _ e];exact h.keep i hi
 ·have e:i≠d:=by rintro rfl;exact hd rfl
  rw [Ao _ _ e,Ao _ _ e];exact h.off i hN hd hi
 ·by_cases e:i=d
  ·subst e;rw [As,As]
  ·rw [Ao _ _ e,Ao _ _ e];exact h.same i hi
 ·rw [Ao _ _ (by rintro rfl;exact hi hz)];exact h.far i hn hi
theorem Ui (S:Nat->Prop)(dst:Option Nat):LX N S dst hp hp1 hp hp1:=⟨fun _ h=>h,fun _ _ _ _=>⟨rfl,rfl⟩,fun _ h=>h,fun _ _ _=>rfl⟩
theorem ZS {S:Nat->Prop}{dst:Option Nat}{m:List Nat}(hm:∀i∈m,hp i≠none∧S i):LX N S dst hp hp1 (Ah hp m) (Ah hp1 m):=by
 refine ⟨fun i hi=>fun h=>hi (D7.1 h),fun i hN hd hi=>?_,fun i hi=>?_,fun i hn hi=>?_⟩
 ·have e:i ∉ m:=by
   intro h;rcases hi with hi|hi
   ·exact hi (hm i h).2
   ·exact (hm i h).1 hi
  rw [B6,B6,if_neg e,if_neg e];exact ⟨rfl,rfl⟩
 ·rw [B6,B6,hi]
 ·rw [B6,if_neg (fun h=>hn (hm i h).2)]
theorem QX {S:Nat->Prop}(h:∀i,S i->hp i=hp1 i∨(hp i=none∧∀b,Rel none b)) {l:List Nat}(hl:∀i∈l,S i):ST Rel (J4 hp) (J4 hp1) l:=by
 intro i hi;rcases h i (hl i hi) with h|⟨h,h'⟩
 ·left;unfold J4;rw [h]
 ·exact .inr ⟨Mc h,h'⟩
theorem SZ (hn:Rel none none){t:TypeId}{a x:PV}{K:St->Option R}{K':St->Option R'}{S:Nat->Prop}(hS:∀i,S i->hp i=hp1 i∨(hp i=none∧∀b,Rel none b)) (ha:∀i∈At a,S i)(hx:∀i∈Cb x,S i)
  (hK:∀hp' hp1',LX N S none hp hp1 hp' hp1'->Rel (K ⟨tm,hp'⟩) (K' ⟨tm',hp1'⟩)):Rel (CC P ⟨tm,hp⟩ t a x K) (CC P ⟨tm',hp1⟩ t a x K'):=by
 unfold CC;split
 ·rename_i id off;show Rel (match hp id with|some (.st c)=>_|some (.ar false c)=>_|_=>none) (match hp1 id with|some (.st c)=>_|some (.ar false c)=>_|_=>none)
  have hid:S id:=ha id (by simp [At])
  rcases hS id hid with h|⟨h,hb⟩
  ·rw [←h];split
   ·rename_i c hc;exact A9 hn fun _=>Ow hn fun _=>hK _ _ (V7 hid (by rw [hc];simp) (Ui _ _))
   ·rename_i c hc;refine A9 hn fun _=>HY hn (QX hS fun i hi=>hx i ?_) fun _ m hm=>A9 hn fun _=>hK _ _ (V7 hid (by rw [hc];simp) (ZS fun i hi=>⟨fun h=>(hm i hi).1 (Mc h),hx i ?_⟩))
    ·obtain ⟨c,hc,hi⟩:=List.mem_flatMap.1 hi;exact Vb hc hi
    ·obtain ⟨c,hc,hi⟩:=List.mem_flatMap.1 (hm i hi).2;exact Vb hc hi
   ·exact hn
  ·rw [h];exact hb _
 ·exact hn
theorem DX (hn:Rel none none){es:Nat}{t:TypeId}{x:PV}{K:Nat->List PV->Option R}{K':Nat->List PV->Option R'}{S:Nat->Prop}(hS:∀i,S i->hp i=hp1 i∨(hp i=none∧∀b,Rel none b)) (hx:∀i∈Cb x,S i)(hK:∀m c,Rel (K m c) (K' m c)):Rel (ZX P ⟨tm,hp⟩ es t x K) (ZX P ⟨tm',hp1⟩ es t x K'):=by
 unfold ZX YX;split
 ·exact A9 hn fun _=>Gp hn fun _=>hK _ _
 ·exact AV hn (QX hS fun i hi=>hx i (Ue hi)) hK
 ·exact hn
theorem Z2 (hn:Rel none none){d:Nat}{t tx:TypeId}{b x:PV}{K:St->Option R}{K':St->Option R'}{S:Nat->Prop}(hS:∀i,S i->hp i=hp1 i∨(hp i=none∧∀b,Rel none b)) (hdd:hp d=hp1 d)(hb:∀i∈Cb b,S i)(hx:∀i∈Cb x,S i)
  (hK:∀v hp' hp1',(∀M,LX M S (some d) hp hp1 hp' hp1')->Rel (K ⟨Ct tm d v,hp'⟩) (K' ⟨Ct tm' d v,hp1'⟩)):Rel (Py P N ⟨tm,hp⟩ d t tx b x K) (Py P N ⟨tm',hp1⟩ d t tx b x K'):=by
 unfold Py;split
 ·refine A9 hn fun _=>?_
  cases AH P tx
  rotate_left
  ·show Rel (Vh P N ⟨tm,hp⟩ d _ b x K) (Vh P N ⟨tm',hp1⟩ d _ b x K');refine D8 hn fun _ n=>Gg hn fun z _ _=>?_
   show Rel (Ap (z&&Nat.blt d N&&(hp d).isNone&&_&&_&&_) _) (Ap (z&&Nat.blt d N&&(hp1 d).isNone&&_&&_&&_) _);rw [←hdd];exact A9 hn fun hb=>hK _ _ _ (fun M=>RN (by simp only [Bool.and_eq_true,Option.isNone_iff_eq_none] at hb;simp only [hb]) (Ui _ _))
  rw [cond_false,cond_false];refine DX hn hS hx fun m new=>?_
  split
  ·rename_i id es off n;show Rel (match hp id with|some (.ar false c)=>Ap (Nat.beq es _&&Nat.beq off 0&&Nat.blt d N&&(hp d).isNone&&_&&_&&_&&_) _|_=>none) (match hp1 id with|some (.ar false c)=>Ap (Nat.beq es _&&Nat.beq off 0&&Nat.blt d N&&(hp1 d).isNone&&_&&_&&_&&_) _|_=>none)
   have hid:S id:=hb id (by simp [Cb,At])
   rw [←hdd];rcases hS id hid with h|⟨h,hbb⟩
   ·rw [←h];split
    ·rename_i c hc;exact A9 hn fun hb=>hK _ _ _ (fun M=>RN (by simp only [Bool.and_eq_true,Option.isNone_iff_eq_none] at hb;simp only [hb]) (V7 hid (by rw [hc];simp) (Ui _ _)))
    ·exact hn
   ·rw [h];exact hbb _
  ·refine Gg hn fun z _ _=>?_
   show Rel (Ap (z&&Nat.blt d N&&(hp d).isNone&&_&&_&&_) _) (Ap (z&&Nat.blt d N&&(hp1 d).isNone&&_&&_&&_) _);rw [←hdd];exact A9 hn fun hb=>hK _ _ _ (fun M=>RN (by simp only [Bool.and_eq_true,Option.isNone_iff_eq_none] at hb;simp only [hb]) (Ui _ _))
 ·exact hn
theorem YL (hn:Rel none none){d:Option Tmp}{t tx:TypeId}{b x:PV}{K:St->Option R}{K':St->Option R'}{S:Nat->Prop}(hS:∀i,S i->hp i=hp1 i∨(hp i=none∧∀b,Rel none b)) (hb:∀i∈Cb b,S i)(hx:∀i∈Cb x,S i)
  (hK:∀v hp' hp1',LX N S d hp hp1 hp' hp1'->Rel (K ⟨Bn tm d v,hp'⟩) (K' ⟨Bn tm' d v,hp1'⟩)):Rel (NK P N ⟨tm,hp⟩ d t tx b x K) (NK P N ⟨tm',hp1⟩ d t tx b x K'):=by
 unfold NK;split
 ·refine A9 hn fun _=>?_
  refine DX hn hS hx fun m new=>?_
  split
  ·rename_i id es off n;show Rel (match hp id with|some (.ar false c)=>Ap (Nat.beq es _&&_&&_) _|_=>none) (match hp1 id with|some (.ar false c)=>Ap (Nat.beq es _&&_&&_) _|_=>none)
   have hid:S id:=hb id (by simp [Cb,At])
   rcases hS id hid with h|⟨h,hbb⟩
   ·rw [←h];split
    ·rename_i c hc;exact A9 hn fun _=>hK _ _ _ (V7 hid (by rw [hc];simp) (Ui _ _))
    ·exact hn
   ·rw [h];exact hbb _
  ·exact hn
 ·exact hn
def Alu (o:Oper)(tm:Nat->PV)(i:Nat):Prop:=∃x∈o.op.operands.toList,i∈Bq (Ch tm x)
def X7 (o:Oper)(tm:Nat->PV)(hp:Nat->Option Bk)(i:Nat):Prop:=Alu o tm i∨Ov o.op=false∧∃id c,Alu o tm id∧hp id=some (.st c)∧∃p∈c,i∈At p
theorem Adt (hn:Rel none none){mv:Bool}{t:CT}{p:PV}{K:PV->List Nat->List Nat->Option R}{K':PV->List Nat->List Nat->Option R'}{S:Nat->Prop}(hS:∀i,S i->hp i=hp1 i∨(hp i=none∧∀b,Rel none b)) (hp_:∀i∈At p,S i)
  (hK:∀c m x,(∀i∈m++x,hp i≠none∧S i)->Rel (K c m x) (K' c m x)):Rel (Aeb mv hp t p K) (Aeb mv hp1 t p K'):=by
 have frz:∀{t:CT} {p:PV},(∀i∈At p,S i)->Rel (Po (J4 hp) t p fun c m=>K c m []) (Po (J4 hp1) t p fun c m=>K' c m []):=fun h=>PG hn (QX hS h) fun c m hm=>hK _ _ _ fun i hi=>by
  rw [List.append_nil] at hi;exact ⟨fun e=>(hm i hi).1 (Mc e),h i (hm i hi).2⟩
 unfold Aeb;split
 ·rename_i es;cases mv<;>simp only [cond_true,cond_false]
  ·exact frz hp_
  ·split
   ·rename_i id es' off n;rcases hS id (hp_ id (by simp [At])) with h|⟨h,hb⟩
    ·rw [←h];split
     ·rename_i c hc;cases (Nat.beq es' es&&Nat.beq off 0)<;>simp only [cond_true,cond_false]
      ·exact frz hp_
      ·exact A9 hn fun _=>hK _ _ _ fun i hi=>by
        simp only [List.nil_append,List.mem_singleton] at hi;subst hi;exact ⟨by rw [hc];simp,hp_ i (by simp [At])⟩
     ·exact frz hp_
    ·rw [h]
     have:(Po (J4 hp) (.sl es) (.view id es' off n) fun c m=>K c m [])=none:=by
      unfold Po;simp only;cases Nat.beq es' es
      ·rfl
      ·simp only [cond_true,Mc h,Ep]
     show Rel (Po (J4 hp) (.sl es) (.view id es' off n) fun c m=>K c m []) _
     rw [this];exact hb _
   ·refine Gg hn fun z n c=>?_
    cases z
    ·exact hK _ _ _ (by simp)
    ·exact hK _ _ _ (by simp)
 ·exact Qa hn fun _=>hK _ _ _ (by simp)
theorem Sq (hn:Rel none none){mv:Bool}{S:Nat->Prop}(hS:∀i,S i->hp i=hp1 i∨(hp i=none∧∀b,Rel none b)):∀{ts:List CT}{ps:List PV}{K:List PV->List Nat->List Nat->Option R}{K':List PV->List Nat->List Nat->Option R'},(∀p∈ps,∀i∈At p,S i) ->
  (∀c m x,(∀i∈m++x,hp i≠none∧S i)->Rel (K c m x) (K' c m x))->Rel (ER mv hp ts ps K) (ER mv hp1 ts ps K')
 |[],[],_,_,_,hK=>hK _ _ _ (by simp)
 |[],_::_,_,_,_,_=>hn
 |_::_,[],_,_,_,_=>hn
 |_::_,p::ps,_,_,hp_,hK=>Adt hn hS (hp_ p (by simp)) fun _ m x hm=>Sq hn hS (fun q hq=>hp_ q (by simp [hq])) fun _ ms xs hms=>hK _ _ _ fun i hi=>by
   simp only [List.mem_append] at hi hm hms;rcases hi with (hi|hi)|(hi|hi)
   ·exact hm i (.inl hi)
   ·exact hms i (.inl hi)
   ·exact hm i (.inr hi)
   ·exact hms i (.inr hi)
theorem TT (hn:Rel none none){C:Hb}{f:FuncId}{i:Nat}{t:TypeId}{p:PV}{K:PV->List Nat->List Nat->List G9->Option R}{K':PV->List Nat->List Nat->List G9->Option R'}{S:Nat->Prop}(hS:∀i,S i->hp i=hp1 i∨(hp i=none∧∀b,Rel none b))
  (hp_:∀i∈Bq p,S i)(hc:∀i∈Bq p,∀c,hp1 i=some (.st c)->∀q∈c,∀k∈At q,S k)
  (hK:∀v m x l,(∀i∈m++x++l.flatMap G9.ids,hp i≠none∧S i)->Rel (K v m x l) (K' v m x l)):Rel (CZ C P f hp i t p K) (CZ C P f hp1 i t p K'):=by
 unfold CZ;split
 ·split
  ·rename_i id off;have hid:S id:=hp_ id (by simp [Bq,Cb,At])
   rcases hS id hid with h|⟨h,hb⟩
   ·rw [h];split
    ·rename_i c hc1;refine A9 hn fun _=>Sq hn hS (fun q hq k hk=>hc id (by simp [Bq,Cb,At]) c hc1 q (List.mem_of_mem_drop (List.mem_of_mem_take hq)) k hk) fun cs m x hm=>hK _ _ _ _ fun k hk=>?_
     rcases List.mem_append.1 hk with hk|hk
     ·exact hm k hk
     ·simp only [List.flatMap_cons,List.flatMap_nil,G9.ids,List.append_nil,List.mem_singleton] at hk;subst hk;exact ⟨by rw [h,hc1];simp,hid⟩
    ·exact hn
   ·rw [h];exact hb _
  ·exact hn
 ·cases C.lnd f i
  ·cases Cr P t
   ·exact Sq hn hS (fun q hq k hk=>by
     simp at hq;subst hq;exact hp_ k (Kt hk)) fun cs m x hm=>Bi hn fun _ _ _=>Fk hn (hK _ _ _ _ (by simpa using hm))
   ·refine Jn hn fun cs hcs=>Sq hn hS (fun q hq k hk=>hp_ k ?_) fun cs m x hm=>hK _ _ _ _ (by simpa using hm)
    subst hcs;exact List.mem_flatMap.2 ⟨q,hq,hk⟩
  ·refine Du hn fun e he=>?_
   unfold Afn;split
   ·rename_i id es' off n;have hid:S id:=hp_ id (by simp [Bq,Cb,At])
    rcases hS id hid with h|⟨h,hb⟩
    ·rw [h];split
     ·rename_i c hc1;refine A9 hn fun _=>hK _ _ _ _ fun k hk=>?_
      simp only [List.nil_append,List.flatMap_cons,List.flatMap_nil,G9.ids,List.append_nil,List.mem_singleton] at hk;subst hk;exact ⟨by rw [h,hc1];simp,hid⟩
     ·exact hn
    ·rw [h];exact hb _
   ·exact Gg hn fun _ _ _=>A9 hn fun _=>hK _ _ _ _ (by simp [G9.ids])
theorem KW (hn:Rel none none){C:Hb}{f:FuncId}{S:Nat->Prop}(hS:∀i,S i->hp i=hp1 i∨(hp i=none∧∀b,Rel none b)):∀{ts:List TypeId}{ps:List PV}{i:Nat}{K:List PV->List Nat->List Nat->List G9->Option R}{K':List PV->List Nat->List Nat->List G9->Option R'},
  (∀p∈ps,∀i∈Bq p,S i)->(∀p∈ps,∀i∈Bq p,∀c,hp1 i=some (.st c)->∀q∈c,∀k∈At q,S k) ->
  (∀v m x l,(∀i∈m++x++l.flatMap G9.ids,hp i≠none∧S i)->Rel (K v m x l) (K' v m x l))->Rel (OE C P f hp i ts ps K) (OE C P f hp1 i ts ps K')
 |[],[],_,_,_,_,_,hK=>hK _ _ _ _ (by simp)
 |[],_::_,_,_,_,_,_,_=>hn
 |_::_,[],_,_,_,_,_,_=>hn
 |_::_,p::ps,_,_,_,hp_,hc,hK=>TT hn hS (hp_ p (by simp)) (hc p (by simp)) fun _ m x l hm=>KW hn hS (fun q hq=>hp_ q (by simp [hq])) (fun q hq=>hc q (by simp [hq])) fun _ ms xs ls hms=>hK _ _ _ _ fun i hi=>by
   simp only [List.mem_append,List.flatMap_append] at hi hm hms;rcases hi with ((hi|hi)|(hi|hi))|(hi|hi)
   ·exact hm i (.inl (.inl hi))
   ·exact hms i (.inl (.inl hi))
   ·exact hm i (.inl (.inr hi))
   ·exact hms i (.inl (.inr hi))
   ·exact hm i (.inr hi)
   ·exact hms i (.inr hi)
theorem Agf (hn:Rel none none){t:Nat}{ct:CT}{was p:PV}{K:Nat->PV->List (Nat × Bk)->Option R} {K':Nat->PV->List (Nat × Bk)->Option R'} (hK:∀t c b,(∀q∈b,∃k,q.1=XA N k)->Rel (K t c b) (K' t c b)):Rel (Ael N t ct was p K) (Ael N t ct was p K'):=by
 unfold Ael;split
 ·split
  ·exact Aa8 hn fun _ _=>hK _ _ _ (by intro q hq;simp only [List.mem_singleton] at hq;subst hq;exact ⟨t,rfl⟩)
  ·exact Gg hn fun _ _ _=>hK _ _ _ (by simp)
 ·exact Qa hn fun _=>hK _ _ _ (by simp)
theorem PM (hn:Rel none none):∀{cts:List CT}{ws ps:List PV}{t:Nat}{K:Nat->List PV->List (Nat × Bk)->Option R} {K':Nat->List PV->List (Nat × Bk)->Option R'},(∀t c b,(∀q∈b,∃k,q.1=XA N k)->Rel (K t c b) (K' t c b))->Rel (NF N t cts ws ps K) (NF N t cts ws ps K')
 |[],[],_,_,_,_,hK=>Fk hn (hK _ _ _ (by simp))
 |[],_::_,_,_,_,_,_=>hn
 |_::_,[],_,_,_,_,_=>hn
 |_::_,_::_,_,_,_,_,hK=>Bi hn fun _ _ _=>Agf hn fun _ _ b hb=>PM hn fun _ _ bs hbs=>hK _ _ _ fun q hq=>by
   rcases List.mem_append.1 hq with h|h
   ·exact hb q h
   ·exact hbs q h
theorem Vx (hn:Rel none none){S:Nat->Prop}{dst:Option Nat}:∀{l:List G9}{ro:List (List PV)} {t:Nat}{h0 h1:Nat->Option Bk}{K:(Nat->Option Bk)->List (Nat × Bk)->Option R} {K':(Nat->Option Bk)->List (Nat × Bk)->Option R'},
  LX N S dst hp hp1 h0 h1->(∀i∈l.flatMap G9.ids,hp i≠none∧S i∧hp i=hp1 i)->(∀h0' h1' b,LX N S dst hp hp1 h0' h1'->(∀q∈b,∃k,q.1=XA N k)->Rel (K h0' b) (K' h1' b))->Rel (Ya N t l ro h0 K) (Ya N t l ro h1 K')
 |[],_,_,_,_,_,_,hT,_,hK=>Fk hn (hK _ _ _ hT (by simp))
 |.var id off cts ws::l,ro,t,h0,h1,K,K',hT,hl,hK=>by
  unfold Ya;refine Bi hn fun cs ro _=>PM hn fun t' cs' bs hbs=>?_
  have hid:=hl id (by simp [G9.ids])
  rw [←hT.same id hid.2.2];split
  ·exact Vx hn (V7 hid.2.1 hid.1 hT) (fun i hi=>hl i (by simp only [List.flatMap_cons,List.mem_append];exact .inr hi)) fun h0' h1' b hT' hb=>hK _ _ _ hT' fun q hq=>by
    rcases List.mem_append.1 hq with h|h
    ·exact hbs q h
    ·exact hb q h
  ·exact hn
 |.row id::l,ro,t,h0,h1,K,K',hT,hl,hK=>by
  unfold Ya;have hid:=hl id (by simp [G9.ids])
  exact Bi hn fun cs ro _=>Vx hn (V7 hid.2.1 hid.1 hT) (fun i hi=>hl i (by simp only [List.flatMap_cons,List.mem_append];exact .inr hi)) hK
 |.none::l,ro,t,h0,h1,K,K',hT,hl,hK=>by
  unfold Ya;exact Bi hn fun cs ro _=>Vx hn hT (fun i hi=>hl i (by simp only [List.flatMap_cons,List.mem_append];exact .inr hi)) hK
theorem WD (h:∀i,N<=i->hp i=hp1 i)(hN:0<N):∀k t,TH N hp k t=TH N hp1 k t
 |0,_=>rfl
 |k+1,t=>by
  unfold TH;rw [h (XA N t) (by unfold XA;exact Nat.le_mul_of_pos_right _ (by omega)),WD h hN k (t+1)]
theorem OH {h0 h1:Nat->Option Bk}:∀{nw:List (Nat × Bk)},(∀q∈nw,h0 q.1=h1 q.1)->B3 h0 nw=B3 h1 nw
 |[],_=>rfl
 |(i,b)::nw,h=>by
  unfold B3;rw [h (i,b) (by simp),OH (fun q hq=>h q (by simp [hq]))]
theorem IP {S:Nat->Prop}{dst:Option Nat}{h0 h1:Nat->Option Bk}(hT:LX N S dst hp hp1 h0 h1):∀{nw:List (Nat × Bk)} {g0 g1:Nat->Option Bk},LX N S dst hp hp1 g0 g1->(∀q∈nw,N<=q.1∨dst=some q.1)->(∀q∈nw,hp q.1=none)->LX N S dst hp hp1 (Az g0 nw) (Az g1 nw)
 |[],_,_,h,_,_=>h
 |(i,b)::nw,g0,g1,h,hi,hz=>by
  refine IP hT (nw:=nw) ⟨fun k hk=>?_,fun k hN hd hk=>?_,fun k hk=>?_,fun k hn hk=>?_⟩ (fun q hq=>hi q (by simp [hq])) (fun q hq=>hz q (by simp [hq]))
  ·by_cases e:k=i
   ·subst e;rw [As];simp
   ·rw [Ao _ _ e];exact h.keep k hk
  ·have e:k≠i:=by
    rintro rfl
    rcases hi (k,b) (by simp) with q|q
    ·simp only at q;omega
    ·exact hd q
   rw [Ao _ _ e,Ao _ _ e];exact h.off k hN hd hk
  ·by_cases e:k=i
   ·subst e;rw [As,As]
   ·rw [Ao _ _ e,Ao _ _ e];exact h.same k hk
  ·rw [Ao _ _ (by rintro rfl;exact hk (hz (k,b) (by simp)))];exact h.far k hn hk
theorem Amj {S:Nat->Prop}{dst:Option Nat}{m x:List Nat}(hm:∀i∈m++x,hp i≠none∧S i):LX N S dst hp hp1 (Vr (Ah hp m) x) (Vr (Ah hp1 m) x):=by
 refine ⟨fun i hi h=>?_,fun i hN hd hi=>?_,fun i hi=>?_,fun i hn hi=>?_⟩
 ·rw [Gr] at h;have h1:Ah hp m i≠none:=fun e=>hi (D7.1 e)
  split at h
  ·cases hq:Ah hp m i with
   |none=>exact h1 hq
   |some b=>rw [hq] at h;cases h
  ·exact h1 h
 ·have e:i ∉ m∧i ∉ x:=by
   refine ⟨fun h=>?_,fun h=>?_⟩<;>(rcases hi with hi|hi)
   ·exact hi (hm i (by simp [h])).2
   ·exact (hm i (by simp [h])).1 hi
   ·exact hi (hm i (by simp [h])).2
   ·exact (hm i (by simp [h])).1 hi
  rw [Gr,Gr,if_neg e.2,if_neg e.2,B6,B6,if_neg e.1,if_neg e.1];exact ⟨rfl,rfl⟩
 ·rw [Gr,Gr,B6,B6,hi]
 ·rw [Gr,B6,if_neg (fun h=>hn (hm i (by simp [h])).2),if_neg (fun h=>hn (hm i (by simp [h])).2)]
theorem UM (hn:Rel none none){C:Hb}{call:Ai}{f:FuncId}{c:Call}{K:St->Option R}{K':St->Option R'}{S:Nat->Prop}(htm:c.args.toList.map (Ch tm)=c.args.toList.map (Ch tm')) (hS:∀i,S i->hp i=hp1 i∨(hp i=none∧∀b,Rel none b))
  (hp_:∀p∈c.args.toList.map (Ch tm'),∀i∈Bq p,S i) (hc:∀p∈c.args.toList.map (Ch tm'),∀i∈Bq p,∀c,hp1 i=some (.st c)->∀q∈c,∀k∈At q,S k)
  (hdd:∀d,o.dst=some d->hp d=hp1 d)(hNN:∀i,N<=i->hp i=hp1 i)
  (hK:∀v hp' hp1',LX N S o.dst hp hp1 hp' hp1'->Rel (K ⟨Bn tm o.dst v,hp'⟩) (K' ⟨Bn tm' o.dst v,hp1'⟩)):Rel (CF C P N call ⟨tm,hp⟩ o f c K) (CF C P N call ⟨tm',hp1⟩ o f c K'):=by
 unfold CF;simp only [htm];refine KW hn hS hp_ hc fun vs m x l hm=>A9 hn fun hb=>OO hn fun rv ro=>DP hn fun ws bs hbs=>A9 hn fun _=>?_
 simp only [Bool.and_eq_true] at hb;have hN:0<N:=Nat.lt_of_succ_le (Nat.le_of_ble_eq_true hb.1.2);rw [WD hNN hN];by_cases hbad:∃i∈l.flatMap G9.ids,hp i≠hp1 i
 ·obtain ⟨i,hi,hne⟩:=hbad;obtain ⟨h1,h2⟩:=hm i (List.mem_append.2 (.inr hi));rcases hS i h2 with h|⟨h,_⟩
  ·exact absurd h hne
  ·exact absurd h h1
 have hl:∀i∈l.flatMap G9.ids,hp i≠none∧S i∧hp i=hp1 i:=fun i hi=>⟨(hm i (List.mem_append.2 (.inr hi))).1,(hm i (List.mem_append.2 (.inr hi))).2,Classical.byContradiction fun h=>hbad ⟨i,hi,h⟩⟩
 have hT0:LX N S o.dst hp hp1 (Vr (Ah hp m) x) (Vr (Ah hp1 m) x):=Amj fun i hi=>hm i (List.mem_append.2 (.inl hi))
 refine Vx hn hT0 hl fun h0 h1 bs' hT hbs'=>?_
 have hids:∀q∈bs++bs',N<=q.1∨o.dst=some q.1:=by
  intro q hq;rcases List.mem_append.1 hq with hq|hq
  ·obtain ⟨j,hj⟩:=hbs q hq;cases hd:o.dst with
   |none=>
    rw [hd] at hj;left;rw [hj];exact Nat.le_add_right _ _
   |some d=>
    rw [hd] at hj;change q.1=d+N*j at hj;cases j with
    |zero=>right;rw [hj];simp
    |succ j=>left;rw [hj,Nat.mul_add];omega
  ·obtain ⟨k,hk⟩:=hbs' q hq;left;rw [hk];unfold XA;exact Nat.le_mul_of_pos_right _ (by omega)
 have hsame:∀q∈bs++bs',h0 q.1=h1 q.1:=by
  intro q hq;refine hT.same q.1 ?_;rcases hids q hq with h|h
  ·exact hNN _ h
  ·exact hdd _ h
 rw [OH hsame]
 exact A9 hn fun hb=>hK _ _ _ (IP hT hT hids fun q hq=>by
  cases hz:hp q.1 with
  |none=>rfl
  |some c=>exact absurd ((hsame q hq).trans ((Bo hb).1 q.1 q.2 hq)) (hT.keep q.1 (by rw [hz];simp)))
theorem Kn (hn:Rel none none){C:Hb}{call:Ai}{K:St->Option R}{K':St->Option R'}(htm:∀x∈o.op.operands.toList,Ch tm x=Ch tm' x)
  (hS:∀i,X7 o tm' hp1 i->hp i=hp1 i∨(hp i=none∧∀b,Rel none b)) (hdd:∀d,o.dst=some d->hp d=hp1 d)(hNN:∀i,N<=i->hp i=hp1 i)
  (hK:∀v hp' hp1',LX N (X7 o tm' hp1) o.dst hp hp1 hp' hp1'->Rel (K ⟨Bn tm o.dst v,hp'⟩) (K' ⟨Bn tm' o.dst v,hp1'⟩)):Rel (Wt C P N call ⟨tm,hp⟩ o K) (Wt C P N call ⟨tm',hp1⟩ o K'):=by
 unfold Wt;have hl:∀x∈o.op.operands.toList,∀i∈Bq (Ch tm' x),X7 o tm' hp1 i:=fun x hx i hi=>.inl ⟨x,hx,hi⟩
 have hl2:Ov o.op=false->∀x∈o.op.operands.toList,∀i∈Bq (Ch tm' x),∀c,hp1 i=some (.st c)->∀q∈c,∀k∈At q,X7 o tm' hp1 k:=fun ha x hx i hi c hc q hq k hk=>.inr ⟨ha,i,c,⟨x,hx,hi⟩,hc,q,hq,hk⟩
 generalize hLd:X7 o tm' hp1=S at *
 generalize hop:o.op=op at *
 split
 ·rename_i t x y;simp only [htm x (by simp [Op.operands]),htm y (by simp [Op.operands])]
  refine A9 hn fun hd=>SZ (N:=N) hn hS (fun i hi=>hl x (by simp [Op.operands]) i (Kt hi)) (fun i hi=>hl y (by simp [Op.operands]) i (F5 hi)) fun hp' hp1' hh=>?_
  have hd':=Option.isNone_iff_eq_none.1 hd;have:=hK .top hp' hp1' (by rw [hd'];exact hh)
  rw [hd'] at this;exact this
 ·rename_i c
  have hmem:∀x∈c.args.toList,x∈(Op.call c).operands.toList:=by
   intro x hx;simp only [Op.operands,Call.operands,Array.toList_append,List.mem_append];exact .inr hx
  split
  ·rename_i hc;refine Du hn fun d hd=>Bi hn fun x _ hx=>Bi hn fun y _ hy=>Fk hn (Bi hn fun _ _ _=>Bi hn fun _ _ _=>?_)
   subst hy;have hxm:=hmem x (by rw [hx];simp)
   have hym:=hmem y (by rw [hx];simp)
   simp only [htm x hxm,htm y hym];refine Z2 hn hS (hdd d hd) (fun i hi=>hl x hxm i (F5 hi)) (fun i hi=>hl y hym i (F5 hi)) fun v hp' hp1' hh=>?_
   have:=hK v hp' hp1' (by rw [hd];exact hh N)
   rw [hd] at this;exact this
  ·rename_i hc;refine Bi hn fun x _ hx=>Bi hn fun y _ hy=>Fk hn (Bi hn fun _ _ _=>Bi hn fun _ _ _=>?_)
   subst hy;have hxm:=hmem x (by rw [hx];simp)
   have hym:=hmem y (by rw [hx];simp)
   simp only [htm x hxm,htm y hym];exact YL hn hS (fun i hi=>hl x hxm i (F5 hi)) (fun i hi=>hl y hym i (F5 hi)) hK
  ·rename_i f hcf;refine UM hn (List.map_congr_left fun x hx=>htm x (hmem x hx)) hS (fun p hp i hi=>?_) (fun p hp i hi=>?_) hdd hNN hK
   ·obtain ⟨x,hx,rfl⟩:=List.mem_map.1 hp;exact hl x (hmem x hx) i hi
   ·obtain ⟨x,hx,rfl⟩:=List.mem_map.1 hp;exact hl2 (by simp only [Ov,hcf]) x (hmem x hx) i hi
  ·exact hn
 ·exact hn
theorem IL (hn:Rel none none){C:Hb}{call:Ai}{K:St->Option R}{K':St->Option R'}(htm:∀x∈o.op.operands.toList,Ch tm x=Ch tm' x)(hK:∀v hp',(∀i,hp i≠none->hp' i≠none)->Rel (K ⟨Bn tm o.dst v,hp'⟩) (K' ⟨Bn tm' o.dst v,hp'⟩)):Rel (Wt C P N call ⟨tm,hp⟩ o K) (Wt C P N call ⟨tm',hp⟩ o K'):=
 Kn hn htm (fun _ _=>.inl rfl) (fun _ _=>rfl) (fun _ _=>rfl) fun v hp' hp1' hT=>by
  have:hp'=hp1':=funext fun i=>hT.same i rfl
  subst this;exact hK v hp' hT.keep
end
section
variable {R:Type} {r:R} {C:Hb} {P:Program} {N:Nat} {call:Ai} {ops:Array Oper} {o x:Oper} {s:St} {K:St->Option R}
theorem SF {tm:Nat->PV}{hp hp':Nat->Option Bk}{tm':Nat->PV}{q:Yj}(hm:H4 P o.op=false)(ht:∀t∈looks ops o,tm t=tm' t)(h:gE C P N call ops o ⟨tm,hp⟩=some q):gE C P N call ops o ⟨tm',hp'⟩=some q:=
 Zr (s:=⟨tm,hp⟩) (s':=⟨tm',hp'⟩) ht (fun h=>by rw [hm] at h;cases h) h
theorem BS {tm:Nat->PV}{hp:Nat->Option Bk}(hm:H4 P o.op=false)(h:Dk C P N call ops o ⟨tm,hp⟩ K=some r):
  ∃v nw,gE C P N call ops o ⟨tm,hp⟩=some (v,[],nw)∧Gu N o.dst=true∧B3 hp nw=true∧(∀p∈nw,o.dst=some p.1)∧K ⟨Bn tm o.dst v,Az hp nw⟩=some r:=by
 have hM:Sb C P o.op=false:=by
  cases hh:Sb C P o.op
  ·rfl
  ·rw [Zv hh] at hm;cases hm
 rw [Kz (by simp [Hc,hM])] at h
 cases e:gE C P N call ops o ⟨tm,hp⟩ with
 |none=>rw [e] at h;cases h
 |some q=>
  obtain ⟨v,fz,nw⟩:=q;obtain ⟨h1,h2⟩:=(Vs e).1 hm;simp only at h1 h2;subst h1;rw [e] at h;obtain ⟨hb,h⟩:=Aq h;simp only [Bool.and_eq_true] at hb;exact ⟨v,nw,rfl,hb.1,hb.2,h2,h⟩
theorem KI {tm:Nat->PV}{hp:Nat->Option Bk}{v:PV}{nw:List (Nat × Bk)} (hm:H4 P o.op=false)(e:gE C P N call ops o ⟨tm,hp⟩=some (v,[],nw)) (hd:Gu N o.dst=true)(ha:B3 hp nw=true)(h:K ⟨Bn tm o.dst v,Az hp nw⟩=some r):Dk C P N call ops o ⟨tm,hp⟩ K=some r:=by
 have hM:Sb C P o.op=false:=by
  cases hh:Sb C P o.op
  ·rfl
  ·rw [Zv hh] at hm;cases hm
 rw [Kz (by simp [Hc,hM]),e]
 show Ap _ _=_;have ha':B3 hp nw=true:=ha;rw [hd,ha'];exact h
theorem Np {hp:Nat->Option Bk}{nw:List (Nat × Bk)} (ha:B3 hp nw=true){i:Nat}(hi:∀p∈nw,p.1≠i):Az hp nw i=hp i:=
 (Ei (Bo ha).2).2 i fun b hb=>hi _ hb rfl
theorem Agk {hp hp':Nat->Option Bk}{nw:List (Nat × Bk)} (ha:B3 hp nw=true){g:Nat->Option Bk}(h1:∀i,(∀p∈nw,p.1≠i)->g i=hp' i) (h2:∀i,(∃p∈nw,p.1=i)->g i=Az hp nw i) (ha':B3 hp' nw=true):g=Az hp' nw:=by
 funext i
 by_cases h:∃p∈nw,p.1=i
 ·rw [h2 i h];obtain ⟨⟨j,b⟩,hp,rfl⟩:=h;rw [(Ei (Bo ha).2).1 j b hp,(Ei (Bo ha').2).1 j b hp]
 ·have h':∀p∈nw,p.1≠i:=fun p hp e=>h ⟨p,hp,e⟩
  rw [h1 i h',Np ha' h']
theorem Akw (ap:AL C P ops x o)(hx:Hc C P ops x s.tm=true)
  (h:Dk C P N call ops x s (fun s1=>Dk C P N call ops o s1 K)=some r):Dk C P N call ops o s (fun s1=>Dk C P N call ops x s1 K)=some r:=by
 have hm:H4 P o.op=false:=ap.mx (by unfold Hc at hx;simp only [Bool.and_eq_true] at hx;exact hx.1)
 rw [Ip hx] at h;obtain ⟨tm,hp⟩:=s;have look:∀v,∀t∈looks ops o,Bn tm x.dst v t=tm t:=fun v=>Eu ap.xo
 have h1:=Kn (P:=P) (N:=N) (o:=x) (tm:=tm) (tm':=tm) (hp:=hp) (hp1:=hp) (K:=fun s1=>Dk C P N call ops o s1 K) (K':=fun _=>none)
  (Rel:=fun (a:Option R)(_:Option R)=>a=some r->∃v nw,gE C P N call ops o ⟨tm,hp⟩=some (v,[],nw)∧Gu N o.dst=true∧(∀p∈nw,o.dst=some p.1)∧B3 hp nw=true) (fun h=>by cases h) (fun _ _=>rfl) (fun _ _=>.inl rfl) (fun _ _=>rfl) (fun _ _=>rfl) (fun v hp' _ hT h=>by
   obtain ⟨u,nw,hu,hd,ha,hn,_⟩:=BS hm h;refine ⟨u,nw,SF hm (look v) hu,hd,hn,R1 ha fun i b hi=>?_⟩
   cases hh:hp i with
   |none=>rfl
   |some c=>exact absurd ((Bo ha).1 i b hi) (hT.keep i (by rw [hh];simp))) h
 obtain ⟨v,nw,hv,hd,hn,ha⟩:=h1;refine KI hm hv hd ha ?_;have t2:∀t∈looks ops x,tm t=Bn tm o.dst v t:=fun t ht=>(Eu ap.ox t ht).symm
 rw [Ip (by rw [←Ho t2];exact hx)]
 refine Kn (P:=P) (N:=N) (o:=x) (tm:=tm) (tm':=Bn tm o.dst v) (hp:=hp) (hp1:=Az hp nw) (Rel:=fun (a b:Option R)=>a=some r->b=some r) (fun h=>by cases h) (Fu t2) (fun i _=>?_) (fun d hxd=>?_) (fun i hi=>(Np ha fun p hp e=>by have:=Qy hd (hn p hp);omega).symm) (fun u hp' hp1' hT h=>?_) h
 ·by_cases hi:∃p∈nw,p.1=i
  ·obtain ⟨⟨j,b⟩,hp1,rfl⟩:=hi;exact .inr ⟨(Bo ha).1 j b hp1,fun _ h=>by cases h⟩
  ·exact .inl (Np ha fun p hp e=>hi ⟨p,hp,e⟩).symm
 ·refine (Np ha fun p hp e=>?_).symm
  have:=hn p hp;rw [e] at this;exact ap.ne d hxd this
 ·obtain ⟨v',nw',hv',_,ha',_,h'⟩:=BS hm h;have he:=SF (hp':=hp) hm (look u) hv';rw [hv] at he;simp only [Option.some.injEq,Prod.mk.injEq,true_and] at he;obtain ⟨rfl,rfl⟩:=he
  have hh:hp1'=Az hp' nw:=by
   refine Agk ha (fun i hi=>?_) (fun i hi=>?_) ha'
   ·exact (hT.same i (Np ha hi).symm).symm
   ·obtain ⟨⟨j,b⟩,hp1,rfl⟩:=hi;refine (hT.off j (Qy hd (hn _ hp1)) (fun e=>ap.ne j e (hn _ hp1)) (.inr ((Bo ha).1 j b hp1))).2
  rw [hh,←Kw ap.ne];exact h'
theorem Aj9 (hw:XD C P o s)(ap:AL C P ops x o)(ho:Hc C P ops o s.tm=true)
  (h:Dk C P N call ops x s (fun s1=>Dk C P N call ops o s1 K)=some r):Dk C P N call ops o s (fun s1=>Dk C P N call ops x s1 K)=some r:=by
 have hm:H4 P x.op=false:=ap.mo (by unfold Hc at ho;simp only [Bool.and_eq_true] at ho;exact ho.1)
 obtain ⟨tm,hp⟩:=s;obtain ⟨v,nw,hv,hd,ha,hn,h1⟩:=BS hm h;have t1:∀t∈looks ops o,Bn tm x.dst v t=tm t:=Eu ap.xo;change Dk C P N call ops o ⟨Bn tm x.dst v,Az hp nw⟩ K=some r at h1;rw [Ip (by rw [Ho t1];exact ho)] at h1
 rw [Ip ho];have hMo:Sb C P o.op=true:=by unfold Hc at ho;simp only [Bool.and_eq_true] at ho;exact ho.1
 have hlead:∀i,X7 o tm hp i->hp i≠none:=by
  rintro i (⟨y,hy,hi⟩|⟨hap,id,c,⟨y,hy,hi⟩,hc,p,hp1,hk⟩)
  ·exact hw.1 y hy i hi
  ·exact hw.2 hMo hap y hy id hi c hc p hp1 i hk
 refine Kn (P:=P) (N:=N) (o:=o) (tm:=Bn tm x.dst v) (tm':=tm) (hp:=Az hp nw) (hp1:=hp) (Rel:=fun (a b:Option R)=>a=some r->b=some r) (fun h=>by cases h) (Fu t1) (fun i hi=>?_) (fun d hod=>?_) (fun i hi=>Np ha fun p hp e=>by have:=Qy hd (hn p hp);omega) (fun u hp' hp1' hT h=>?_) h1
 ·refine .inl (Np ha fun p hp' e=>hlead i hi ?_)
  rw [←e];exact (Bo ha).1 p.1 p.2 hp'
 ·refine Np ha fun p hp' e=>?_
  have:=hn p hp';rw [e] at this;exact ap.ne d this hod
 ·have hoff:∀p∈nw,hp' p.1=Az hp nw p.1∧hp1' p.1=none:=by
   intro p hp2;have hno:=(Bo ha).1 p.1 p.2 hp2;have h3:=hT.off p.1 (Qy hd (hn p hp2)) (fun e=>ap.ne p.1 (hn p hp2) e) (.inl fun hL=>hlead _ hL hno)
   exact ⟨h3.1,h3.2.trans hno⟩
  have ha':B3 hp1' nw=true:=R1 ha fun i b hi=>(hoff (i,b) hi).2
  refine KI hm (SF hm (fun t ht=>(Eu ap.ox t ht).symm) hv) hd ha' ?_
  have hh:hp'=Az hp1' nw:=by
   refine Agk ha (fun i hi=>?_) (fun i hi=>?_) ha'
   ·exact hT.same i (Np ha hi)
   ·obtain ⟨p,hp2,rfl⟩:=hi;exact (hoff p hp2).1
  rw [←Kw ap.ne,←hh];exact h
theorem As1 (hw:XD C P o s)(ap:AL C P ops x o)
  (h:Dk C P N call ops x s (fun s1=>Dk C P N call ops o s1 K)=some r):Dk C P N call ops o s (fun s1=>Dk C P N call ops x s1 K)=some r:=by
 cases hx:Hc C P ops x s.tm
 ·cases ho:Hc C P ops o s.tm
  ·exact Aaq hw ap.xo ap.ne ap.ox hx ho h
  ·exact Aj9 hw ap ho h
 ·exact Akw ap hx h
theorem Ko (h:Va P o.op=true):Sb C P o.op=false:=by
 unfold Va at h;split at h
 ·rename_i ho;rw [ho];rfl
 ·rename_i ho;rw [ho];rfl
 ·cases h
def MH (P:Program)(ops:Array Oper)(o:Oper)(tm:Nat->PV):Prop:=Va P o.op=true∨Gb ops o tm=some false
theorem Yk {tm tm':Nat->PV}(h:∀t∈looks ops o,tm t=tm' t)(hl:MH P ops o tm):MH P ops o tm':=by
 rcases hl with hl|hl
 ·exact .inl hl
 ·exact .inr (by rw [←Lh h];exact hl)
theorem OI {tm:Nat->PV}(hl:MH P ops o tm):Hc C P ops o tm=false:=by
 rcases hl with hl|hl
 ·simp [Hc,Ko hl]
 ·simp [Hc,hl]
theorem Aa4 {q:Yj}(hl:MH P ops o s.tm)(h:gE C P N call ops o s=some q):q.2.1=[]∧q.2.2=[]:=by
 unfold gE at h;split at h
 ·cases h
 ·rename_i hv
  have hl:Va P o.op=true:=by
   rcases hl with hl|hl
   ·exact hl
   ·rw [hv] at hl;cases hl
  rw [Ko hl] at h;have h:Ads C P N call o s=some q:=h;unfold Va at hl;split at hl
  ·rename_i t a ho;unfold Ads JO at h;rw [ho] at h
   have:=OS (P:=P) (f:=rd s.hp) (f':=rd s.hp) (g:=J4 s.hp) (g':=J4 s.hp) (t:=t) (x:=Ch s.tm a) (Rel:=fun (a b:Option Yj)=>∀q,a=some q->q.2.1=[]∧q.2.2=[])
    (K:=fun v=>some (v,[],[])) (K':=fun v=>some (v,[],[])) (fun _ h=>by cases h) (fun _ _=>.inl ⟨rfl,rfl⟩) (fun v q hq=>by cases hq;exact ⟨rfl,rfl⟩)
   exact this q h
  ·rename_i src dst y ho;unfold Ads JO at h;rw [ho] at h;simp only at h;unfold ID at h;split at hl
   ·rename_i hd;rw [hd] at h;simp only at h;split at h
    ·obtain ⟨_,_,h⟩:=F0 h;obtain ⟨_,_,h⟩:=C8 h;cases h;exact ⟨rfl,rfl⟩
    ·split at h
     ·exact AV (f:=J4 s.hp) (f':=J4 s.hp) (K':=fun _ _=>(none:Option Yj)) (Rel:=fun (a _:Option Yj)=>a=some q->q.2.1=[]∧q.2.2=[]) (fun h=>by cases h) (fun _ _=>.inl rfl) (fun n c h=>by
       obtain ⟨_,h⟩:=Aq h;obtain ⟨_,_,h⟩:=C8 h;obtain ⟨_,_,h⟩:=C8 h;cases h;exact ⟨rfl,rfl⟩) h
     ·cases h
    ·cases h
   ·cases hl
  ·cases hl
 ·cases h;exact ⟨rfl,rfl⟩
theorem Ac9 {tm tm':Nat->PV}{hp:Nat->Option Bk}(h:∀t∈looks ops o,tm t=tm' t){i:Nat}(hi:X7 o tm hp i):X7 o tm' hp i:=by
 have he:=Fu (ops:=ops) (o:=o) h;rcases hi with ⟨y,hy,hi⟩|⟨hap,id,c,⟨y,hy,hi⟩,hc,q⟩
 ·exact .inl ⟨y,hy,by rw [←he y hy];exact hi⟩
 ·exact .inr ⟨hap,id,c,⟨y,hy,by rw [←he y hy];exact hi⟩,hc,q⟩
theorem Al6 {hp hp':Nat->Option Bk}{i:Nat}(h:hp' i=hp i):rd hp' i=rd hp i∧J4 hp' i=J4 hp i:=by
 unfold rd J4;rw [h];exact ⟨rfl,rfl⟩
theorem CM {tm:Nat->PV}{hp:Nat->Option Bk}(hl:MH P ops o tm)(h:Dk C P N call ops o ⟨tm,hp⟩ K=some r):
  ∃v,gE C P N call ops o ⟨tm,hp⟩=some (v,[],[])∧Gu N o.dst=true∧K ⟨Bn tm o.dst v,hp⟩=some r:=by
 rw [Kz (OI hl)] at h;cases e:gE C P N call ops o ⟨tm,hp⟩ with
 |none=>rw [e] at h;cases h
 |some q=>
  obtain ⟨v,fz,nw⟩:=q;obtain ⟨h1,h2⟩:=Aa4 hl e;simp only at h1 h2;subst h1;subst h2;rw [e] at h;obtain ⟨hb,h⟩:=Aq h;simp only [Bool.and_eq_true] at hb;exact ⟨v,rfl,hb.1,h⟩
theorem HQ {tm:Nat->PV}{hp:Nat->Option Bk}{v:PV}(hl:MH P ops o tm)(e:gE C P N call ops o ⟨tm,hp⟩=some (v,[],[])) (hd:Gu N o.dst=true)(h:K ⟨Bn tm o.dst v,hp⟩=some r):Dk C P N call ops o ⟨tm,hp⟩ K=some r:=by
 rw [Kz (OI hl),e];show Ap _ _=_;have ha:B3 hp []=true:=rfl;simp only [hd,ha,Bool.and_self];exact h
theorem Ajq (hw:XD C P o s)(xo:∀d,x.dst=some d->d ∉ looks ops o)(ne:∀d,x.dst=some d->o.dst≠some d)(ox:∀d,o.dst=some d->d ∉ looks ops x)(hl:MH P ops o s.tm)
  (hfar:∀y∈o.op.operands.toList,∀i∈Bq (Ch s.tm y),¬X7 x s.tm s.hp i) (hx:Hc C P ops x s.tm=true)
  (h:Dk C P N call ops x s (fun s1=>Dk C P N call ops o s1 K)=some r):Dk C P N call ops o s (fun s1=>Dk C P N call ops x s1 K)=some r:=by
 rw [Ip hx] at h;obtain ⟨tm,hp⟩:=s;have look:∀v,∀t∈looks ops o,Bn tm x.dst v t=tm t:=fun v=>Eu xo
 have back:∀{u:PV} {hp':Nat->Option Bk} {q:Yj},(∀y∈o.op.operands.toList,∀i∈Bq (Ch tm y),hp' i=hp i)->gE C P N call ops o ⟨Bn tm x.dst u,hp'⟩=some q->gE C P N call ops o ⟨tm,hp⟩=some q:=
  fun hh e=>Zr (s:=⟨Bn tm x.dst _,_⟩) (s':=⟨tm,hp⟩) (look _) (fun _ y hy i hi=>.inl (Al6 (hh y hy i hi))) e
 have h1:=Kn (P:=P) (N:=N) (o:=x) (tm:=tm) (tm':=tm) (hp:=hp) (hp1:=hp) (K:=fun s1=>Dk C P N call ops o s1 K) (K':=fun _=>none)
  (Rel:=fun (a:Option R)(_:Option R)=>a=some r->∃v,gE C P N call ops o ⟨tm,hp⟩=some (v,[],[])∧Gu N o.dst=true) (fun h=>by cases h) (fun _ _=>rfl) (fun _ _=>.inl rfl) (fun _ _=>rfl) (fun _ _=>rfl) (fun v hp' _ hT h=>by
   obtain ⟨u,hu,hd,_⟩:=CM (Yk (fun t ht=>(look v t ht).symm) hl) h
   exact ⟨u,back (fun y hy i hi=>hT.far i (hfar y hy i hi) (hw.1 y hy i hi)) hu,hd⟩) h
 obtain ⟨v,hv,hd⟩:=h1;refine HQ hl hv hd ?_;have t2:∀t∈looks ops x,tm t=Bn tm o.dst v t:=fun t ht=>(Eu ox t ht).symm
 rw [Ip (by rw [←Ho t2];exact hx)]
 refine Kn (P:=P) (N:=N) (o:=x) (tm:=tm) (tm':=Bn tm o.dst v) (hp:=hp) (hp1:=hp) (Rel:=fun (a b:Option R)=>a=some r->b=some r) (fun h=>by cases h) (Fu t2) (fun _ _=>.inl rfl) (fun _ _=>rfl) (fun _ _=>rfl) (fun u hp' hp1' hT h=>?_) h
 have e1:hp'=hp1':=funext fun i=>hT.same i rfl
 subst e1;obtain ⟨v',hv',_,h'⟩:=CM (Yk (fun t ht=>(look u t ht).symm) hl) h
 have he:=back (fun y hy i hi=>hT.far i (fun hR=>hfar y hy i hi (Ac9 (fun t ht=>(t2 t ht).symm) hR)) (hw.1 y hy i hi)) hv'
 rw [hv] at he;simp only [Option.some.injEq,Prod.mk.injEq,and_true] at he;subst he;rw [←Kw ne];exact h'
theorem Aje (xo:∀d,x.dst=some d->d ∉ looks ops o)(ne:∀d,x.dst=some d->o.dst≠some d)(ox:∀d,o.dst=some d->d ∉ looks ops x)(hl:MH P ops x s.tm)
  (hfar:∀y∈x.op.operands.toList,∀i∈Bq (Ch s.tm y),¬X7 o s.tm s.hp i) (ho:Hc C P ops o s.tm=true)
  (h:Dk C P N call ops x s (fun s1=>Dk C P N call ops o s1 K)=some r):Dk C P N call ops o s (fun s1=>Dk C P N call ops x s1 K)=some r:=by
 obtain ⟨tm,hp⟩:=s;obtain ⟨v,hv,hd,h1⟩:=CM hl h;have t1:∀t∈looks ops o,Bn tm x.dst v t=tm t:=Eu xo;rw [Ip (by rw [Ho t1];exact ho)] at h1
 rw [Ip ho];refine Kn (P:=P) (N:=N) (o:=o) (tm:=Bn tm x.dst v) (tm':=tm) (hp:=hp) (hp1:=hp) (Rel:=fun (a b:Option R)=>a=some r->b=some r) (fun h=>by cases h) (Fu t1) (fun _ _=>.inl rfl) (fun _ _=>rfl) (fun _ _=>rfl) (fun u hp' hp1' hT h=>?_) h1
 have e1:hp'=hp1':=funext fun i=>hT.same i rfl
 subst e1;have t2:∀t∈looks ops x,tm t=Bn tm o.dst u t:=fun t ht=>(Eu ox t ht).symm
 refine HQ (Yk t2 hl) (Zr (s:=⟨tm,hp⟩) (s':=⟨Bn tm o.dst u,hp'⟩) t2 (fun _ y hy i hi=>?_) hv) hd ?_
 ·have hi:i∈Bq (Ch tm y):=by rw [Fu t2 y hy];exact hi
  by_cases hn:hp i=none
  ·exact .inr ⟨Aa3 hn,Mc hn⟩
  ·obtain ⟨h3,h4⟩:=Al6 (hT.far i (hfar y hy i hi) hn);exact .inl ⟨h3.symm,h4.symm⟩
 ·rw [←Kw ne];exact h
def PC (P:Program)(x:Oper)(s s1:St):Prop:=(∀t,x.dst≠some t->s1.tm t=s.tm t)∧(∀i,s.hp i≠none->s1.hp i≠none)∧(H4 P x.op=false->∀i,s.hp i≠none->s1.hp i=s.hp i)
theorem P4 {tm:Nat->PV}{d:Option Tmp}{v:PV}{t:Nat}(h:d≠some t):Bn tm d v t=tm t:=by
 cases d with
 |none=>rfl
 |some d=>exact Ao _ _ (by rintro rfl;exact h rfl)
theorem LO {K':St->Option R}(h:Dk C P N call ops x s K=some r)(hK:∀s1,PC P x s s1->K s1=some r->K' s1=some r):Dk C P N call ops x s K'=some r:=by
 cases hx:Hc C P ops x s.tm
 ·rw [Kz hx] at h ⊢;cases ex:gE C P N call ops x s with
  |none=>rw [ex] at h;cases h
  |some q=>
   rw [ex] at h;obtain ⟨hb,h1⟩:=Aq h;simp only [Bool.and_eq_true] at hb;show Ap _ _=_;rw [hb.1,hb.2];refine hK _ ⟨fun t ht=>P4 ht,fun i hi=>Ou hb.2 hi,fun hm i hi=>?_⟩ h1
   show Az (Ah s.hp q.2.1) q.2.2 i=s.hp i;rw [Gj hb.2 hi,((Vs ex).1 hm).1];simp
 ·rw [Ip hx] at h ⊢
  exact IL (P:=P) (N:=N) (o:=x) (tm:=s.tm) (tm':=s.tm) (hp:=s.hp) (Rel:=fun (a b:Option R)=>a=some r->b=some r) (fun h=>by cases h) (fun _ _=>rfl) (fun v hp' hh h=>hK _ ⟨fun t ht=>P4 ht,hh,fun hm=>by
   have hM:Sb C P x.op=true:=by unfold Hc at hx;simp only [Bool.and_eq_true] at hx;exact hx.1
   rw [Zv hM] at hm;cases hm⟩ h) h
theorem XD.keeps {s1:St}(h:XD C P o s)(ap:AL C P ops x o)(hk:PC P x s s1):XD C P o s1:=by
 have hop:∀y∈o.op.operands.toList,Ch s1.tm y=Ch s.tm y:=fun y hy=>Fu (ops:=ops) (o:=o) (fun t ht=>hk.1 t fun hd=>ap.xo t hd ht) y hy
 refine ⟨fun y hy i hi=>?_,fun hM hA y hy i hi c hc p hp k hkk=>?_⟩
 ·rw [hop y hy] at hi;exact hk.2.1 i (h.1 y hy i hi)
 ·rw [hop y hy] at hi;have hi0:=h.1 y hy i hi;rw [hk.2.2 (ap.mo hM) i hi0] at hc;exact hk.2.1 k (h.2 hM hA y hy i hi c hc p hp k hkk)
theorem LP:∀(l:List Oper){s:St}{K:St->Option R},XD C P o s->(∀x∈l,AL C P ops x o)->Ob C P N call ops l s (fun s1=>Dk C P N call ops o s1 K)=some r->Dk C P N call ops o s (fun s1=>Ob C P N call ops l s1 K)=some r
 |[],_,_,_,_,h=>h
 |x::l,s,K,hw,ap,h=>by
  refine As1 hw (ap x (by simp)) ?_
  refine LO (K:=fun s1=>Ob C P N call ops l s1 (fun s2=>Dk C P N call ops o s2 K)) h fun s1 hk h1=>?_
  exact LP l (hw.keeps (ap x (by simp)) hk) (fun y hy=>ap y (List.mem_cons_of_mem _ hy)) h1
theorem Vk:∀(l l':List Oper){s:St}{K:St->Option R},Ob C P N call ops (l++l') s K=Ob C P N call ops l s (fun s1=>Ob C P N call ops l' s1 K)
 |[],_,_,_=>rfl
 |x::l,l',s,K=>by
  show Dk C P N call ops x s (fun s1=>Ob C P N call ops (l++l') s1 K)=Dk C P N call ops x s (fun s1=>Ob C P N call ops l s1 _)
  congr 1
  funext s1
  exact Vk l l'
theorem Aep {l l':List Oper}(hw:XD C P o s)(ap:∀x∈l,AL C P ops x o)(h:Ob C P N call ops (l++o::l') s K=some r):Dk C P N call ops o s (fun s1=>Ob C P N call ops (l++l') s1 K)=some r:=by
 rw [Vk] at h;have:=LP l hw ap h;refine LO this fun s1 _ h1=>?_
 rw [Vk];exact h1
end
open Go.RowKit
section
variable {R:Type} {r:R} {P:Program} {N:Nat} {w0:World} {X0:E5} {Y:Nat->Prop} {β β':Bt} {s:St} {a:Act} {w w':World} {o:Oper} {ops:Array Oper} {C:Hb} {call:Ai} {K:St->Option R}
theorem S7 (h:Bu N w0 X0 Y β s a w){j d:Nat}(hd:(ops[j]?).bind (·.dst)=some d) {v:Value}(ht:s.tm d=.sc v):yielded ops a.tmps j=match v with | .bool b=>some b|_=>none:=by
 have hlt:d<N:=by
  rcases Nat.lt_or_ge d N with h'|h'
  ·exact h'
  ·rw [h.tmo d h'] at ht;cases ht
 have hv:=h.tms d hlt;rw [ht] at hv;have hv:=O8 hv;have hlt':d<a.tmps.size:=by rw [h.tsz];exact hlt
 have he:a.tmps[d]?=some v:=by
  rw [Array.getElem?_eq_getElem hlt'];simp [hlt'] at hv;rw [hv]
 unfold yielded;rw [hd];simp only [Option.bind_some,he];cases v<;>rfl
theorem Xz (h:Bu N w0 X0 Y β s a w){G:Ua}(hNG:HC P G w0 X0)(hcall:∀f args res,call f args=some res->C6 G P f args res){i:Nat}(hi:ops[i]?=some o) (hk:Dk C P N call ops o s K=some r):
  ∃s',K s'=some r∧∀(next:Act->World->Prop) (Q:Exit->Act->World->Prop),(∀a' w' β',Bu N w0 X0 Y β' s' a' w'->next a' w')->wpOp P ops Q i next a w:=by
 rw [GW] at hk
 have hw:∀b,Gb ops o s.tm=some b->Region.wanted o (yielded ops a.tmps)=b:=by
  intro b hb;unfold Gb at hb;unfold Region.wanted;cases hg:o.guard with
  |none=>rw [hg] at hb;simpa using hb
  |some q=>
   obtain ⟨j,want⟩:=q;rw [hg] at hb;simp only at hb ⊢;cases hd:(ops[j]?).bind (·.dst) with
   |none=>rw [hd] at hb;cases hb
   |some d=>
    rw [hd] at hb;simp only at hb;split at hb
    ·rename_i b' ht;rw [S7 h hd ht];simp at hb;rw [←hb];cases b'<;>cases want<;>rfl
    ·rename_i ht;rw [S7 h hd ht];simp at hb;rw [hb];rfl
    ·cases hb
 split at hk
 ·cases hk
 ·rename_i hv;obtain ⟨s',hs',hn⟩:=LL h hNG hcall hk;refine ⟨s',hs',fun next Q hnext=>?_⟩
  unfold wpOp;rw [hi];simp only [hw _ hv,if_true];exact .inl (hn next Q hnext)
 ·rename_i hv;obtain ⟨hd,hk⟩:=Aq hk;refine ⟨_,hk,fun next Q hnext=>?_⟩
  unfold wpOp;rw [hi];simp only [hw _ hv];refine hnext _ _ β (h.put hd (A5.sc _) (by simp [Bq,Cb,At]))
theorem Bu.known (h:Bu N w0 X0 Y β s a w){d:Nat}(hd:s.tm d=.ub):∃b,Bu N w0 X0 Y β ⟨Ct s.tm d (.sc (.bool b)),s.hp⟩ a w:=by
 have hlt:d<N:=by
  rcases Nat.lt_or_ge d N with h'|h'
  ·exact h'
  ·rw [h.tmo d h'] at hd;cases hd
 have hu:=h.tms d hlt;rw [hd] at hu;have hu':A5 w (Cw s.hp β Y) .ub (a.tmps.getD d undef):=hu
 obtain ⟨b,hv⟩:∃b,a.tmps.getD d undef=.bool b:=by
  generalize a.tmps.getD d undef=x at hu';cases hu' with
  |ub b=>exact ⟨b,rfl⟩
 refine ⟨b,⟨h.dfr,h.tsz,fun i hi=>?_,fun i hi=>?_,h.box,h.inj,h.blt,fun i hi=>?_,h.wfB,h.ownd,h.rngB,h.pin,h.stp,h.Yx,h.Ylt,h.fr⟩⟩
 ·show Ct s.tm d _ i=_;rw [Ao _ _ (by omega)]
  exact h.tmo i hi
 ·by_cases e:i=d
  ·subst e;show Dp _ _ _ (Ct s.tm i _ i) _;rw [As,hv];exact A5.sc _
  ·show Dp _ _ _ (Ct s.tm d _ i) _;rw [Ao _ _ e];exact h.tms i hi
 ·by_cases e:i=d
  ·subst e;show ∀id∈Bq (Ct s.tm i _ i),_;rw [As];simp [Bq,Cb,At]
  ·show ∀id∈Bq (Ct s.tm d _ i),_;rw [Ao _ _ e];exact h.wfT i hi
theorem OD {x y:Option R}(h:Xa x y=some r):x=some r∧y=some r:=by
 unfold Xa at h;split at h
 ·rename_i e;exact ⟨h,e ▸ h⟩
 ·cases h
theorem Sf (h:Bu N w0 X0 Y β s a w){F:St->Option R}(hk:ZK ops o s F=some r):∃s',F s'=some r∧Bu N w0 X0 Y β s' a w:=by
 unfold ZK at hk;split at hk
 ·exact ⟨s,hk,h⟩
 ·split at hk
  ·exact ⟨s,hk,h⟩
  ·split at hk
   ·rename_i d _ ht;obtain ⟨b,hb⟩:=h.known ht;obtain ⟨h1,h2⟩:=OD hk;cases b
    ·exact ⟨_,h2,hb⟩
    ·exact ⟨_,h1,hb⟩
   ·exact ⟨s,hk,h⟩
theorem Y6 {G:Ua}(hNG:HC P G w0 X0)(hcall:∀f args res,call f args=some res->C6 G P f args res){Q:Exit->Act->World->Prop}(hQ:∀s' a' w' β',K s'=some r->Bu N w0 X0 Y β' s' a' w'->Q .normal a' w'):
  ∀(l:List Nat) (os:List Oper),l.length=os.length->(∀(k i:Nat),l[k]?=some i->ops[i]?=os[k]?)->∀{s:St} {a:Act} {w:World} {β:Bt},Bu N w0 X0 Y β s a w->Mo C P N call ops os s K=some r->wpOps P ops Q l a w
 |[],[],_,_,s,a,w,β,h,hk=>by
  show Q .normal a w;exact hQ s a w β hk h
 |[],_::_,hl,_,_,_,_,_,_,_=>by cases hl
 |_::_,[],hl,_,_,_,_,_,_,_=>by cases hl
 |i::l,o::os,hl,hi,s,a,w,β,h,hk=>by
  rw [wpOps_cons];obtain ⟨s1,hk,h⟩:=Sf h hk;obtain ⟨s',hs',hn⟩:=Xz h hNG hcall (by simpa using hi 0 i rfl) hk
  exact hn _ _ fun a' w' β' h'=>Y6 hNG hcall hQ l os (by simpa using hl) (fun k j hj=>by simpa using hi (k+1) j (by simpa using hj)) h' hs'
theorem Bu.drew (h:Bu N w0 X0 Y β s a w):Bu N w0 X0 Y β s a { w with drawn:=w.drawn+1 }:=by
 have:=h.stepR (d:=none) (v:=.top) (nw:=[]) (val:=undef) (w':={ w with drawn:=w.drawn+1 }) (β':=β) rfl rfl
  ⟨rfl,rfl,rfl,⟨Nat.le_refl _,fun _ _ _=>rfl,fun _ _=>Nat.le_refl _⟩,fun _ _=>rfl,by simp,by simp,by simp,by simp,by simp,.top _,by simp [Bq,Cb,At]⟩
 exact this
theorem QS (h:Bu N w0 X0 Y β s a w){G:Ua}(hNG:HC P G w0 X0)(hcall:∀f args res,call f args=some res->C6 G P f args res){id:Nat}{Q:Exit->Act->World->Prop}
  (hk:Mo C P N call ops ops.toList s K=some r)(hQ:∀s' a' w' β',K s'=some r->Bu N w0 X0 Y β' s' a' w'->Q .normal a' w'):(Code.region id ops false).wp P Q a w:=by
 refine wp_region (Y6 hNG hcall hQ (List.range ops.size) ops.toList (by simp) (fun k i hi=>?_) h hk)
 rw [List.getElem?_range] at hi
 ·simp at hi;subst hi;simp
 ·rcases Nat.lt_or_ge k ops.size with h'|h'
  ·exact h'
  ·rw [List.getElem?_eq_none (by simpa using h')] at hi;cases hi
def Nn (n:Nat)(listed:Array Bool):List Nat:=(List.range n).filter fun i=> !listed.getD i true
def Apx (ops:Array Oper)(listed:Array Bool)(o:Oper):Prop:=∀e∈o.after,Region.binds .any e=true->listed.getD e.on false=true
theorem testBit_or {a b j:Nat}:(a ||| b).testBit j=(a.testBit j||b.testBit j):=Nat.testBit_or a b j
theorem PR {acc:List Nat}{j:Nat}:∀(es:List Edge)(v:Nat),(es.foldl (fun s e=>bif Region.binds .any e then s ||| 2 ^ e.on ||| acc.getD e.on 0 else s) v).testBit j=true ->
  v.testBit j=true∨∃e∈es,Region.binds .any e=true∧(j=e.on∨(acc.getD e.on 0).testBit j=true)
 |[],v,h=>.inl h
 |e::es,v,h=>by
  rcases PR es _ h with h|⟨e',he',h⟩
  ·cases hb:Region.binds .any e<;>simp only [hb] at h
   ·exact .inl h
   ·simp only [cond_true,Nat.testBit_or,Bool.or_eq_true] at h;rcases h with (h|h)|h
    ·exact .inl h
    ·refine .inr ⟨e,by simp,hb,.inl ?_⟩
     rw [Nat.testBit_two_pow] at h;exact (of_decide_eq_true h).symm
    ·exact .inr ⟨e,by simp,hb,.inr h⟩
  ·exact .inr ⟨e',by simp [he'],h⟩
theorem Sy {listed:Array Bool}(hc:∀(j:Nat) oj,ops[j]?=some oj->listed.getD j false=true->Apx ops listed oj):
  ∀(rest done:List Oper) (acc:List Nat),ops.toList=done++rest->acc.length=done.length ->
   (∀(k:Nat) o,done[k]?=some o->Apx ops listed o->∀j,(acc.getD k 0).testBit j=true->listed.getD j false=true) ->
   ∀(k:Nat) o,ops[k]?=some o->Apx ops listed o->∀j,((Il rest acc).getD k 0).testBit j=true->listed.getD j false=true
 |[],done,acc,he,_,h,k,o,ho,hf,j,hj=>by
  refine h k o ?_ hf j hj;rw [List.append_nil] at he;rw [←he]
  simpa using ho
 |o'::rest,done,acc,he,hl,h,k,o,ho,hf,j,hj=>by
  refine Sy hc rest (done++[o']) _ (by rw [he];simp) (by simp [hl]) ?_ k o ho hf j hj
  intro k o ho hf j hj;rcases Nat.lt_trichotomy k done.length with hlt|heq|hgt
  ·rw [List.getElem?_append_left hlt] at ho;rw [List.getD_eq_getElem?_getD,List.getElem?_append_left (by omega),←List.getD_eq_getElem?_getD] at hj
   exact h k o ho hf j hj
  ·subst heq;simp at ho;subst ho;rw [←hl] at hj;simp only [List.getD_eq_getElem?_getD,List.getElem?_append_right (Nat.le_refl _),Nat.sub_self,List.getElem?_cons_zero,Option.getD_some] at hj
   have hj:(o'.after.toList.foldl (fun s e=>bif Region.binds .any e then s ||| 2 ^ e.on ||| acc.getD e.on 0 else s) 0).testBit j=true:=by
    simpa only [List.getD_eq_getElem?_getD] using hj
   rcases PR _ _ hj with h0|⟨e,hm,hb,h1⟩
   ·simp at h0
   ·have hl1:=hf e (by simpa using hm) hb
    rcases h1 with h1|h1
    ·rw [h1];exact hl1
    ·cases hd:done[e.on]? with
     |none=>
      have:acc.getD e.on 0=0:=by
       rw [List.getD_eq_getElem?_getD,List.getElem?_eq_none (by rw [hl];exact List.getElem?_eq_none_iff.1 hd)]
       rfl
      rw [this] at h1;simp at h1
     |some oe=>
      have hoe:ops[e.on]?=some oe:=by
       rw [←Array.getElem?_toList,he,List.getElem?_append_left (by
        rcases Nat.lt_or_ge e.on done.length with h'|h'
        ·exact h'
        ·rw [List.getElem?_eq_none h'] at hd;cases hd)]
       exact hd
      exact h e.on oe hd (hc e.on oe hoe hl1) j h1
  ·rw [List.getElem?_eq_none (by simp;omega)] at ho
   cases ho
theorem AJ {bs:List Nat}:∀(l:List Oper)(n:Nat),GS C P ops bs l n=true->∀(k:Nat) o,l[k]?=some o->∀(j:Nat) x,ops[j]?=some x->j<n+k->HF C P ops x o=true->(bs.getD (n+k) 0).testBit j=true
 |[],_,_,k,o,ho,_,_,_,_,_=>by simp at ho
 |o'::l,n,h,k,o,ho,j,x,hx,hj,hcl=>by
  simp only [GS,Bool.and_eq_true] at h;cases k with
  |zero=>
   simp at ho;subst ho
   have:=List.all_eq_true.1 h.1 (x,j) (by
    rw [List.mem_zipIdx_iff_getElem?]
    simpa using hx)
   simp only [hcl,Bool.not_true,Bool.or_false,Bool.or_eq_true,Bool.not_eq_true'] at this;rcases this with h'|h'
   ·have:Nat.blt j n=true:=Nat.ble_eq_true_of_le (by omega)
    rw [this] at h';cases h'
   ·exact h'
  |succ k=>
   have:=AJ l (n+1) h.2 k o (by simpa using ho) j x hx (by omega) hcl
   rwa [show n+(k+1)=n+1+k by omega]
theorem Jt {n i:Nat}{listed:Array Bool}:i∈Nn n listed↔i<n∧listed.getD i true=false:=by
 unfold Nn;simp [List.mem_filter]
theorem Xr {n i:Nat}{listed:Array Bool}(hi:i∈Nn n listed)(hsz:listed.size=n):∃l1 l2,Nn n listed=l1++i::l2∧Nn n (listed.setIfInBounds i true)=l1++l2∧∀j∈l1,j<i:=by
 obtain ⟨hlt,hun⟩:=Jt.1 hi
 have hr:List.range n=List.range i++i::(List.range (n-i-1)).map (i+1 + ·):=by
  conv=>lhs;rw [show n=i+(1+(n-i-1)) by omega]
  rw [List.range_add,List.range_add];simp [Nat.add_assoc]
 refine ⟨(List.range i).filter fun i=> !listed.getD i true,((List.range (n-i-1)).map (i+1 + ·)).filter fun i=> !listed.getD i true,?_,?_,fun j hj=>?_⟩
 ·unfold Nn;rw [hr,List.filter_append,List.filter_cons_of_pos (by rw [hun];rfl)]
 ·unfold Nn;rw [hr,List.filter_append,List.filter_cons_of_neg (by simp [hsz,hlt])]
  congr 1
  ·refine List.filter_congr fun j hj=>?_
   rw [getD_set_ne true (by have:=List.mem_range.1 hj;omega)]
  ·refine List.filter_congr fun j hj=>?_
   obtain ⟨k,_,rfl⟩:=List.mem_map.1 hj;rw [getD_set_ne true (by omega)]
 ·exact List.mem_range.1 (List.mem_filter.1 hj).1
theorem Afm (h:Bu N w0 X0 Y β s a w)(o:Oper):XD C P o s:=by
 refine ⟨fun y _ i hi=>Ff h y i hi,fun _ _ y _ i hi c hc p hp k hk=>h.wfB i c hc p hp k hk⟩
theorem OU (hok1:(ops.toList.zipIdx.all fun q=>q.1.after.toList.all fun e=> !Region.binds .any e||Nat.blt e.on q.2)=true) {listed:Array Bool}(inv:HeadInv .any ops ops.size listed)(hr:Region.ready .any ops listed=[]):Nn ops.size listed=[]:=by
 cases hp:Nn ops.size listed with
 |nil=>rfl
 |cons i l=>
  exfalso;have hi:i∈Nn ops.size listed:=by rw [hp];simp
  obtain ⟨hlt,hun⟩:=Jt.1 hi;obtain ⟨l1,l2,h1,_,h3⟩:=Xr hi inv.size
  have hl1:l1=[]:=by
   cases l1 with
   |nil=>rfl
   |cons j l1=>
    rw [hp] at h1;simp at h1;have:=h3 j (by simp)
    omega
  subst hl1
  have hmin:∀j,j<i->listed.getD j false=true:=by
   intro j hj;cases hh:listed.getD j false with
   |true=>rfl
   |false=>
    have:j∈Nn ops.size listed:=Jt.2 ⟨by omega,getD_in (by rw [inv.size];omega) hh⟩
    have hs:(Nn ops.size listed).Pairwise (· < ·):=List.Pairwise.filter _ List.pairwise_lt_range
    rw [h1] at this hs;simp at this;rcases this with e|e
    ·omega
    ·have:=(List.pairwise_cons.1 hs).1 j e;omega
  have:i∈Region.ready .any ops listed:=by
   refine mem_ready.2 ⟨hun,ops[i],Array.getElem?_eq_getElem hlt,fun e he hb=>hmin _ ?_⟩
   have:=List.all_eq_true.1 hok1 (ops[i],i) (by
    rw [List.mem_zipIdx_iff_getElem?];simp [hlt])
   have:=List.all_eq_true.1 this e (Array.mem_toList_iff.2 he);simp only [hb,Bool.not_true,Bool.false_or] at this;exact Nat.lt_of_succ_le (Nat.le_of_ble_eq_true this)
  rw [hr] at this;simp at this
theorem RY {G:Ua}(hNG:HC P G w0 X0)(hcall:∀f args res,call f args=some res->C6 G P f args res)(hok:IA C P ops=true){Q:Exit->Act->World->Prop}(hQ:∀s' a' w' β',K s'=some r->Bu N w0 X0 Y β' s' a' w'->Q .normal a' w'):
  ∀(fuel:Nat) {listed:Array Bool} {s:St} {a:Act} {w:World} {β:Bt},HeadInv .any ops ops.size listed->(Nn ops.size listed).length=fuel->Bu N w0 X0 Y β s a w->Ob C P N call ops ((Nn ops.size listed).filterMap (ops[·]?)) s K=some r->wpAny P .any ops Q fuel listed a w:=by
 unfold IA at hok;simp only [Bool.and_eq_true] at hok;obtain ⟨hok1,hok2⟩:=hok;intro fuel
 induction fuel with
 |zero=>
  intro listed s a w β inv hf h hk;have hp:=List.eq_nil_of_length_eq_zero hf;rw [hp] at hk;refine ⟨?_,hQ s a w β hk h⟩;cases hr:Region.ready .any ops listed with
  |nil=>rfl
  |cons i l=>
   exfalso;have hi:i∈Region.ready .any ops listed:=by rw [hr];simp
   obtain ⟨hun,o,ho,_⟩:=mem_ready.1 hi;have:i∈Nn ops.size listed:=Jt.2 ⟨(Array.getElem?_eq_some_iff.1 ho).1,hun⟩;rw [hp] at this;simp at this
 |succ fuel ih=>
  intro listed s a w β inv hf h hk;refine ⟨fun hr=>?_,fun i hi=>?_⟩
  ·rw [OU hok1 inv hr] at hf;cases hf
  ·obtain ⟨hun,o,ho,hall⟩:=mem_ready.1 hi;have hlt:i<ops.size:=(Array.getElem?_eq_some_iff.1 ho).1;obtain ⟨l1,l2,h1,h2,h3⟩:=Xr (Jt.2 ⟨hlt,hun⟩) inv.size;rw [h1,List.filterMap_append,List.filterMap_cons_some ho] at hk
   have hap:∀x∈l1.filterMap (ops[·]?),AL C P ops x o:=by
    intro x hx;obtain ⟨j,hj,hxj⟩:=List.mem_filterMap.1 hx;refine Afh ?_;cases hcl:HF C P ops x o with
    |false=>rfl
    |true=>
     exfalso;have hbit:=AJ ops.toList 0 hok2 i o (by simpa using ho) j x hxj (by have:=h3 j hj;omega) hcl
     rw [Nat.zero_add] at hbit;have hjl:=Sy (listed:=listed) (fun j oj hj hl=>inv.closed j oj hj hl) ops.toList [] [] (by simp) rfl (by simp) i o ho hall j hbit
     have:j∈Nn ops.size listed:=by rw [h1];simp [hj]
     have:=getD_both (Jt.1 this).2;rw [hjl] at this;cases this
   obtain ⟨s',hs',hn⟩:=Xz h hNG hcall ho (Aep (Afm h o) hap hk);refine hn _ _ fun a' w' β' h'=>ih (inv.set hi hlt) ?_ h' ?_
   ·rw [h2];rw [h1] at hf;simp at hf ⊢;omega
   ·rw [h2,List.filterMap_append];exact hs'
theorem Q1 (h:Bu N w0 X0 Y β s a w){G:Ua}(hNG:HC P G w0 X0)(hcall:∀f args res,call f args=some res->C6 G P f args res)(hm:P.follows .mixedOrders=true)(hok:IA C P ops=true){Q:Exit->Act->World->Prop}
  (hk:Ob C P N call ops ops.toList s K=some r)(hQ:∀s' a' w' β',K s'=some r->Bu N w0 X0 Y β' s' a' w'->Q .normal a' w'):wpAny P .any ops Q ops.size (Array.replicate ops.size false) a { w with drawn:=w.drawn+1 }:=by
 have hp:Nn ops.size (Array.replicate ops.size false)=List.range ops.size:=by
  unfold Nn;refine List.filter_eq_self.2 fun i hi=>?_
  have:=List.mem_range.1 hi;simp [this]
 refine RY (C:=C) hNG hcall hok hQ ops.size ⟨by simp,fun j oj _ hl=>(by rw [getD_replicate_false] at hl;cases hl),fun t ht ht'=>by omega⟩ (by rw [hp];simp) h.drew ?_
 rw [hp]
 have:(List.range ops.size).filterMap (ops[·]?)=ops.toList:=by
  refine List.ext_getElem? fun k=>?_
  have:∀(n:Nat),n<=ops.size->(List.range n).filterMap (ops[·]?)=ops.toList.take n:=by
   intro n
   induction n with
   |zero=>intro _;rfl
   |succ n ih=>
    intro hn;rw [List.range_succ,List.filterMap_append,ih (by omega),List.take_add_one]
    congr 1
    have:ops[n]?=some ops[n]:=Array.getElem?_eq_getElem (by omega)
    simp [this]
  rw [this ops.size (Nat.le_refl _)]
  congr 1
  exact List.take_of_length_le (by simp)
 rw [this];exact hk
theorem QM (h:Bu N w0 X0 Y β s a w){G:Ua}(hNG:HC P G w0 X0)(hcall:∀f args res,call f args=some res->C6 G P f args res)(hm:P.follows .mixedOrders=true)(hok:IA C P ops=true){id:Nat}{Q:Exit->Act->World->Prop}
  (hk:Ob C P N call ops ops.toList s K=some r)(hQ:∀s' a' w' β',K s'=some r->Bu N w0 X0 Y β' s' a' w'->Q .normal a' w'):(Code.region id ops true).wp P Q a w:=
 wp_region_any hm (Q1 h hNG hcall hm hok hk hQ)
end
end
section
open Go.RowKit
section
variable {R R':Type} {Rel:Option R->Option R'->Prop} {P:Program} {N:Nat} {tm tm':Nat->PV} {hp hp1:Nat->Option Bk} {o:Oper}
theorem Ack (hn:Rel none none){C:Hb}{call:Ai}{K:St->Option R}{K':St->Option R'}(hap:Ov o.op=true)(htm:∀x∈o.op.operands.toList,Ch tm x=Ch tm' x)
  (hS:∀i,X7 o tm' hp1 i->hp i=hp1 i∨(hp i=none∧∀b,Rel none b)) (hdd:∀d,o.dst=some d->hp d=hp1 d)
  (hK:∀v hp' hp1',(∀M,LX M (X7 o tm' hp1) o.dst hp hp1 hp' hp1')->Rel (K ⟨Bn tm o.dst v,hp'⟩) (K' ⟨Bn tm' o.dst v,hp1'⟩)):Rel (Wt C P N call ⟨tm,hp⟩ o K) (Wt C P N call ⟨tm',hp1⟩ o K'):=by
 unfold Wt;have hl:∀x∈o.op.operands.toList,∀i∈Bq (Ch tm' x),X7 o tm' hp1 i:=fun x hx i hi=>.inl ⟨x,hx,hi⟩
 generalize hLd:X7 o tm' hp1=S at *
 generalize hop:o.op=op at *
 unfold Ov at hap;split at hap
 ·rename_i c
  have hmem:∀x∈c.args.toList,x∈(Op.call c).operands.toList:=by
   intro x hx;simp only [Op.operands,Call.operands,Array.toList_append,List.mem_append];exact .inr hx
  split at hap
  ·rename_i hc;simp only [hc];refine Du hn fun d hd=>Bi hn fun x _ hx=>Bi hn fun y _ hy=>Fk hn (Bi hn fun _ _ _=>Bi hn fun _ _ _=>?_)
   subst hy;have hxm:=hmem x (by rw [hx];simp)
   have hym:=hmem y (by rw [hx];simp)
   simp only [htm x hxm,htm y hym];refine Z2 hn hS (hdd d hd) (fun i hi=>hl x hxm i (F5 hi)) (fun i hi=>hl y hym i (F5 hi)) fun v hp' hp1' hh=>?_
   have:=hK v hp' hp1' (by rw [hd];exact hh)
   rw [hd] at this;exact this
  ·cases hap
 ·cases hap
theorem R5 {C:Hb}{call:Ai}(hap:Ov o.op=true)(htm:∀x∈o.op.operands.toList,Ch tm x=Ch tm' x)(hS:∀i,X7 o tm' hp1 i->hp i=hp1 i)(hdd:∀d,o.dst=some d->hp d=hp1 d){s1:St}
  (h:Wt C P N call ⟨tm,hp⟩ o some=some s1):∃v hp' hp1',s1=⟨Bn tm o.dst v,hp'⟩∧Wt C P N call ⟨tm',hp1⟩ o some=some ⟨Bn tm' o.dst v,hp1'⟩∧∀M,LX M (X7 o tm' hp1) o.dst hp hp1 hp' hp1':=by
 have:=Ack (P:=P) (N:=N) (C:=C) (call:=call) (o:=o) (tm:=tm) (tm':=tm') (hp:=hp) (hp1:=hp1) (K:=some) (K':=some)
  (Rel:=fun (a b:Option St)=>∀s1,a=some s1->∃v hp' hp1',s1=⟨Bn tm o.dst v,hp'⟩∧b=some ⟨Bn tm' o.dst v,hp1'⟩∧∀M,LX M (X7 o tm' hp1) o.dst hp hp1 hp' hp1') (fun _ h=>by cases h) hap htm (fun i hi=>.inl (hS i hi)) hdd
  (fun v hp' hp1' hT s1 h=>by cases h;exact ⟨v,hp',hp1',rfl,rfl,hT⟩)
 exact this s1 h
end
section
variable {R R':Type} {r:R} {r':R'} {C:Hb} {P:Program} {N:Nat} {call:Ai} {ops:Array Oper} {o x:Oper} {s s1 s2:St} {K:St->Option R}
theorem Uv {tm:Nat->PV}(h:Hc C P ops o tm=true):Sb C P o.op=true:=by
 unfold Hc at h;simp only [Bool.and_eq_true] at h;exact h.1
theorem RG (h:Ov o.op=true):Sb C P o.op=true:=by
 unfold Ov at h;split at h
 ·rename_i c hc;rw [hc];split at h
  ·rename_i hcc;simp only [Sb,hcc];exact h
  ·cases h
 ·cases h
theorem Pe (h:Dk C P N call ops x s K=some r):∃s1,Dk C P N call ops x s some=some s1∧PC P x s s1∧(Va P x.op=true->s1.hp=s.hp)∧K s1=some r:=by
 cases hx:Hc C P ops x s.tm
 ·rw [Kz hx] at h ⊢;cases ex:gE C P N call ops x s with
  |none=>rw [ex] at h;cases h
  |some q=>
   rw [ex] at h;obtain ⟨hb,h1⟩:=Aq h;simp only [Bool.and_eq_true] at hb;refine ⟨_,?_,⟨fun t ht=>P4 ht,fun i hi=>Ou hb.2 hi,fun hm i hi=>?_⟩,fun hl=>?_,h1⟩
   ·show Ap _ _=_;rw [hb.1,hb.2];rfl
   ·show Az (Ah s.hp q.2.1) q.2.2 i=s.hp i;rw [Gj hb.2 hi,((Vs ex).1 hm).1];simp
   ·show Az (Ah s.hp q.2.1) q.2.2=s.hp;obtain ⟨h1,h2⟩:=Aa4 (.inl hl) ex;rw [h1,h2]
    funext i
    show Ah s.hp [] i=_;rw [B6];simp
 ·rw [Ip hx] at h ⊢
  exact IL (P:=P) (N:=N) (o:=x) (tm:=s.tm) (tm':=s.tm) (hp:=s.hp) (K':=some) (Rel:=fun (a:Option R) (b:Option St)=>a=some r->∃s1,b=some s1∧PC P x s s1∧(Va P x.op=true->s1.hp=s.hp)∧K s1=some r) (fun h=>by cases h) (fun _ _=>rfl) (fun v hp' hh h=>⟨_,rfl,⟨fun t ht=>P4 ht,hh,fun hm=>(by
   rw [Zv (Uv hx)] at hm;cases hm)⟩,fun hl=>(by
   have:=Uv hx;rw [Ko hl] at this;cases this),h⟩) h
theorem Vw {K':St->Option R'}(h:Dk C P N call ops x s some=some s1)(hk:K' s1=some r'):Dk C P N call ops x s K'=some r':=by
 cases hx:Hc C P ops x s.tm
 ·rw [Kz hx] at h ⊢;cases ex:gE C P N call ops x s with
  |none=>rw [ex] at h;cases h
  |some q=>
   rw [ex] at h;obtain ⟨hb,h1⟩:=Aq h;show Ap _ _=_;rw [hb];cases h1;exact hk
 ·rw [Ip hx] at h ⊢;exact IL (P:=P) (N:=N) (o:=x) (tm:=s.tm) (tm':=s.tm) (hp:=s.hp) (K:=some) (Rel:=fun (a:Option St) (b:Option R')=>a=some s1->b=some r') (fun h=>by cases h) (fun _ _=>rfl) (fun v hp' hh h=>by cases h;exact hk) h
theorem QR {d:Nat}{t tx:TypeId}{b y:PV}(h:Py P N s d t tx b y K=some r):s.hp d=none:=by
 unfold Py at h;split at h
 ·obtain ⟨_,h⟩:=Aq h;cases hI:AH P tx
  ·rw [hI,cond_false] at h;refine DX (P:=P) (tm:=s.tm) (tm':=s.tm) (hp:=s.hp) (hp1:=s.hp) (S:=fun _=>True) (K':=fun _ _=>(none:Option R)) (Rel:=fun (a:Option R) (_:Option R)=>a=some r->s.hp d=none) (fun h=>by cases h) (fun _ _=>.inl rfl) (fun _ _=>trivial) (fun m new h=>?_) h
   split at h
   ·split at h
    ·obtain ⟨hb,_⟩:=Aq h;simp only [Bool.and_eq_true,Option.isNone_iff_eq_none] at hb;simp only [hb]
    ·cases h
   ·obtain ⟨_,_,_,h,_⟩:=Gf h;obtain ⟨hb,_⟩:=Aq h;simp only [Bool.and_eq_true,Option.isNone_iff_eq_none] at hb;simp only [hb]
  ·rw [hI,cond_true] at h;unfold Vh at h;obtain ⟨_,_,_,h⟩:=Dh h;obtain ⟨_,_,_,h,_⟩:=Gf h;obtain ⟨hb,_⟩:=Aq h;simp only [Bool.and_eq_true,Option.isNone_iff_eq_none] at hb;simp only [hb]
 ·cases h
theorem Ale (hw:XD C P o s)(hwx:∀y∈x.op.operands.toList,∀i∈Bq (Ch s.tm y),s.hp i≠none) (xo:∀d,x.dst=some d->d ∉ looks ops o)(ne:∀d,x.dst=some d->o.dst≠some d)(ox:∀d,o.dst=some d->d ∉ looks ops x)
  (hax:Ov x.op=true)(hao:Ov o.op=true)(hfar:∀i,X7 x s.tm s.hp i->¬X7 o s.tm s.hp i)(hx:Hc C P ops x s.tm=true)(ho:Hc C P ops o s.tm=true)
  (h:Dk C P N call ops x s (fun s1=>Dk C P N call ops o s1 K)=some r):Dk C P N call ops o s (fun s1=>Dk C P N call ops x s1 K)=some r:=by
 obtain ⟨tm,hp⟩:=s;obtain ⟨s1,e1,_,_,h⟩:=Pe h;obtain ⟨s2,e2,_,_,h⟩:=Pe h;rw [Ip hx] at e1
 have hSx:∀i,X7 x tm hp i->hp i≠none:=by
  rintro i (⟨y,hy,hi⟩|⟨hap,_⟩)
  ·exact hwx y hy i hi
  ·rw [hax] at hap;cases hap
 have hSo:∀i,X7 o tm hp i->hp i≠none:=by
  rintro i (⟨y,hy,hi⟩|⟨hap,_⟩)
  ·exact hw.1 y hy i hi
  ·rw [hao] at hap;cases hap
 obtain ⟨vx,hpx,hpx',rfl,e1',T1⟩:=R5 hax (fun _ _=>rfl) (fun _ _=>rfl) (fun _ _=>rfl) e1
 have:hpx'=hpx:=by
  rw [e1] at e1';injection e1' with q;injection q with _ q;exact q.symm
 subst this;have t1:∀t∈looks ops o,Bn tm x.dst vx t=tm t:=Eu xo;have t1o:=Fu (ops:=ops) (o:=o) t1;rw [Ip (by rw [Ho t1];exact ho)] at e2
 have hRo:∀i,X7 o (Bn tm x.dst vx) hpx' i↔X7 o tm hp i:=by
  intro i;constructor
  ·rintro (⟨y,hy,hi⟩|⟨hap,_⟩)
   ·exact .inl ⟨y,hy,by rw [←t1o y hy];exact hi⟩
   ·rw [hao] at hap;cases hap
  ·rintro (⟨y,hy,hi⟩|⟨hap,_⟩)
   ·exact .inl ⟨y,hy,by rw [t1o y hy];exact hi⟩
   ·rw [hao] at hap;cases hap
 have hfree:∀{s:St} {o:Oper} {s2:St},Ov o.op=true->Wt C P N call s o some=some s2->∀d,o.dst=some d->s.hp d=none:=by
  intro s o s2 hao e d hd;unfold Wt at e;unfold Ov at hao;split at hao
  ·rename_i c hc;rw [hc] at e;simp only at e;split at hao
   ·rename_i hcc;rw [hcc] at e;simp only [hd,Ep] at e;obtain ⟨_,_,_,e⟩:=Bd e;obtain ⟨_,_,_,e⟩:=Bd e;obtain ⟨_,e⟩:=Dn e;obtain ⟨_,_,_,e⟩:=Bd e;obtain ⟨_,_,_,e⟩:=Bd e;exact QR e
   ·cases hao
  ·cases hao
 have hpo0:∀d,o.dst=some d->hp d=none:=by
  intro d hd;have h0:=hfree hao e2 d hd;cases hh:hp d with
  |none=>rfl
  |some b=>exact absurd h0 ((T1 0).keep d (by rw [hh];simp))
 have hpx0:=hfree hax e1;simp only at hpx0;have hoS:∀d,o.dst=some d->¬X7 x tm hp d:=fun d hd hR=>hSx d hR (hpo0 d hd)
 have hxS:∀d,x.dst=some d->¬X7 o tm hp d:=fun d hd hR=>hSo d hR (hpx0 d hd)
 obtain ⟨vo,hpxo,hpo,rfl,e3,T2⟩:=R5 (tm':=tm) (hp1:=hp) hao t1o (fun i hi=>(T1 0).far i (fun hR=>hfar i hR hi) (hSo i hi)) (fun d hd=>((T1 (d+1)).off d (by omega) (fun e=>ne d e hd) (.inl (hoS d hd))).1) e2
 obtain ⟨vo',hpo',hpo'',e3a,e3b,T3⟩:=R5 (tm':=tm) (hp1:=hp) hao (fun _ _=>rfl) (fun _ _=>rfl) (fun _ _=>rfl) e3
 rw [e3] at e3b
 have hpoe:hpo'=hpo∧hpo''=hpo:=by
  injection e3a with _ q1;injection e3b with q2;injection q2 with _ q3;exact ⟨q1.symm,q3.symm⟩
 obtain ⟨rfl,rfl⟩:=hpoe;have t2:∀t∈looks ops x,tm t=Bn tm o.dst vo t:=fun t ht=>(Eu ox t ht).symm
 have t2x:=Fu (ops:=ops) (o:=x) t2
 have hRx:∀i,X7 x (Bn tm o.dst vo) hpo'' i↔X7 x tm hp i:=by
  intro i;constructor
  ·rintro (⟨y,hy,hi⟩|⟨hap,_⟩)
   ·exact .inl ⟨y,hy,by rw [t2x y hy];exact hi⟩
   ·rw [hax] at hap;cases hap
  ·rintro (⟨y,hy,hi⟩|⟨hap,_⟩)
   ·exact .inl ⟨y,hy,by rw [←t2x y hy];exact hi⟩
   ·rw [hax] at hap;cases hap
 obtain ⟨vx2,hpx2,hpox,e4a,e4,T4⟩:=R5 (tm':=Bn tm o.dst vo) (hp1:=hpo'') hax t2x (fun i hi=>((T3 0).far i (hfar i ((hRx i).1 hi)) (hSx i ((hRx i).1 hi))).symm) (fun d hd=>((T3 (d+1)).off d (by omega) (fun e=>ne d hd e) (.inl (hxS d hd))).1.symm) e1
 have hvx:Bn tm x.dst vx=Bn tm x.dst vx2∧hpx'=hpx2:=by
  injection e4a with q1 q2;exact ⟨q1,q2⟩
 obtain ⟨hvx,rfl⟩:=hvx;obtain ⟨_,hq1,hq2,e5a,e5b,T5⟩:=R5 (tm':=Bn tm x.dst vx) (hp1:=hpx') hao (fun _ _=>rfl) (fun _ _=>rfl) (fun _ _=>rfl) e2
 have hq:hq1=hpxo:=by injection e5a with _ q1;exact q1.symm
 subst hq;obtain ⟨_,hu1,hu2,e6a,e6b,T6⟩:=R5 (tm':=Bn tm o.dst vo) (hp1:=hpo'') hax (fun _ _=>rfl) (fun _ _=>rfl) (fun _ _=>rfl) e4
 have hu:hu1=hpox:=by injection e6a with _ q1;exact q1.symm
 subst hu
 have hmem:hq1=hu1:=by
  funext i
  by_cases hi:X7 o tm hp i∨o.dst=some i
  ·have hxi:¬X7 x tm hp i:=by
    rcases hi with hi|hi
    ·exact fun hR=>hfar i hR hi
    ·exact hoS i hi
   have hdi:x.dst≠some i:=by
    rcases hi with hi|hi
    ·exact fun e=>hxS i e hi
    ·exact fun e=>ne i e hi
   rw [(T2 0).same i ((T1 (i+1)).off i (by omega) hdi (.inl hxi)).1]
   exact ((T6 (i+1)).off i (by omega) hdi (.inl fun hR=>hxi ((hRx i).1 hR))).1.symm
  ·have hoi:¬X7 o tm hp i:=fun e=>hi (.inl e)
   have hdi:o.dst≠some i:=fun e=>hi (.inr e)
   rw [((T5 (i+1)).off i (by omega) hdi (.inl fun hR=>hoi ((hRo i).1 hR))).1]
   exact (T4 0).same i ((T3 (i+1)).off i (by omega) hdi (.inl hoi)).1.symm
 refine Vw (s1:=⟨Bn tm o.dst vo,hpo''⟩) (by rw [Ip ho];exact e3) ?_
 refine Vw (s1:=⟨Bn (Bn tm o.dst vo) x.dst vx2,hu1⟩) (by rw [Ip (by rw [←Ho t2];exact hx)];exact e4) ?_
 rw [←Kw ne,←hvx,←hmem];exact h
theorem AX (hM:Sb C P o.op=true){i:Nat}(h:X7 o s.tm s.hp i):i∈M0 C P s o:=by
 unfold M0;rw [hM];cases hA:Ov o.op
 ·simp only [Bool.not_false,Bool.and_self,cond_true,List.mem_append];rcases h with ⟨y,hy,hi⟩|⟨_,id,c,⟨y,hy,hi⟩,hc,p,hp,hk⟩
  ·exact .inl (List.mem_flatMap.2 ⟨y,hy,hi⟩)
  ·refine .inr (List.mem_flatMap.2 ⟨id,List.mem_flatMap.2 ⟨y,hy,hi⟩,?_⟩);rw [hc];exact List.mem_flatMap.2 ⟨p,hp,hk⟩
 ·simp only [Bool.not_true,Bool.and_false,cond_false,Bool.or_true,cond_true];rcases h with ⟨y,hy,hi⟩|⟨hn,_⟩
  ·exact List.mem_flatMap.2 ⟨y,hy,hi⟩
  ·rw [hA] at hn;cases hn
theorem GU (hl:Sb C P o.op=true∨Va P o.op=true){y:Operand}(hy:y∈o.op.operands.toList){i:Nat}(h:i∈Bq (Ch s.tm y)):i∈M0 C P s o:=by
 rcases hl with hM|hl
 ·exact AX hM (.inl ⟨y,hy,h⟩)
 ·unfold M0;rw [Ko hl,hl];exact List.mem_flatMap.2 ⟨y,hy,h⟩
theorem VJ (ht:∀t∈looks ops o,s1.tm t=s.tm t)(hh:Sb C P o.op=true->Ov o.op=false->∀y∈o.op.operands.toList,∀i∈Bq (Ch s.tm y),s1.hp i=s.hp i):M0 C P s1 o=M0 C P s o:=by
 have he:=Fu (ops:=ops) (o:=o) ht
 have hl:(o.op.operands.toList.flatMap fun y=>Bq (Ch s1.tm y))=o.op.operands.toList.flatMap fun y=>Bq (Ch s.tm y):=by
  have hgen:∀l:List Operand,(∀y∈l,Ch s1.tm y=Ch s.tm y)->(l.flatMap fun y=>Bq (Ch s1.tm y))=l.flatMap fun y=>Bq (Ch s.tm y):=by
   intro l
   induction l with
   |nil=>intro _;rfl
   |cons a l ih=>intro h;simp only [List.flatMap_cons];rw [h a (by simp),ih fun y hy=>h y (by simp [hy])]
  exact hgen _ he
 unfold M0;simp only [hl];cases hM:(Sb C P o.op && !Ov o.op)
 ·rfl
 ·simp only [cond_true];simp only [Bool.and_eq_true,Bool.not_eq_true'] at hM
  congr 1
  have hgen:∀l:List Nat,(∀i∈l,s1.hp i=s.hp i)->(l.flatMap fun i=>match s1.hp i with|some (.st c)=>c.flatMap At|_=>[])=l.flatMap fun i=>match s.hp i with|some (.st c)=>c.flatMap At|_=>[]:=by
   intro l
   induction l with
   |nil=>intro _;rfl
   |cons a l ih=>intro h;simp only [List.flatMap_cons];rw [h a (by simp),ih fun y hy=>h y (by simp [hy])]
  exact hgen _ fun i hi=>by
   obtain ⟨y,hy,hi⟩:=List.mem_flatMap.1 hi;exact hh hM.1 hM.2 y hy i hi
theorem BB {a b:List Nat}(h:Aen a b=true){i:Nat}(ha:i∈a)(hb:i∈b):False:=by
 have:=List.all_eq_true.1 h i ha;have h2:b.any (Nat.beq i)=true:=List.any_eq_true.2 ⟨i,hb,Nat.beq_refl i⟩;rw [h2] at this;cases this
theorem Acm {a b:List Nat}(h:Aen a b=true):Aen b a=true:=by
 refine List.all_eq_true.2 fun i hi=>?_
 cases hc:a.any (Nat.beq i)
 ·rfl
 ·obtain ⟨j,hj,e⟩:=List.any_eq_true.1 hc;rw [Nat.eq_of_beq_eq_true e] at hi;exact (BB h hj hi).elim
theorem Xk:Kd C P x o=Kd C P o x:=by
 unfold Kd;cases Sb C P x.op<;>cases Sb C P o.op<;>cases Va P x.op<;>cases Va P o.op<;>cases Ov x.op<;>cases Ov o.op<;>rfl
structure Mr (C:Hb) (P:Program) (ops:Array Oper) (x o:Oper):Prop where
 xo:∀d,x.dst=some d->d ∉ looks ops o
 ne:∀d,x.dst=some d->o.dst≠some d
 ox:∀d,o.dst=some d->d ∉ looks ops x
 me:Sw C P x o=false∨Kd C P x o=true
theorem Aei (h:Aic C P ops x o=false):Mr C P ops x o:=by
 unfold Aic at h;simp only [Bool.or_eq_false_iff] at h;obtain ⟨h1,h2⟩:=h;have hT:=h1;unfold Ag4 at h1;simp only [Bool.or_eq_false_iff] at h1
 have a1:HF C P ops x o=false∨Sw C P x o=true:=by
  cases hc:Sw C P x o
  ·left;unfold HF;unfold Sw at hc;simp only [Bool.or_eq_false_iff] at hc ⊢;exact ⟨⟨⟨h1.1,h1.2⟩,hc.1⟩,hc.2⟩
  ·exact .inr rfl
 refine ⟨fun d hd=>?_,fun d hd he=>?_,fun d hd=>?_,?_⟩
 ·have:=h1.1;simp only [hd,Bool.or_eq_false_iff] at this;exact So this.1
 ·have:=h1.1;simp only [hd,he,Bool.or_eq_false_iff] at this;rw [Nat.beq_refl] at this;cases this.2
 ·have:=h1.2;simp only [hd] at this;exact So this
 ·cases hc:Sw C P x o
  ·exact .inl rfl
  ·rw [hc] at h2;right
   simpa using h2
theorem Mr.apart (ap:Mr C P ops x o)(h:Sw C P x o=false):AL C P ops x o:=by
 unfold Sw at h;simp only [Bool.or_eq_false_iff,Bool.and_eq_false_iff] at h;refine ⟨ap.xo,ap.ne,ap.ox,fun hm=>?_,fun hm=>?_⟩
 ·rcases h.1 with h|h
  ·rw [hm] at h;cases h
  ·exact h
 ·rcases h.2 with h|h
  ·rw [hm] at h;cases h
  ·exact h
theorem Mr.same (ap:Mr C P ops x o)(hk:PC P x s s1)(hl:Va P x.op=true->s1.hp=s.hp)(hM:Sb C P o.op=true)(hA:Ov o.op=false){i:Nat}(hi:s.hp i≠none):s1.hp i=s.hp i:=by
 rcases ap.me with h|h
 ·exact hk.2.2 ((ap.apart h).mo hM) i hi
 ·unfold Kd at h;rw [hA] at h;simp only [Bool.and_false,Bool.or_false,Bool.or_eq_true,Bool.and_eq_true] at h;rcases h with h|h
  ·have:=h.2;rw [Ko (C:=C) (P:=P) this] at hM;cases hM
  ·rw [hl h.2]
theorem XD.keepsS (h:XD C P o s)(ap:Mr C P ops x o)(hk:PC P x s s1)(hl:Va P x.op=true->s1.hp=s.hp):XD C P o s1:=by
 have hop:∀y∈o.op.operands.toList,Ch s1.tm y=Ch s.tm y:=fun y hy=>Fu (ops:=ops) (o:=o) (fun t ht=>hk.1 t fun hd=>ap.xo t hd ht) y hy
 refine ⟨fun y hy i hi=>?_,fun hM hA y hy i hi c hc p hp k hkk=>?_⟩
 ·rw [hop y hy] at hi;exact hk.2.1 i (h.1 y hy i hi)
 ·rw [hop y hy] at hi;rw [ap.same hk hl hM hA (h.1 y hy i hi)] at hc;exact hk.2.1 k (h.2 hM hA y hy i hi c hc p hp k hkk)
theorem Mr.symm (ap:Mr C P ops x o):Mr C P ops o x:=by
 refine ⟨ap.ox,fun d hd he=>ap.ne d he hd,ap.xo,?_⟩
 rcases ap.me with h|h
 ·left;unfold Sw at h ⊢;rw [Bool.or_comm];exact h
 ·right;rw [Xk];exact h
theorem Asl (hw:XD C P o s)(hwx:Kd C P x o=true->∀i∈M0 C P s x,s.hp i≠none)(ap:Mr C P ops x o)(hd:Kd C P x o=true->Aen (M0 C P s x) (M0 C P s o)=true)
  (h:Dk C P N call ops x s (fun s1=>Dk C P N call ops o s1 K)=some r):Dk C P N call ops o s (fun s1=>Dk C P N call ops x s1 K)=some r:=by
 rcases ap.me with hm|hm
 ·exact As1 hw (ap.apart hm) h
 ·have hd:=hd hm;have hwx:=hwx hm;cases hx:Hc C P ops x s.tm
  ·cases ho:Hc C P ops o s.tm
   ·exact Aaq hw ap.xo ap.ne ap.ox hx ho h
   ·have hMo:=Uv ho
    have hlx:MH P ops x s.tm:=by
     cases hl:Va P x.op
     ·right
      have hMx:Sb C P x.op=true:=by
       unfold Kd at hm;simp only [hl,Bool.and_false,Bool.or_false,Bool.or_eq_true,Bool.and_eq_true] at hm;rcases hm with hm|hm
       ·exact hm.1
       ·exact RG hm.1
      cases hv:Gb ops x s.tm with
      |none=>
       exfalso;rw [Kz hx] at h;unfold gE at h;rw [hv] at h;cases h
      |some b=>
       cases b
       ·rfl
       ·unfold Hc at hx;rw [hMx,hv] at hx;cases hx
     ·exact .inl hl
    refine Aje ap.xo ap.ne ap.ox hlx (fun y hy i hi hR=>?_) ho h
    refine BB hd (GU ?_ hy hi) (AX hMo hR);unfold Kd at hm;simp only [Bool.or_eq_true,Bool.and_eq_true] at hm;rcases hm with (hm|hm)|hm
    ·exact .inl hm.1
    ·exact .inr hm.2
    ·exact .inl (RG hm.1)
  ·have hMx:=Uv hx;cases ho:Hc C P ops o s.tm
   ·have hlo:MH P ops o s.tm:=by
     cases hl:Va P o.op
     ·right
      have hMo:Sb C P o.op=true:=by
       unfold Kd at hm;simp only [hl,Bool.and_false,Bool.false_or,Bool.or_eq_true,Bool.and_eq_true] at hm;rcases hm with hm|hm
       ·exact hm.1
       ·exact RG hm.2
      cases hv:Gb ops o s.tm with
      |none=>
       exfalso;obtain ⟨s1,_,hk,_,h⟩:=Pe h;have hv1:Gb ops o s1.tm=none:=by rw [Lh (fun t ht=>hk.1 t fun hd=>ap.xo t hd ht)];exact hv
       rw [Kz (by unfold Hc;rw [hv1];cases Sb C P o.op<;>rfl)] at h
       unfold gE at h;rw [hv1] at h;cases h
      |some b=>
       cases b
       ·rfl
       ·unfold Hc at ho;rw [hMo,hv] at ho;cases ho
     ·exact .inl hl
    refine Ajq hw ap.xo ap.ne ap.ox hlo (fun y hy i hi hR=>?_) hx h
    refine BB hd (AX hMx hR) (GU ?_ hy hi);unfold Kd at hm;simp only [Bool.or_eq_true,Bool.and_eq_true] at hm;rcases hm with (hm|hm)|hm
    ·exact .inr hm.2
    ·exact .inl hm.1
    ·exact .inl (RG hm.2)
   ·have hMo:=Uv ho;unfold Kd at hm;simp only [Bool.or_eq_true,Bool.and_eq_true] at hm;rcases hm with (hm|hm)|hm
    ·rw [Ko (C:=C) (P:=P) hm.2] at hMo;cases hMo
    ·rw [Ko (C:=C) (P:=P) hm.2] at hMx;cases hMx
    ·exact Ale hw (fun y hy i hi=>hwx i (GU (.inl hMx) hy hi)) ap.xo ap.ne ap.ox hm.1 hm.2 (fun i h1 h2=>BB hd (AX hMx h1) (AX hMo h2)) hx ho h
theorem Afu {α:Type}(a b:α)(l:List α)(f:α->Bool):(a::b::l).all f=(b::a::l).all f:=by
 simp only [List.all_cons];cases f a<;>cases f b<;>rfl
theorem FE {bs:List (List Nat)}:∀(l:List Nat){dn dn':List (Nat × Oper × List Nat)} {s:St}{K:St->Option R},(∀f,dn.all f=dn'.all f)->Ib C P N call ops bs dn l s K=Ib C P N call ops bs dn' l s K
 |[],_,_,_,_,_=>rfl
 |i::l,dn,dn',s,K,h=>by
  unfold Ib;cases ops[i]? with
  |none=>rfl
  |some o=>
   simp only [Ep,h]
   congr 2
   funext s'
   exact FE l fun f=>by simp only [List.all_cons,h]
theorem JG {bs:List Nat}{i:Nat}(hi:ops[i]?=some o):(FO C P ops bs).getD i []=AB C P ops bs i o:=by
 unfold FO;rw [List.getD_eq_getElem?_getD,List.getElem?_map,List.getElem?_zipIdx,Array.getElem?_toList,hi];simp
theorem S1 {bs:List Nat}{i j:Nat}:j∈AB C P ops bs i o↔∃x,ops[j]?=some x∧Kd C P x o=true∧(Nat.blt j i&&(bs.getD i 0).testBit j)=false∧(Nat.blt i j&&(bs.getD j 0).testBit i)=false:=by
 unfold AB;simp only [List.mem_map,List.mem_filter,Bool.and_eq_true,Bool.not_eq_true',Prod.exists];constructor
 ·rintro ⟨x,k,⟨hm,⟨h1,h2⟩,h3⟩,rfl⟩
  rw [List.mem_zipIdx_iff_getElem?] at hm;exact ⟨x,by simpa using hm,h1,h2,h3⟩
 ·rintro ⟨x,hx,h1,h2,h3⟩
  refine ⟨x,j,⟨?_,⟨h1,h2⟩,h3⟩,rfl⟩;rw [List.mem_zipIdx_iff_getElem?]
  simpa using hx
theorem GT {sm:List (List Nat)} {i j:Nat}(h:j∈sm.getD i []):GC C P sm s i o=M0 C P s o:=by
 unfold GC;split
 ·rename_i e;rw [e] at h;simp at h
 ·rfl
theorem Ag9 {sm:List (List Nat)} {i:Nat}(h:sm.getD i []≠[]->M0 C P s1 o=M0 C P s o):GC C P sm s1 i o=GC C P sm s i o:=by
 unfold GC;split
 ·rfl
 ·rename_i e;exact h (by rw [e];simp)
theorem Aa6 {l:List Nat}{j:Nat}:l.any (Nat.beq j)=true↔j∈l:=by
 constructor
 ·intro h;obtain ⟨k,hk,e⟩:=List.any_eq_true.1 h;rw [Nat.eq_of_beq_eq_true e];exact hk
 ·intro h;exact List.any_eq_true.2 ⟨j,h,Nat.beq_refl j⟩
theorem AN {bs:List Nat}{sm:List (List Nat)} (hsm:sm=FO C P ops bs){i:Nat}(hi:ops[i]?=some o) {l':List Nat}:∀(l:List Nat){dn:List (Nat × Oper × List Nat)} {s:St}{K:St->Option R},XD C P o s ->
  (∀j∈l,j<i∧(bs.getD i 0).testBit j=false∧∀x,ops[j]?=some x->Mr C P ops x o)->Ib C P N call ops sm dn (l++i::l') s K=some r ->
  dn.all (MB C P sm s i o)=true∧Dk C P N call ops o s (fun s1=>Ib C P N call ops sm ((i,o,GC C P sm s i o)::dn) (l++l') s1 K)=some r
 |[],dn,s,K,hw,_,h=>by
  simp only [List.nil_append] at h ⊢;unfold Ib at h;rw [hi] at h;simp only [Ep] at h;obtain ⟨hb,h⟩:=Aq h;simp only [Bool.and_eq_true] at hb;exact ⟨hb.1,h⟩
 |j::l,dn,s,K,hw,hl,h=>by
  simp only [List.cons_append] at h ⊢;unfold Ib at h;obtain ⟨hji,hbit,hap⟩:=hl j (by simp)
  cases hj:ops[j]? with
  |none=>rw [hj] at h;cases h
  |some x=>
   rw [hj] at h;simp only [Ep] at h;obtain ⟨hb,h⟩:=Aq h;simp only [Bool.and_eq_true] at hb;have ap:=hap x hj
   have hex:∀k∈GC C P sm s j x,s.hp k≠none:=fun k hk=>by
    have:=List.all_eq_true.1 hb.2 k hk;intro e;rw [e] at this;cases this
   obtain ⟨s1,e1,hk1,hl1,h1⟩:=Pe h;obtain ⟨ha,h2⟩:=AN hsm hi l (hw.keepsS ap hk1 hl1) (fun k hk=>hl k (by simp [hk])) h1
   have hr1':M0 C P s1 o=M0 C P s o:=VJ (ops:=ops) (fun t ht=>hk1.1 t fun hd=>ap.xo t hd ht) fun hM hA y hy k hk=>ap.same hk1 hl1 hM hA (hw.1 y hy k hk)
   have hr1:GC C P sm s1 i o=GC C P sm s i o:=Ag9 fun _=>hr1'
   rw [List.all_cons,Bool.and_eq_true] at ha
   have hji':Nat.blt i j=false:=by
    cases hh:Nat.blt i j
    ·rfl
    ·have:=Nat.le_of_ble_eq_true hh;omega
   have hmi:Kd C P x o=true->j∈sm.getD i []:=fun hs=>by
    rw [hsm,JG hi];exact S1.2 ⟨x,hj,hs,by rw [hbit,Bool.and_false],by rw [hji',Bool.false_and]⟩
   have hmj:Kd C P x o=true->i∈sm.getD j []:=fun hs=>by
    rw [hsm,JG hj];exact S1.2 ⟨o,hi,by rw [Xk];exact hs,by rw [hji',Bool.false_and],by rw [hbit,Bool.and_false]⟩
   have hsoft:Kd C P x o=true->Aen (GC C P sm s j x) (GC C P sm s i o)=true:=by
    intro hs;have:=ha.1;unfold MB at this;rw [Aa6.2 (hmi hs),hr1] at this
    simpa using this
   have hok:∀q,MB C P sm s1 i o q=MB C P sm s i o q:=fun q=>by unfold MB;rw [hr1]
   have hall:dn.all (MB C P sm s i o)=true:=by
    refine List.all_eq_true.2 fun q hq=>?_
    rw [←hok];exact List.all_eq_true.1 ha.2 q hq
   refine ⟨hall,?_⟩;rw [hr1] at h2
   have h3:=Asl hw (fun hs k hk=>hex k (by rw [GT (hmj hs)];exact hk)) ap (fun hs=>by have:=hsoft hs;rw [GT (hmj hs),GT (hmi hs)] at this;exact this)
    (Vw (K':=fun s1=>Dk C P N call ops o s1 (fun s2=>Ib C P N call ops sm ((i,o,GC C P sm s i o)::(j,x,GC C P sm s j x)::dn) (l++l') s2 K)) e1 h2)
   obtain ⟨s2,e2,hk2,hl2,h4⟩:=Pe h3;refine Vw e2 ?_
   have hr2:GC C P sm s2 j x=GC C P sm s j x:=Ag9 fun hne=>by
    obtain ⟨q,hq⟩:=List.exists_mem_of_ne_nil _ hne;refine VJ (ops:=ops) (fun t ht=>hk2.1 t fun hd=>ap.ox t hd ht) fun hM hA y hy k hk=>ap.symm.same hk2 hl2 hM hA (hex k ?_)
    rw [GT hq];exact GU (.inl hM) hy hk
   unfold Ib;rw [hj];simp only [Ep]
   have hc:(((i,o,GC C P sm s i o)::dn).all (MB C P sm s2 j x)&&(GC C P sm s2 j x).all fun k=>(s2.hp k).isSome)=true:=by
    simp only [List.all_cons,Bool.and_eq_true];refine ⟨⟨?_,?_⟩,?_⟩
    ·unfold MB;simp only [hr2];cases hs:(sm.getD j []).any (Nat.beq i)
     ·rfl
     ·have hm:=Aa6.1 hs;rw [hsm,JG hj] at hm;obtain ⟨o',ho',hso,_⟩:=S1.1 hm;rw [hi] at ho';cases ho';rw [Xk] at hso;rw [Acm (hsoft hso)];rfl
    ·refine List.all_eq_true.2 fun q hq=>?_
     have:=List.all_eq_true.1 hb.1 q hq;unfold MB at this ⊢;rw [hr2];exact this
    ·rw [hr2];refine List.all_eq_true.2 fun k hk=>?_
     have:=hk2.2.1 k (hex k hk);cases hh:s2.hp k with
     |none=>exact absurd hh this
     |some _=>rfl
   rw [hc,hr2];show Dk C P N call ops x s2 _=some r
   have:(fun s'=>Ib C P N call ops sm ((j,x,GC C P sm s j x)::(i,o,GC C P sm s i o)::dn) (l++l') s' K)=fun s2=>Ib C P N call ops sm ((i,o,GC C P sm s i o)::(j,x,GC C P sm s j x)::dn) (l++l') s2 K:=by
    funext s'
    exact FE _ fun f=>Afu _ _ _ f
   rw [this];exact h4
end
section
variable {R:Type} {r:R} {P:Program} {N:Nat} {w0:World} {X0:E5} {Y:Nat->Prop} {β β':Bt} {s:St} {a:Act} {w w':World} {o:Oper} {ops:Array Oper} {C:Hb} {call:Ai} {K:St->Option R}
theorem Wz {bs:List Nat}:∀(l:List Oper)(n:Nat),Zq C P ops bs l n=true->∀(k:Nat) o,l[k]?=some o->∀(j:Nat) x,ops[j]?=some x->j<n+k->Aic C P ops x o=true->(bs.getD (n+k) 0).testBit j=true
 |[],_,_,k,o,ho,_,_,_,_,_=>by simp at ho
 |o'::l,n,h,k,o,ho,j,x,hx,hj,hcl=>by
  simp only [Zq,Bool.and_eq_true] at h;cases k with
  |zero=>
   simp at ho;subst ho
   have:=List.all_eq_true.1 h.1 (x,j) (by
    rw [List.mem_zipIdx_iff_getElem?]
    simpa using hx)
   simp only [hcl,Bool.not_true,Bool.or_false,Bool.or_eq_true,Bool.not_eq_true'] at this;rcases this with h'|h'
   ·have:Nat.blt j n=true:=Nat.ble_eq_true_of_le (by omega)
    rw [this] at h';cases h'
   ·exact h'
  |succ k=>
   have:=Wz l (n+1) h.2 k o (by simpa using ho) j x hx (by omega) hcl
   rwa [show n+(k+1)=n+1+k by omega]
theorem SC {G:Ua}(hNG:HC P G w0 X0)(hcall:∀f args res,call f args=some res->C6 G P f args res)(hok:HW C P ops=true){Q:Exit->Act->World->Prop}(hQ:∀s' a' w' β',K s'=some r->Bu N w0 X0 Y β' s' a' w'->Q .normal a' w'):
  ∀(fuel:Nat) {dn:List (Nat × Oper × List Nat)} {listed:Array Bool} {s:St} {a:Act} {w:World} {β:Bt},HeadInv .any ops ops.size listed->(Nn ops.size listed).length=fuel->Bu N w0 X0 Y β s a w->Ib C P N call ops (FO C P ops (Il ops.toList [])) dn (Nn ops.size listed) s K=some r->wpAny P .any ops Q fuel listed a w:=by
 unfold HW at hok;simp only [Bool.and_eq_true] at hok;obtain ⟨hok1,hok2⟩:=hok;intro fuel
 induction fuel with
 |zero=>
  intro dn listed s a w β inv hf h hk;have hp:=List.eq_nil_of_length_eq_zero hf;rw [hp] at hk;refine ⟨?_,hQ s a w β hk h⟩;cases hr:Region.ready .any ops listed with
  |nil=>rfl
  |cons i l=>
   exfalso;have hi:i∈Region.ready .any ops listed:=by rw [hr];simp
   obtain ⟨hun,o,ho,_⟩:=mem_ready.1 hi;have:i∈Nn ops.size listed:=Jt.2 ⟨(Array.getElem?_eq_some_iff.1 ho).1,hun⟩;rw [hp] at this;simp at this
 |succ fuel ih=>
  intro dn listed s a w β inv hf h hk;refine ⟨fun hr=>?_,fun i hi=>?_⟩
  ·rw [OU hok1 inv hr] at hf;cases hf
  ·obtain ⟨hun,o,ho,hall⟩:=mem_ready.1 hi;have hlt:i<ops.size:=(Array.getElem?_eq_some_iff.1 ho).1;obtain ⟨l1,l2,h1,h2,h3⟩:=Xr (Jt.2 ⟨hlt,hun⟩) inv.size;rw [h1] at hk
   have hnb:∀j∈l1,((Il ops.toList []).getD i 0).testBit j=false:=by
    intro j hj;cases hbit:((Il ops.toList []).getD i 0).testBit j with
    |false=>rfl
    |true=>
     exfalso;have hjl:=Sy (listed:=listed) (fun j oj hj hl=>inv.closed j oj hj hl) ops.toList [] [] (by simp) rfl (by simp) i o ho hall j hbit
     have:j∈Nn ops.size listed:=by rw [h1];simp [hj]
     have:=getD_both (Jt.1 this).2;rw [hjl] at this;cases this
   have hap:∀j∈l1,j<i∧((Il ops.toList []).getD i 0).testBit j=false∧∀x,ops[j]?=some x->Mr C P ops x o:=by
    intro j hj;refine ⟨h3 j hj,hnb j hj,fun x hxj=>Aei ?_⟩
    cases hcl:Aic C P ops x o with
    |false=>rfl
    |true=>
     exfalso;have hbit:=Wz ops.toList 0 hok2 i o (by simpa using ho) j x hxj (by have:=h3 j hj;omega) hcl
     rw [Nat.zero_add,hnb j hj] at hbit;cases hbit
   obtain ⟨s',hs',hn⟩:=Xz h hNG hcall ho (AN rfl ho l1 (Afm h o) hap hk).2;refine hn _ _ fun a' w' β' h'=>ih (dn:=(i,o,GC C P (FO C P ops (Il ops.toList [])) s i o)::dn) (inv.set hi hlt) ?_ h' ?_
   ·rw [h2];rw [h1] at hf;simp at hf ⊢;omega
   ·rw [h2];exact hs'
theorem Tf (h:Bu N w0 X0 Y β s a w){G:Ua}(hNG:HC P G w0 X0)(hcall:∀f args res,call f args=some res->C6 G P f args res)(hm:P.follows .mixedOrders=true)(hok:HW C P ops=true){Q:Exit->Act->World->Prop}
  (hk:Ib C P N call ops (FO C P ops (Il ops.toList [])) [] (List.range ops.size) s K=some r) (hQ:∀s' a' w' β',K s'=some r->Bu N w0 X0 Y β' s' a' w'->Q .normal a' w'):wpAny P .any ops Q ops.size (Array.replicate ops.size false) a { w with drawn:=w.drawn+1 }:=by
 have hp:Nn ops.size (Array.replicate ops.size false)=List.range ops.size:=by
  unfold Nn;refine List.filter_eq_self.2 fun i hi=>?_
  have:=List.mem_range.1 hi;simp [this]
 refine SC (C:=C) (dn:=[]) hNG hcall hok hQ ops.size ⟨by simp,fun j oj _ hl=>(by rw [getD_replicate_false] at hl;cases hl),fun t ht ht'=>by omega⟩ (by rw [hp];simp) h.drew ?_
 rw [hp];exact hk
theorem UA (h:Bu N w0 X0 Y β s a w){G:Ua}(hNG:HC P G w0 X0)(hcall:∀f args res,call f args=some res->C6 G P f args res)(hm:P.follows .mixedOrders=true)(hok:HW C P ops=true){id:Nat}{Q:Exit->Act->World->Prop}
  (hk:Ib C P N call ops (FO C P ops (Il ops.toList [])) [] (List.range ops.size) s K=some r) (hQ:∀s' a' w' β',K s'=some r->Bu N w0 X0 Y β' s' a' w'->Q .normal a' w'):(Code.region id ops true).wp P Q a w:=
 wp_region_any hm (Tf h hNG hcall hm hok hk hQ)
end
open Go.RowKit
section
variable {R:Type} {r:R} {N:Nat} {w0:World} {X0:E5} {Y:Nat->Prop} {β β':Bt} {s:St} {a:Act} {w w':World}
theorem Afp {i:Nat}(hi:i<a.tmps.size):a.put (some i) (a.tmps.getD i undef)=a:=by
 obtain ⟨tmps,dfr⟩:=a;change i<tmps.size at hi
 have:tmps.setIfInBounds i (tmps.getD i undef)=tmps:=by
  apply Array.ext_getElem?;intro k;by_cases e:i=k
  ·subst e;simp [hi]
  ·rw [Array.getElem?_setIfInBounds_ne e]
 simp only [Act.put,this]
theorem Ab9 {A:Nat->Prop}{es:Nat}{v:Value}(h:A5 w A (.lst true es 0 []) v):v=.slice none 0 0:=by
 cases h;rfl
theorem Abn {id:Nat}(hid:s.hp id=none){v:PV}{val:Value}(hv:Dp w (Cw (Az s.hp [(id,.ar false [])]) (Ct β id none) Y) (Ct β id none) v val) (hr:∀i∈Bq v,s.hp i≠none∨i=id):
  OM Y β s w v [(id,.ar false [])] val w (Ct β id none):=by
 refine ⟨rfl,rfl,rfl,B7.refl _ _,fun j hj=>Ao _ _ (by rintro rfl;exact hj hid),?_,?_,?_,?_,?_,hv,?_⟩
 ·intro j bx hm;simp at hm;rw [hm.2];trivial
 ·intro j bx hm;simp at hm;obtain ⟨rfl,rfl⟩:=hm;exact .inl ⟨As _ _ _,rfl⟩
 ·intro j bx k q hm hq;simp at hm;obtain ⟨rfl,rfl⟩:=hm;rw [As] at hq;cases hq
 ·intro j bx j' bx' k q q' hm hm' _ _;simp at hm hm';rw [hm.1,hm'.1]
 ·intro j cells hm;simp at hm
 ·intro j hj;rcases hr j hj with h|rfl
  ·exact .inl h
  ·exact .inr ⟨.ar false [],by simp⟩
theorem MI (h:Bu N w0 X0 Y β s a w)(i:Nat):∃β',Bu N w0 X0 Y β' (GY s i) a w:=by
 unfold GY;split
 ·rename_i es ht;cases hn:(s.hp i).isNone
  ·exact ⟨β,h⟩
  ·have hn:s.hp i=none:=by simpa using hn
   have hlt:i<N:=by
    rcases Nat.lt_or_ge i N with h'|h'
    ·exact h'
    ·rw [h.tmo i h'] at ht;cases ht
   have hv:=h.tms i hlt;rw [ht] at hv;have hv:=Ab9 hv;have hd:Gu N (some i)=true:=by simp [Gu,Nat.blt];omega
   have:=h.stepR (d:=some i) hd (by simp [B3,hn]) (Abn (v:=.view i es 0 0) (val:=.slice none 0 0) hn (.inl ⟨As _ _ _,rfl,rfl,rfl⟩) (by simp [Bq,Cb,At]))
   rw [←hv,Afp (by rw [h.tsz];exact hlt)] at this
   exact ⟨_,this⟩
 ·exact ⟨β,h⟩
theorem Bu.recell (h:Bu N w0 X0 Y β s a w){id:Nat}{c c':List PV}(h0:s.hp id=some (.st c)) (hl:c'.length=c.length)
  (hc:∀(j:Nat) p,c'[j]?=some p->∃q,c[j]?=some q∧(∀v,B9 w (Cw s.hp β Y) β q v->B9 w (Cw s.hp β Y) β p v)∧∀i∈At p,s.hp i≠none):
  Bu N w0 X0 Y β ⟨s.tm,Ct s.hp id (some (.st c'))⟩ a w:=by
 have hlive:∀i,Cd (Ct s.hp id (some (.st c')) i)↔Cd (s.hp i):=by
  intro i;by_cases e:i=id
  ·subst e;rw [As,h0];exact Iff.rfl
  ·rw [Ao _ _ e]
 have hX:Ze (Ct s.hp id (some (.st c'))) β=Ze s.hp β:=by
  funext b
  apply propext;constructor
  ·rintro ⟨i,o,hl,hb⟩;exact ⟨i,o,(hlive i).1 hl,hb⟩
  ·rintro ⟨i,o,hl,hb⟩;exact ⟨i,o,(hlive i).2 hl,hb⟩
 have hA:Cw (Ct s.hp id (some (.st c'))) β Y=Cw s.hp β Y:=by
  funext b;unfold Cw;rw [hX]
 have hne:∀i,s.hp i≠none->Ct s.hp id (some (.st c')) i≠none:=by
  intro i hi;by_cases e:i=id
  ·subst e;rw [As];simp
  ·rw [Ao _ _ e];exact hi
 have hne':∀i,Ct s.hp id (some (.st c')) i≠none->s.hp i≠none:=by
  intro i hi;by_cases e:i=id
  ·subst e;rw [h0];simp
  ·rw [Ao _ _ e] at hi;exact hi
 refine ⟨h.dfr,h.tsz,h.tmo,?_,?_,?_,?_,?_,?_,?_,?_,fun i hi=>⟨hne _ (h.pin i hi).1,(h.pin i hi).2⟩,?_,?_,h.Ylt,h.fr⟩
 ·intro i hi;show Dp w (Cw (Ct s.hp id _) β Y) β _ _;rw [hA];exact h.tms i hi
 ·intro i b hb;show Rj w (Cw (Ct s.hp id _) β Y) β i b;rw [hA];by_cases e:i=id
  ·subst e;change Ct s.hp i (some (.st c')) i=some b at hb;rw [As] at hb;cases hb;obtain ⟨b,o,h1,h2,h3⟩:=h.box i _ h0;refine ⟨b,o,h1,fun j p hj=>?_,fun j hj=>h3 j (by rw [←hl];exact hj)⟩
   obtain ⟨q,hq,hqp,_⟩:=hc j p hj;obtain ⟨v,hv,hr⟩:=h2 j q hq;exact ⟨v,hv,hqp v hr⟩
  ·change Ct s.hp id (some (.st c')) i=some b at hb;rw [Ao _ _ e] at hb;exact h.box i b hb
 ·intro i i' b o o' hl hl' hb hb';exact h.inj i i' b o o' ((hlive i).1 hl) ((hlive i').1 hl') hb hb'
 ·intro i b o hn hb;exact h.blt i b o (hne' i hn) hb
 ·intro i hi j hj;exact hne j (h.wfT i hi j hj)
 ·intro i cells hb p hp j hj;change Ct s.hp id (some (.st c')) i=_ at hb;by_cases e:i=id
  ·subst e;rw [As] at hb;cases hb;obtain ⟨k,hk⟩:=List.mem_iff_getElem?.1 hp;obtain ⟨_,_,_,hr⟩:=hc k p hk;exact hne j (hr j hj)
  ·rw [Ao _ _ e] at hb;exact hne j (h.wfB i cells hb p hp j hj)
 ·intro b hb;exact h.ownd b (by rw [←hX];exact hb)
 ·intro i bx b o hb hlb hβ hlt j hj;change Ct s.hp id (some (.st c')) i=some bx at hb;by_cases e:i=id
  ·subst e;rw [As] at hb;cases hb;exact h.rngB i _ b o h0 trivial hβ hlt j (by unfold BR at hj ⊢;simp only [hl] at hj;exact hj)
  ·rw [Ao _ _ e] at hb;exact h.rngB i bx b o hb hlb hβ hlt j hj
 ·intro i c1 b o hb hβ hlt;change Ct s.hp id (some (.st c')) i=_ at hb;by_cases e:i=id
  ·subst e;exact h.stp i c b o h0 hβ hlt
  ·rw [Ao _ _ e] at hb;exact h.stp i c1 b o hb hβ hlt
 ·intro b hY hb;exact h.Yx b hY (by rw [←hX];exact hb)
theorem MD (h:Bu N w0 X0 Y β s a w)(id j:Nat):∃β',Bu N w0 X0 Y β' (RM N id s j) a w:=by
 unfold RM;split
 ·rename_i c h0;split
  ·rename_i es hj;cases hn:(s.hp (id+N*(j+1))).isNone
   ·exact ⟨β,h⟩
   ·have hn:s.hp (id+N*(j+1))=none:=by simpa using hn
    have hne:id≠id+N*(j+1):=by
     intro e;rw [←e,h0] at hn;cases hn
    have h1:=h.stepR (d:=none) (v:=.top) (val:=undef) rfl (by simp [B3,hn]) (Abn hn (.top _) (by simp [Bq,Cb,At]))
    change Bu N w0 X0 Y (Ct β (id+N*(j+1)) none) ⟨s.tm,Ct s.hp (id+N*(j+1)) (some (.ar false []))⟩ a w at h1
    have h2:=h1.recell (id:=id) (c:=c) (c':=c.set j (.view (id+N*(j+1)) es 0 0)) (by show Ct _ _ _ _=_;rw [Ao _ _ hne];exact h0) (by simp) (by
     intro k p hp;by_cases e:k=j
     ·subst e
      have hlt:k<c.length:=by
       rcases Nat.lt_or_ge k c.length with h'|h'
       ·exact h'
       ·rw [List.getElem?_eq_none h'] at hj;cases hj
      rw [List.getElem?_set_self hlt] at hp;cases hp;refine ⟨_,hj,fun v hv=>.inl ⟨As _ _ _,rfl,rfl,Ab9 hv⟩,fun i hi=>?_⟩
      simp [At] at hi;subst hi;show Ct _ _ _ _≠none;rw [As];simp
     ·rw [List.getElem?_set_ne (fun h=>e h.symm)] at hp
      refine ⟨p,hp,fun _ hv=>hv,fun i hi=>?_⟩
      have:=h.wfB id c h0 p (List.mem_of_getElem? hp) i hi;show Ct _ _ _ _≠none;by_cases e':i=id+N*(j+1)
      ·subst e';rw [As];simp
      ·rw [Ao _ _ e'];exact this)
    refine ⟨Ct β (id+N*(j+1)) none,?_⟩;have e3:Ct (Ct s.hp (id+N*(j+1)) (some (.ar false []))) id (some (.st (c.set j (.view (id+N*(j+1)) es 0 0))))=Ct (Ct s.hp id (some (.st (c.set j (.view (id+N*(j+1)) es 0 0))))) (id+N*(j+1)) (some (.ar false [])):=TG _ _ _ (fun h=>hne h.symm)
    change Bu N w0 X0 Y (Ct β (id+N*(j+1)) none) ⟨s.tm,Ct (Ct s.hp (id+N*(j+1)) (some (.ar false []))) id (some (.st (c.set j (.view (id+N*(j+1)) es 0 0))))⟩ a w at h2;rw [e3] at h2;exact h2
  ·exact ⟨β,h⟩
 ·exact ⟨β,h⟩
theorem P6 {f:St->Nat->St}(hf:∀s β,Bu N w0 X0 Y β s a w->∀i,∃β',Bu N w0 X0 Y β' (f s i) a w):∀(l:List Nat){s:St}{β:Bt},Bu N w0 X0 Y β s a w->∃β',Bu N w0 X0 Y β' (l.foldl f s) a w
 |[],_,β,h=>⟨β,h⟩
 |i::l,s,β,h=>by
  obtain ⟨β1,h1⟩:=hf s β h i;exact P6 hf l h1
theorem SB (h:Bu N w0 X0 Y β s a w)(i:Nat):∃β',Bu N w0 X0 Y β' (QV N s i) a w:=by
 unfold QV;split
 ·split
  ·exact P6 (fun s β h i=>MD h _ i) _ h
  ·exact ⟨β,h⟩
 ·exact ⟨β,h⟩
theorem NO:∀{m:List (Nat × Nat)},Eb (m.map (·.2))=true->∀{i i' j:Nat},(i,j)∈m->(i',j)∈m->i=i'
 |[],_,_,_,_,h,_=>by simp at h
 |(x,y)::m,hn,i,i',j,h,h'=>by
  simp only [List.map_cons,Eb,Bool.and_eq_true,Bool.not_eq_true'] at hn
  have hy:∀k,(k,y) ∉ m:=by
   intro k hk;exact So hn.1 (List.mem_map.2 ⟨(k,y),hk,rfl⟩)
  rcases List.mem_cons.1 h with e|h
  ·cases e;rcases List.mem_cons.1 h' with e|h'
   ·cases e;rfl
   ·exact absurd h' (hy _)
  ·rcases List.mem_cons.1 h' with e|h'
   ·cases e;exact absurd h (hy _)
   ·exact NO hn.2 h h'
theorem BU:∀{m:List (Nat × Nat)},Eb (m.map (·.1))=true->∀{i j j':Nat},(i,j)∈m->(i,j')∈m->j=j'
 |[],_,_,_,_,h,_=>by simp at h
 |(x,y)::m,hn,i,j,j',h,h'=>by
  simp only [List.map_cons,Eb,Bool.and_eq_true,Bool.not_eq_true'] at hn
  have hx:∀k,(x,k) ∉ m:=by
   intro k hk;exact So hn.1 (List.mem_map.2 ⟨(x,k),hk,rfl⟩)
  rcases List.mem_cons.1 h with e|h
  ·cases e;rcases List.mem_cons.1 h' with e|h'
   ·cases e;rfl
   ·exact absurd h' (hx _)
  ·rcases List.mem_cons.1 h' with e|h'
   ·cases e;exact absurd h (hx _)
   ·exact BU hn.2 h h'
theorem Nj {i j:Nat}(h:Nat.beq i j=false):i≠j:=by rintro rfl;rw [Nat.beq_refl] at h;cases h
theorem AD:∀{m:List (Nat × Nat)} {i j:Nat},Wx m i=some j->(i,j)∈m
 |[],_,_,h=>by cases h
 |(x,y)::m,i,j,h=>by
  unfold Wx at h;cases hb:Nat.beq i x<;>rw [hb] at h
  ·exact List.mem_cons_of_mem _ (AD h)
  ·have:=Nat.eq_of_beq_eq_true hb;cases h;rw [this];simp
theorem DA {m:List (Nat × Nat)} {hp:Nat->Option Bk}:∀{l:List (Nat × Nat)} {j:Nat}{b:Bk},B5 (Mx m hp l) j=some b->∃i b0,(i,j)∈l∧hp i=some b0∧b=Akg m b0
 |[],_,_,h=>by cases h
 |(x,y)::l,j,b,h=>by
  unfold Mx at h;cases hx:hp x with
  |none=>
   rw [hx] at h;obtain ⟨i,b0,h1,h2⟩:=DA h;exact ⟨i,b0,List.mem_cons_of_mem _ h1,h2⟩
  |some bx=>
   rw [hx] at h;simp only [B5] at h;cases hb:Nat.beq j y<;>rw [hb] at h
   ·obtain ⟨i,b0,h1,h2⟩:=DA h;exact ⟨i,b0,List.mem_cons_of_mem _ h1,h2⟩
   ·have:=Nat.eq_of_beq_eq_true hb;subst this;cases h;exact ⟨x,bx,by simp,hx,rfl⟩
theorem O2 {m:List (Nat × Nat)} {hp:Nat->Option Bk}:∀{l:List (Nat × Nat)} {i j:Nat},(i,j)∈l->hp i≠none->B5 (Mx m hp l) j≠none
 |[],_,_,h,_=>by simp at h
 |(x,y)::l,i,j,h,hi=>by
  unfold Mx;cases hx:hp x with
  |none=>
   rcases List.mem_cons.1 h with e|h
   ·cases e;exact absurd hx hi
   ·exact O2 h hi
  |some bx=>
   simp only [B5];cases hb:Nat.beq j y
   ·rcases List.mem_cons.1 h with e|h
    ·cases e;exact absurd rfl (Nj hb)
    ·exact O2 h hi
   ·simp
def MQ (m:List (Nat × Nat)) (j:Nat):Option Nat:=
 match m with
 |[]=>none
 |(x,y)::r=>bif Nat.beq j y then some x else MQ r j
theorem Ab3:∀{m:List (Nat × Nat)} {i j:Nat},MQ m j=some i->(i,j)∈m
 |[],_,_,h=>by cases h
 |(x,y)::m,i,j,h=>by
  unfold MQ at h;cases hb:Nat.beq j y<;>rw [hb] at h
  ·exact List.mem_cons_of_mem _ (Ab3 h)
  ·have:=Nat.eq_of_beq_eq_true hb;cases h;rw [this];simp
theorem WL:∀{m:List (Nat × Nat)} {i j:Nat},(i,j)∈m->∃k,MQ m j=some k
 |[],_,_,h=>by simp at h
 |(x,y)::m,i,j,h=>by
  unfold MQ;cases hb:Nat.beq j y
  ·rcases List.mem_cons.1 h with e|h
   ·cases e;exact absurd rfl (Nj hb)
   ·exact WL h
  ·exact ⟨x,rfl⟩
theorem RF {f:Nat->PV}:∀{l:List Nat}{i:Nat},lk (l.map fun i=>(i,f i)) i=if i∈l then f i else .top
 |[],_=>rfl
 |x::l,i=>by
  simp only [List.map_cons,lk];cases hb:Nat.beq i x
  ·have:=Nj hb;simp only [cond_false,RF,List.mem_cons,this,false_or]
  ·have:=Nat.eq_of_beq_eq_true hb;subst this;simp
theorem NM {m:Nat}:∀{n i:Nat},i∈Ms m n->i<n
 |0,_,h=>by simp [Ms] at h
 |n+1,i,h=>by
  simp only [Ms,List.mem_append] at h;rcases h with h|h
  ·have:=NM h;omega
  ·cases hb:m.testBit n<;>rw [hb] at h
   ·simp at h
   ·simp at h;omega
theorem QL (h:Bu N w0 X0 Y β s a w){m:List (Nat × Nat)} (h1:Eb (m.map (·.1))=true) (h2:Eb (m.map (·.2))=true) {ls:List Nat}(hls:∀i∈ls,i<N)(hpn:∀i,X0.pn i->(C2 N i,C2 N i)∈m):
  ∃β',Bu N w0 X0 Y β' ⟨lk (ls.map fun i=>(i,Aey m (s.tm i))),B5 (Mx m s.hp m)⟩ a w:=by
 refine ⟨fun j=>(MQ m j).bind β,?_⟩
 have hβ:∀{i j:Nat},(i,j)∈m->(MQ m j).bind β=β i:=by
  intro i j hm;obtain ⟨k,hk⟩:=WL hm;rw [hk];have:=NO h2 (Ab3 hk) hm;subst this;rfl
 have hold:∀{j:Nat} {b:Bk},B5 (Mx m s.hp m) j=some b->∃i b0,(i,j)∈m∧s.hp i=some b0∧b=Akg m b0∧(MQ m j).bind β=β i:=by
  intro j b hb;obtain ⟨i,b0,hm,h3,h4⟩:=DA hb;exact ⟨i,b0,hm,h3,h4,hβ hm⟩
 have hlive:∀{j:Nat},Cd (B5 (Mx m s.hp m) j)->∃i,(i,j)∈m∧Cd (s.hp i)∧(MQ m j).bind β=β i:=by
  intro j hl;cases hb:B5 (Mx m s.hp m) j with
  |none=>rw [hb] at hl;exact hl.elim
  |some b=>
   obtain ⟨i,b0,hm,h3,rfl,h5⟩:=hold hb;refine ⟨i,hm,?_,h5⟩;rw [hb] at hl;rw [h3];cases b0<;>exact hl
 have hX:∀b,Ze (B5 (Mx m s.hp m)) (fun j=>(MQ m j).bind β) b->Ze s.hp β b:=by
  rintro b ⟨j,o,hl,hb⟩
  obtain ⟨i,_,hl',e⟩:=hlive hl;exact ⟨i,o,hl',by rw [←e];exact hb⟩
 have hA:∀b,Cw (B5 (Mx m s.hp m)) (fun j=>(MQ m j).bind β) Y b->Cw s.hp β Y b:=fun b hb=>hb.imp (hX b) id
 have hC:∀p v,B9 w (Cw s.hp β Y) β p v->B9 w (Cw (B5 (Mx m s.hp m)) (fun j=>(MQ m j).bind β) Y) (fun j=>(MQ m j).bind β) (Aaj m p) v:=by
  intro p v hp;cases p with
  |view id es off n=>
   show B9 _ _ _ (match Wx m id with|some j=>.view j es off n|none=>.top) v
   cases hj:Wx m id with
   |some j=>
    have e:=hβ (AD hj);rcases hp with ⟨e1,e2⟩|⟨b,o,x,cap,e1,e2⟩
    ·exact .inl ⟨by show (MQ m j).bind β=none;rw [e];exact e1,e2⟩
    ·exact .inr ⟨b,o,x,cap,by show (MQ m j).bind β=_;rw [e];exact e1,e2⟩
   |none=>exact A5.top _
  |ptr id off=>
   show B9 _ _ _ (match Wx m id with|some j=>.ptr j off|none=>.top) v
   cases hj:Wx m id with
   |some j=>
    have e:=hβ (AD hj);obtain ⟨b,o,e1,e2⟩:=hp;exact ⟨b,o,by show (MQ m j).bind β=_;rw [e];exact e1,e2⟩
   |none=>exact A5.top _
  |sc v=>exact A5.step (B7.refl _ _) (fun b _=>hA b) hp
  |lst z es n c=>exact A5.step (B7.refl _ _) (fun b _=>hA b) hp
  |iptr c off=>exact B9.step (p:=.iptr c off) (B7.refl _ _) (fun b _=>hA b) (by simp [At]) hp
  |_=>exact A5.top _
 have hV:∀p v,Dp w (Cw s.hp β Y) β p v->Dp w (Cw (B5 (Mx m s.hp m)) (fun j=>(MQ m j).bind β) Y) (fun j=>(MQ m j).bind β) (Aey m p) v:=by
  intro p v hp;cases p with
  |agg c=>
   obtain ⟨vs,e1,e2⟩:=hp;refine ⟨vs,e1,Bj.of_at (by simp;exact e2.len) fun i q u hq hu=>?_⟩
   rw [List.getElem?_map] at hq;cases hc:c[i]? with
   |none=>rw [hc] at hq;cases hq
   |some q0=>
    rw [hc] at hq;cases hq;exact hC _ _ (e2.at_ hc hu)
  |view id es off n=>
   have:=hC (.view id es off n) v hp;change B9 _ _ _ (match Wx m id with|some j=>.view j es off n|none=>.top) v at this
   show Dp _ _ _ (match Wx m id with|some j=>.view j es off n|none=>.top) v
   cases hj:Wx m id<;>rw [hj] at this<;>exact this
  |ptr id off=>
   have:=hC (.ptr id off) v hp;change B9 _ _ _ (match Wx m id with|some j=>.ptr j off|none=>.top) v at this
   show Dp _ _ _ (match Wx m id with|some j=>.ptr j off|none=>.top) v
   cases hj:Wx m id<;>rw [hj] at this<;>exact this
  |sc v'=>exact hC (.sc v') v hp
  |lst z es n c=>exact hC (.lst z es n c) v hp
  |iptr c off=>exact hC (.iptr c off) v hp
  |_=>exact A5.top _
 have hrC:∀p i,i∈At (Aaj m p)->∃k∈At p,(k,i)∈m:=by
  intro p i hi;cases p with
  |view id es off n=>
   change i∈At (match Wx m id with|some j=>.view j es off n|none=>.top) at hi
   cases hj:Wx m id<;>rw [hj] at hi
   ·simp [At] at hi
   ·simp [At] at hi;subst hi;exact ⟨id,by simp [At],AD hj⟩
  |ptr id off=>
   change i∈At (match Wx m id with|some j=>.ptr j off|none=>.top) at hi
   cases hj:Wx m id<;>rw [hj] at hi
   ·simp [At] at hi
   ·simp [At] at hi;subst hi;exact ⟨id,by simp [At],AD hj⟩
  |_=>simp [Aaj,At] at hi
 have hrV:∀p i,i∈Bq (Aey m p)->∃k∈Bq p,(k,i)∈m:=by
  intro p i hi;cases p with
  |agg c=>
   simp only [Aey,Bq,Cb,List.mem_flatMap,List.mem_map] at hi;obtain ⟨_,⟨q,hq,rfl⟩,hi⟩:=hi;obtain ⟨k,hk,hm⟩:=hrC q i hi;exact ⟨k,by simp only [Bq,Cb,List.mem_flatMap];exact ⟨q,hq,hk⟩,hm⟩
  |view id es off n=>
   refine (hrC (.view id es off n) i ?_).imp fun k hk=>hk
   change i∈Bq (match Wx m id with|some j=>.view j es off n|none=>.top) at hi
   show i∈At (match Wx m id with|some j=>.view j es off n|none=>.top)
   cases hj:Wx m id<;>rw [hj] at hi<;>exact hi
  |ptr id off=>
   refine (hrC (.ptr id off) i ?_).imp fun k hk=>hk
   change i∈Bq (match Wx m id with|some j=>.ptr j off|none=>.top) at hi
   show i∈At (match Wx m id with|some j=>.ptr j off|none=>.top)
   cases hj:Wx m id<;>rw [hj] at hi<;>exact hi
  |_=>simp [Aey,Aaj,Bq,Cb,At] at hi
 refine ⟨h.dfr,h.tsz,?_,?_,?_,?_,?_,?_,?_,?_,?_,?_,?_,?_,h.Ylt,h.fr⟩
 ·intro i hi;show lk _ i=_;rw [RF,if_neg (fun hm=>by have:=hls i hm;omega)]
 ·intro i hi;show Dp w _ _ (lk _ i) _;rw [RF];split
  ·exact hV _ _ (h.tms i hi)
  ·exact A5.top _
 ·intro j b hb;obtain ⟨i,b0,hm,h3,rfl,e⟩:=hold hb;have hbx:=h.box i b0 h3;cases b0 with
  |st c=>
   obtain ⟨b,o,e1,e2,e3⟩:=hbx;refine ⟨b,o,by show (MQ m j).bind β=_;rw [e];exact e1,fun k p hp=>?_,fun k hk=>e3 k (by simpa using hk)⟩
   rw [List.getElem?_map] at hp;cases hc:c[k]? with
   |none=>rw [hc] at hp;cases hp
   |some q=>
    rw [hc] at hp;cases hp;obtain ⟨v,hv,hr⟩:=e2 k q hc;exact ⟨v,hv,hC _ _ hr⟩
  |ar fz c=>
   have:=Rj.step' hA hbx;show Rj _ _ _ _ (.ar fz c);rcases this with ⟨e1,e2⟩|⟨b,o,e1,e2⟩
   ·exact .inl ⟨by show (MQ m j).bind β=_;rw [e];exact e1,e2⟩
   ·exact .inr ⟨b,o,by show (MQ m j).bind β=_;rw [e];exact e1,e2⟩
  |mv=>exact trivial
 ·intro j j' b o o' hl hl' hb hb';obtain ⟨i,hm,hl1,e⟩:=hlive hl;obtain ⟨i',hm',hl1',e'⟩:=hlive hl';have:=h.inj i i' b o o' hl1 hl1' (by rw [←e];exact hb) (by rw [←e'];exact hb')
  subst this;exact BU h1 hm hm'
 ·intro j b o hn hb;cases hj:B5 (Mx m s.hp m) j with
  |none=>exact absurd hj hn
  |some bx=>
   obtain ⟨i,b0,_,h3,_,e⟩:=hold hj;exact h.blt i b o (by rw [h3];simp) (by rw [←e];exact hb)
 ·intro i hi j hj;change j∈Bq (lk _ i) at hj;rw [RF] at hj;split at hj
  ·obtain ⟨k,hk,hm⟩:=hrV _ j hj;exact O2 hm (h.wfT i hi k hk)
  ·simp [Bq,Cb,At] at hj
 ·intro j cells hb p hp k hk;obtain ⟨i,b0,_,h3,h4,_⟩:=hold hb;cases b0 with
  |st c=>
   cases h4;obtain ⟨q,hq,rfl⟩:=List.mem_map.1 hp;obtain ⟨k',hk',hm⟩:=hrC q k hk;exact O2 hm (h.wfB i c h3 q hq k' hk')
  |ar fz c=>cases h4
  |mv=>cases h4
 ·intro b hb;exact h.ownd b (hX b hb)
 ·intro j bx b o hb hlb hβ1 hlt k hk;obtain ⟨i,b0,_,h3,h4,e⟩:=hold hb;subst h4;refine h.rngB i b0 b o h3 ?_ (by rw [←e];exact hβ1) hlt k ?_
  ·cases b0<;>exact hlb
  ·cases b0 with
   |st c=>simpa [BR,Akg] using hk
   |ar fz c=>exact hk
   |mv=>exact hk
 ·intro i hi;exact ⟨O2 (hpn i hi) (h.pin i hi).1,(hβ (hpn i hi)).trans (h.pin i hi).2⟩
 ·intro j c b o hb hβ1 hlt;obtain ⟨i,b0,hm,h3,h4,e⟩:=hold hb;cases b0 with
  |st c0=>
   obtain ⟨k,rfl,hk⟩:=h.stp i c0 b o h3 (by rw [←e];exact hβ1) hlt
   exact ⟨k,BU h1 hm (hpn k hk),hk⟩
  |ar fz c0=>cases h4
  |mv=>cases h4
 ·intro b hY hb;exact h.Yx b hY (hX b hb)
theorem V8 {m:List (Nat × Nat)} {q:Nat × Nat}{o n:Nat}(h:q∈m):q∈MY m o n:=by
 unfold MY;split
 ·exact h
 ·exact List.mem_append.2 (.inl h)
theorem L6 {q:Nat × Nat}{new:Nat}:∀{c:List PV}{j:Nat}{m:List (Nat × Nat)},q∈m->q∈Sc N new c j m
 |[],_,_,h=>h
 |p::c,j,m,h=>by
  unfold Sc;split
  ·rename_i e;cases e
  ·rename_i e;cases e;exact L6 (V8 h)
  ·rename_i e;cases e;exact L6 h
theorem UD {q:Nat × Nat}{m:List (Nat × Nat)} {i:Nat}(h:q∈m):q∈GV N s m i:=by
 unfold GV;split
 ·exact V8 h
 ·split
  ·exact h
  ·split
   ·exact L6 (V8 h)
   ·exact V8 h
 ·exact L6 h
 ·exact h
theorem AR {q:Nat × Nat}:∀{l:List Nat}{m:List (Nat × Nat)},q∈m->q∈l.foldl (GV N s) m
 |[],_,h=>h
 |_::l,_,h=>AR (l:=l) (UD h)
theorem Sj {q:Nat × Nat}{m:List (Nat × Nat)} (h:q∈m):∀k,q∈Uf N s.hp k m
 |0=>h
 |k+1=>by
  unfold Uf;split
  ·exact L6 (Sj h k)
  ·exact Sj h k
theorem PT:∀{k i:Nat},i<k->s.hp (C2 N i)≠none->(C2 N i,C2 N i)∈UU N s.hp k
 |0,_,h,_=>by omega
 |k+1,i,h,hn=>by
  unfold UU;by_cases e:i=k
  ·subst e
   have:(s.hp (C2 N i)).isSome=true:=by
    cases hq:s.hp (C2 N i) with
    |none=>exact absurd hq hn
    |some b=>rfl
   rw [this];simp
  ·have:=PT (k:=k) (i:=i) (by omega) hn
   cases (s.hp (C2 N k)).isSome
   ·exact this
   ·exact List.mem_append.2 (.inl this)
theorem EV (h:Bu N w0 X0 Y β s a w){L:Nat}{q:Bool}{K:St->Option R}(hk:Aaw N (Ms L N) q s K=some r):∃β' s',K s'=some r∧Bu N w0 X0 Y β' s' a w:=by
 unfold Aaw at hk;obtain ⟨hb,hk1⟩:=Aq hk;simp only [Bool.and_eq_true] at hb
 obtain ⟨β2,h2⟩:∃β2,Bu N w0 X0 Y β2 (bif q then s else (Ms L N).foldl (QV N) ((Ms L N).foldl GY s)) a w:=by
  cases q
  ·obtain ⟨β1,h1⟩:=P6 (fun s β h i=>MI h i) (Ms L N) h
   obtain ⟨β2,h2⟩:=P6 (fun s β h i=>SB h i) (Ms L N) h1
   exact ⟨β2,h2⟩
  ·exact ⟨β,h⟩
 obtain ⟨β3,h3⟩:=QL h2 hb.1 hb.2 (ls:=Ms L N) (fun i hi=>NM hi) (fun i hi=>AR (Sj (PT (X0.p8 i hi) (h2.pin i hi).1) 8))
 exact ⟨β3,_,hk1,h3⟩
theorem Di (h:Bu N w0 X0 Y β s a w){L:Nat}{K:St->Option R}(hk:Kf N L s K=some r):∃β' s',K s'=some r∧Bu N w0 X0 Y β' s' a w:=EV h hk
theorem FP (h:Bu N w0 X0 Y β s a w){L:Nat}{K:St->Option R}(hk:SY N L s K=some r):∃β' s',K s'=some r∧Bu N w0 X0 Y β' s' a w:=EV h hk
end
open Go.RowKit
section
variable {R:Type} {r:R} {P:Program} {N:Nat} {w0:World} {X0:E5} {Y:Nat->Prop} {C:Hb} {call:Ai}
theorem Vz {n:Nat}{F:St->Option R}{s:St}(h:JI n F s=some r):F s=some r:=by
 unfold JI at h;split at h
 ·cases h
 ·exact h
theorem FL {β:Bt}{s:St}{a:Act}{w:World}(h:Bu N w0 X0 Y β s a w){c:Operand}{kt kf:St->Option R}(hk:Ahp s c kt kf=some r):(a.eval c=.bool true∧kt s=some r)∨(a.eval c=.bool false∧kf s=some r):=by
 unfold Ahp at hk;split at hk
 ·rename_i d;split at hk
  ·rename_i b ht;have hv:a.eval (.tmp d)=.bool b:=Cq h (x:=.tmp d) ht;cases b
   ·change kf ⟨Ct s.tm d (.sc (.bool false)),s.hp⟩=some r at hk;rw [Zu s.tm ht] at hk;exact .inr ⟨hv,hk⟩
   ·change kt ⟨Ct s.tm d (.sc (.bool true)),s.hp⟩=some r at hk;rw [Zu s.tm ht] at hk;exact .inl ⟨hv,hk⟩
  ·rename_i ht;have hu:=Da h (.tmp d);change Dp _ _ _ (s.tm d) _ at hu;rw [ht] at hu;have hu':A5 w _ .ub (a.eval (.tmp d)):=hu
   obtain ⟨b,hv⟩:∃b,a.eval (.tmp d)=.bool b:=by
    generalize a.eval (.tmp d)=x at hu';cases hu' with
    |ub b=>exact ⟨b,rfl⟩
   obtain ⟨h1,h2⟩:=OD hk;cases b
   ·exact .inr ⟨hv,h2⟩
   ·exact .inl ⟨hv,h1⟩
  ·cases hk
 ·exact .inl ⟨rfl,hk⟩
 ·exact .inr ⟨rfl,hk⟩
 ·cases hk
theorem JJ {c:Code}{Q:Exit->Act->World->Prop}{F:(St->Option R)->St->Option R} {nm:St->(St->Option R)->Option R}
  (hnm:∀{β s a w} {K:St->Option R},Bu N w0 X0 Y β s a w->nm s K=some r->∃β' s',K s'=some r∧Bu N w0 X0 Y β' s' a w)
  (hF:∀{β s a w} {K:St->Option R}{Q':Act->World->Prop},Bu N w0 X0 Y β s a w->F K s=some r->(∀s' a' w' β',K s'=some r->Bu N w0 X0 Y β' s' a' w'->Q' a' w')->c.wp P (Exit.then Q' Q) a w):
  ∀(n:Nat) {β s a w},Bu N w0 X0 Y β s a w->WS F nm n s=some r->Code.rounds P c Q n a w
 |0,_,_,_,_,_,hk=>by cases hk
 |n+1,β,s,a,w,h,hk=>by
  rw [rounds_succ];refine hF h hk fun s' a' w' β' hk' h'=>?_
  obtain ⟨β1,s1,hk1,h1⟩:=hnm h' hk';exact JJ hnm hF n h1 hk1
theorem IV {G:Ua}(hNG:HC P G w0 X0)(hcall:∀f args res,call f args=some res->C6 G P f args res)(hm:P.follows .mixedOrders=true){fu:Nat}:
  ∀(c:Code) {ln:Nat} {lx:Nat->Nat} {lr:Nat} {kn:St->Option R} {kx:Nat->St->Option R} {kr:St->Option R} {β:Bt} {s:St} {a:Act} {w:World} {Q:Exit->Act->World->Prop},Bu N w0 X0 Y β s a w ->
   J7 C P fu N call c ln lx lr kn kx kr s=some r->(∀s' a' w' β',kn s'=some r->Bu N w0 X0 Y β' s' a' w'->Q .normal a' w') ->
   (∀id s' a' w' β',kx id s'=some r->Bu N w0 X0 Y β' s' a' w'->Q (.exit id) a' w')->(∀s' a' w' β',kr s'=some r->Bu N w0 X0 Y β' s' a' w'->Q .ret a' w')->c.wp P Q a w:=by
 intro c
 induction c with
 |skip=>intro ln lx lr kn kx kr β s a w Q h hk hn hx hr;exact wp_skip (hn s a w β hk h)
 |region id ops draw=>
  intro ln lx lr kn kx kr β s a w Q h hk hn hx hr;unfold J7 at hk;cases draw
  ·simp only [MR,Bool.false_and,cond_false] at hk;exact QS h hNG hcall hk hn
  ·simp only [MR,Ahz,Bool.true_and,cond_true] at hk;cases hb:IA C P ops<;>rw [hb] at hk
   ·obtain ⟨hb',hk1⟩:=Aq (show Ap _ _=some r from hk)
    exact UA h hNG hcall hm hb' hk1 hn
   ·exact QM h hNG hcall hm hb hk hn
 |seq c1 c2 ih1 ih2=>
  intro ln lx lr kn kx kr β s a w Q h hk hn hx hr;unfold J7 at hk
  refine wp_seq (ih1 h hk (fun s' a' w' β' hk' h'=>by
    cases hc:Abl P c1 c2
    ·rw [hc] at hk';exact ih2 h' hk' hn hx hr
    ·rw [hc] at hk';cases hq:BH c1 c2
     ·rw [hq] at hk';obtain ⟨β1,s1,hk1,h1⟩:=Di h' (show Kf _ _ _ _=some r from hk')
      exact ih2 h1 (Vz hk1) hn hx hr
     ·rw [hq] at hk';obtain ⟨β1,s1,hk1,h1⟩:=FP h' (show SY _ _ _ _=some r from hk')
      exact ih2 h1 (Vz hk1) hn hx hr) (fun id s' a' w' β' hk' h'=>hx id s' a' w' β' hk' h') (fun s' a' w' β' hk' h'=>hr s' a' w' β' hk' h'))
 |cond c c1 c2 ih1 ih2=>
  intro ln lx lr kn kx kr β s a w Q h hk hn hx hr;unfold J7 at hk;rcases FL h hk with ⟨hc,hk1⟩|⟨hc,hk1⟩
  ·exact wp_cond_true hc (ih1 h hk1 hn hx hr)
  ·exact wp_cond_false hc (ih2 h hk1 hn hx hr)
 |block id c ih=>
  intro ln lx lr kn kx kr β s a w Q h hk hn hx hr;unfold J7 at hk;refine wp_block (ih h hk (fun s' a' w' β' hk' h'=>hn s' a' w' β' hk' h') (fun j s' a' w' β' hk' h'=>?_) (fun s' a' w' β' hk' h'=>hr s' a' w' β' hk' h'))
  show (if j=id then _ else _)
  by_cases e:j=id
  ·subst e;rw [if_pos rfl];rw [Nat.beq_refl] at hk';exact hn s' a' w' β' hk' h'
  ·rw [if_neg e]
   have:Nat.beq j id=false:=by
    cases hb:Nat.beq j id
    ·rfl
    ·exact absurd (Nat.eq_of_beq_eq_true hb) e
   rw [this] at hk';exact hx j s' a' w' β' hk' h'
 |loop c ih=>
  intro ln lx lr kn kx kr β s a w Q h hk hn hx hr;unfold J7 at hk;obtain ⟨β1,s1,hk1,h1⟩:=Di h hk;refine wp_loop_rounds fu (JJ (fun h hk=>Di h hk) (fun h hk hQ=>?_) fu h1 hk1)
  exact ih h hk hQ (fun id s' a' w' β' hk' h'=>hx id s' a' w' β' hk' h') (fun s' a' w' β' hk' h'=>hr s' a' w' β' hk' h')
 |«exit» id=>intro ln lx lr kn kx kr β s a w Q h hk hn hx hr;exact wp_exit (hx id s a w β hk h)
 |ret=>intro ln lx lr kn kx kr β s a w Q h hk hn hx hr;exact wp_ret (hr s a w β hk h)
 |_=>intro ln lx lr kn kx kr β s a w Q h hk hn hx hr;cases hk
end
open Go.RowKit
theorem Nt:∀{l:List (Nat × Bk)} {i:Nat}{b:Bk},B5 l i=some b->(i,b)∈l
 |[],_,_,h=>by cases h
 |(j,c)::l,i,b,h=>by
  unfold B5 at h;cases hb:Nat.beq i j<;>rw [hb] at h
  ·exact List.mem_cons_of_mem _ (Nt h)
  ·have:=Nat.eq_of_beq_eq_true hb;cases h;rw [this];simp
theorem RJ:∀{l:List (Nat × Bk)},(l.map (·.1)).Nodup->∀{i b},(i,b)∈l->B5 l i=some b
 |[],_,_,_,h=>by cases h
 |(j,c)::l,hn,i,b,h=>by
  simp only [List.map_cons,List.nodup_cons] at hn;unfold B5;rcases List.mem_cons.1 h with e|h
  ·cases e;simp only [Nat.beq_refl,cond_true]
  ·have:Nat.beq i j=false:=by
    cases hb:Nat.beq i j
    ·rfl
    ·exact absurd (Nat.eq_of_beq_eq_true hb ▸ List.mem_map.2 ⟨_,h,rfl⟩) hn.1
   simp only [this,cond_false];exact RJ hn.2 h
section
variable {R:Type} {r:R} {P:Program} {N:Nat} {w0:World} {X0:E5} {Y:Nat->Prop} {β β':Bt} {s:St} {a:Act} {w w':World} {A:Nat->Prop}
theorem Ahi {id:Nat}{t:CT}{p:PV}{K:PV->List (Nat × Bk)->Option R} (hk:Ag1 id t p K=some r):
  (∃c,K c []=some r∧Xg c∧∀w A q u,Hl w A q p u->A5 w A c u)∨∃es n cc,p=.own es n cc∧K (.view id es 0 n) [(id,.ar false cc)]=some r:=by
 have tree:∀t',(CK t' p fun c=>K c [])=some r->∃c,K c []=some r∧Xg c∧∀w A q u,Hl w A q p u->A5 w A c u:=by
  intro t' hk;obtain ⟨c,hk,hT,hpT,hv⟩:=Nl hk;refine ⟨c,hk,hT,fun w A q u h=>(hv w A (fun _=>none) u ?_).1⟩
  cases p<;>first|exact h|exact hpT.elim
 unfold Ag1 at hk;cases t with
 |sl es=>
  dsimp only at hk;split at hk
  ·rename_i es' n c;cases hb:Nat.beq es' es<;>rw [hb] at hk
   ·cases hk
   ·have:=Nat.eq_of_beq_eq_true hb;subst this;exact .inr ⟨_,_,_,rfl,hk⟩
  ·exact .inl (tree (.sl es) hk)
 |int k=>exact .inl (tree _ hk)
 |bool=>exact .inl (tree _ hk)
 |str=>exact .inl (tree _ hk)
 |any=>exact .inl (tree _ hk)
theorem Rr:∀{ts:List CT}{id:Nat}{ps:List PV}{K:List PV->List (Nat × Bk)->Option R},EZ N id ts ps K=some r ->
  ∃cs bs,∃qs:List (Nat × Nat),K cs bs=some r∧cs.length=ps.length∧ps.length=ts.length∧bs.map (·.1)=qs.map (·.1)∧(∀q∈qs,∀q'∈qs,q.2=q'.2->q.1=q'.1) ∧
   (∀i bx,(i,bx)∈bs->∃c,bx=.ar false c)∧(∀c∈cs,MU c)∧(∀c∈cs,∀i∈At c,∃bx,(i,bx)∈bs) ∧
   ∀(w:World) (A:Nat->Prop) (own β':Bt) (j0:Nat) (us:List Value),(∀q∈qs,β' q.1=own (j0+q.2))->Ft w A own j0 ps us->Bj (B9 w A β') cs us∧∀i bx,(i,bx)∈bs->Rj w A β' i bx
 |[],id,ps,K,hk=>by
  obtain ⟨rfl,hk⟩:=Dn hk;refine ⟨[],[],[],hk,rfl,rfl,rfl,by simp,by simp,by simp,by simp,fun w A own β' j0 us _ h=>⟨?_,by simp⟩⟩
  cases us with
  |nil=>trivial
  |cons u us=>exact h.elim
 |t::ts,id,ps,K,hk=>by
  unfold EZ at hk;obtain ⟨p,ps',hps,hk1⟩:=Bd hk;subst hps;rcases Ahi hk1 with ⟨c,hk2,hT,hv⟩|⟨es,n,cc,rfl,hk2⟩
  ·obtain ⟨cs,bs,qs,hk3,hl,hl2,hb,hq2,hb1,hF,hb2,hvs⟩:=Rr hk2;refine ⟨c::cs,bs,qs.map (fun q=>(q.1,q.2+1)),hk3,by simp [hl],by simp [hl2],by rw [hb];simp,?_,hb1,?_,?_,fun w A own β' j0 us hβ ho=>?_⟩
   ·intro q hq q' hq' e;obtain ⟨q0,hq0,rfl⟩:=List.mem_map.1 hq;obtain ⟨q1,hq1',rfl⟩:=List.mem_map.1 hq';exact hq2 q0 hq0 q1 hq1' (by simp only at e;omega)
   ·intro y hy;rcases List.mem_cons.1 hy with rfl|hy
    ·exact Tb hT
    ·exact hF y hy
   ·intro y hy i hi;rcases List.mem_cons.1 hy with rfl|hy
    ·rw [Hz hT] at hi;cases hi
    ·exact hb2 y hy i hi
   ·cases us with
    |nil=>exact ho.elim
    |cons u us=>
     obtain ⟨h1,h2⟩:=hvs w A own β' (j0+1) us (fun q hq=>by rw [hβ _ (List.mem_map_of_mem hq)];congr 1;simp only;omega) ho.2
     exact ⟨⟨Ahw (hv w A _ u ho.1),h1⟩,h2⟩
  ·obtain ⟨cs,bs,qs,hk3,hl,hl2,hb,hq2,hb1,hF,hb2,hvs⟩:=Rr hk2;refine ⟨_::cs,(id,.ar false cc)::bs,(id,0)::qs.map (fun q=>(q.1,q.2+1)),hk3,by simp [hl],by simp [hl2],by simp only [List.map_cons,hb];simp,?_,?_,?_,?_,fun w A own β' j0 us hβ ho=>?_⟩
   ·intro q hq q' hq' e;rcases List.mem_cons.1 hq with rfl|hq
    ·rcases List.mem_cons.1 hq' with rfl|hq'
     ·rfl
     ·obtain ⟨q0,hq0,rfl⟩:=List.mem_map.1 hq';simp only at e;omega
    ·obtain ⟨q0,hq0,rfl⟩:=List.mem_map.1 hq;rcases List.mem_cons.1 hq' with rfl|hq'
     ·simp only at e;omega
     ·obtain ⟨q1,hq1',rfl⟩:=List.mem_map.1 hq';exact hq2 q0 hq0 q1 hq1' (by simp only at e;omega)
   ·intro i bx hm;rcases List.mem_cons.1 hm with e|hm
    ·cases e;exact ⟨cc,rfl⟩
    ·exact hb1 i bx hm
   ·intro y hy;rcases List.mem_cons.1 hy with rfl|hy
    ·trivial
    ·exact hF y hy
   ·intro y hy i hi;rcases List.mem_cons.1 hy with rfl|hy
    ·simp only [At,List.mem_singleton] at hi;subst hi;exact ⟨_,List.mem_cons_self⟩
    ·obtain ⟨bx,hbx⟩:=hb2 y hy i hi;exact ⟨bx,List.mem_cons_of_mem _ hbx⟩
   ·cases us with
    |nil=>exact ho.elim
    |cons u us=>
     obtain ⟨h1,h2⟩:=hvs w A own β' (j0+1) us (fun q hq=>by rw [hβ _ (List.mem_cons_of_mem _ (List.mem_map_of_mem hq))];congr 1;simp only;omega) ho.2
     have h0:=hβ (id,0) List.mem_cons_self;simp only [Nat.add_zero] at h0;refine ⟨⟨?_,h1⟩,fun i bx hm=>?_⟩
     ·rcases ho.1 with ⟨h3,rfl,_,h5⟩|⟨b,ob,cap,h3,h4,h5,h6,h7,_⟩
      ·exact .inl ⟨h0.trans h3,rfl,rfl,h5⟩
      ·exact .inr ⟨b,ob,ob,cap,h0.trans h3,h4,.inl rfl,h5,h6,h7⟩
     ·rcases List.mem_cons.1 hm with e|hm
      ·cases e;exact AQ ho.1 h0
      ·exact h2 i bx hm
theorem Ak2 {i:Nat}{t:TypeId}{p:PV}{K:PV->List (Nat × Bk)->Option R} (hk:inK P N i t p K=some r):
  ∃v bs,∃qs:List (Nat × Nat),K v bs=some r∧bs.map (·.1)=qs.map (·.1)∧(∀q∈qs,∀q'∈qs,q.2=q'.2->q.1=q'.1)∧(BO p=true->(C2 N i,0)∈qs∧i<8) ∧
   (∀id bx,(id,bx)∈bs->Cd (some bx)∧∀c,bx=.st c->id=C2 N i∧BO p=true)∧(∀id∈Bq v,∃bx,(id,bx)∈bs)∧DG bs ∧
   ∀(w:World) (A:Nat->Prop) (bt β':Bt) (u:Value),(∀q∈qs,β' q.1=bt q.2)->WC w A bt p u->Dp w A β' v u∧(∀id bx,(id,bx)∈bs->Rj w A β' id bx) ∧
    ∀id bx b o,(id,bx)∈bs->β' id=some (b,o)->∀j,BR bx o j->Aq7 bt p b j:=by
 have owns:∀{bs:List (Nat × Bk)} {qs:List (Nat × Nat)},bs.map (·.1)=qs.map (·.1)->(∀i bx,(i,bx)∈bs->∃c,bx=.ar false c)->∀{bt β':Bt},(∀q∈qs,β' q.1=bt (1+q.2))->∀id bx b o,(id,bx)∈bs->β' id=some (b,o)->∀j,BR bx o j->∃k o',bt (k+1)=some (b,o')∧o'<=j:=by
  intro bs qs hb hb1 bt β' hβ id bx b o hm hbo j hj;have:id∈qs.map (·.1):=by rw [←hb];exact List.mem_map.2 ⟨_,hm,rfl⟩
  obtain ⟨q,hq,rfl⟩:=List.mem_map.1 this;obtain ⟨c,rfl⟩:=hb1 _ _ hm;rw [hβ q hq,Nat.add_comm] at hbo;exact ⟨q.2,o,hbo,hj⟩
 have nost:∀{bs:List (Nat × Bk)},(∀i bx,(i,bx)∈bs->∃c,bx=.ar false c)->DG bs:=by
  intro bs hb1 id cells hm;obtain ⟨c,e⟩:=hb1 id _ hm;cases e
 unfold inK at hk;split at hk
 ·rename_i e he;obtain ⟨ps,rfl,hk1⟩:=PK hk;obtain ⟨hi8,hk2⟩:=Aq hk1;have hi8:i<8:=Nat.lt_of_succ_le (Nat.le_of_ble_eq_true hi8);obtain ⟨cs,bs,qs,hk3,hl,hl2,hb,hq2,hb1,hF,hb2,hv⟩:=Rr hk2;refine ⟨_,_,(C2 N i,0)::qs.map (fun q=>(q.1,q.2+1)),hk3,by simp only [List.map_cons,hb];simp,?_,fun _=>⟨List.mem_cons_self,hi8⟩,?_,?_,?_,fun w A bt β' u hβ hp=>?_⟩
  ·intro q hq q' hq' e;rcases List.mem_cons.1 hq with rfl|hq
   ·rcases List.mem_cons.1 hq' with rfl|hq'
    ·rfl
    ·obtain ⟨q0,hq0,rfl⟩:=List.mem_map.1 hq';simp only at e;omega
   ·obtain ⟨q0,hq0,rfl⟩:=List.mem_map.1 hq;rcases List.mem_cons.1 hq' with rfl|hq'
    ·simp only at e;omega
    ·obtain ⟨q1,hq1',rfl⟩:=List.mem_map.1 hq';exact hq2 q0 hq0 q1 hq1' (by simp only at e;omega)
  ·intro id bx hm;rcases List.mem_cons.1 hm with e|hm
   ·cases e;exact ⟨trivial,fun _ _=>⟨rfl,rfl⟩⟩
   ·obtain ⟨c,rfl⟩:=hb1 id bx hm;exact ⟨trivial,fun _ e=>by cases e⟩
  ·intro id hid;simp only [Bq,Cb,At,List.mem_singleton] at hid;subst hid;exact ⟨_,List.mem_cons_self⟩
  ·intro id cells hm c hc k hk;rcases List.mem_cons.1 hm with e|hm
   ·cases e;obtain ⟨bx,hbx⟩:=hb2 c hc k hk;exact ⟨bx,List.mem_cons_of_mem _ hbx⟩
   ·obtain ⟨c,e⟩:=hb1 id _ hm;cases e
  ·obtain ⟨b,o,h1,rfl,_,vs,h3,h4,h5⟩:=hp;have h0:=hβ (C2 N i,0) List.mem_cons_self;simp only at h0;have hβ1:∀q∈qs,β' q.1=bt (1+q.2):=fun q hq=>by rw [hβ _ (List.mem_cons_of_mem _ (List.mem_map_of_mem hq)),Nat.add_comm]
   obtain ⟨h6,h7⟩:=hv w A bt β' 1 vs hβ1 h3;refine ⟨⟨b,o,h0.trans h1,by simp⟩,fun id bx hm=>?_,fun id bx b' o' hm hb' j hj=>?_⟩
   ·rcases List.mem_cons.1 hm with e|hm
    ·cases e;refine ⟨b,o,h0.trans h1,fun k c hk=>?_,fun k hk=>h5 k (by omega)⟩
     obtain ⟨v,hv,hcr⟩:=h6.get hk;exact ⟨v,h4 k v hv,hcr⟩
    ·exact h7 id bx hm
   ·rcases List.mem_cons.1 hm with e|hm
    ·cases e;rw [h0] at hb';have hj:o'<=j∧j<o'+cs.length:=hj;exact .inr ⟨o',ps,hb',hj.1,.inl ⟨rfl,by omega⟩⟩
    ·exact .inl (owns hb hb1 hβ1 id bx b' o' hm hb' j hj)
 ·split at hk
  ·rename_i ps;obtain ⟨e,he,hk1⟩:=C8 hk;obtain ⟨hi8,hk2⟩:=Aq hk1;have hi8:i<8:=Nat.lt_of_succ_le (Nat.le_of_ble_eq_true hi8);obtain ⟨q,qr,hq,hk3⟩:=Bd hk2;subst hq;obtain ⟨hnil,hk4⟩:=Dn hk3;subst hnil;unfold El at hk4;split at hk4
   ·rename_i es' n c;cases hb:Nat.beq es' (Be P e)<;>rw [hb] at hk4
    ·cases hk4
    ·have hes:=Nat.eq_of_beq_eq_true hb;subst hes;refine ⟨_,_,[(C2 N i,0)],hk4,rfl,by simp,fun _=>⟨by simp,hi8⟩,?_,?_,?_,fun w A bt β' u hβ hp=>?_⟩
     ·intro id bx hm;simp only [List.mem_singleton] at hm;cases hm;exact ⟨trivial,fun _ e=>by cases e⟩
     ·intro id hid;simp only [Bq,Cb,At,List.mem_singleton] at hid;subst hid;exact ⟨_,List.mem_cons_self⟩
     ·intro id cells hm;simp only [List.mem_singleton] at hm;cases hm
     ·obtain ⟨es,n',c',h1,h2⟩:=hp;cases h1;have h0:=hβ (C2 N i,0) List.mem_cons_self;simp only at h0;refine ⟨?_,fun id bx hm=>?_,fun id bx b' o' hm hb' j hj=>?_⟩
      ·rcases h2 with ⟨h3,rfl,_,h5⟩|⟨b,ob,cap,h3,h4,h5,h6,h7,_⟩
       ·exact .inl ⟨h0.trans h3,rfl,rfl,h5⟩
       ·exact .inr ⟨b,ob,ob,cap,h0.trans h3,h4,.inl rfl,h5,h6,h7⟩
      ·simp only [List.mem_singleton] at hm;cases hm;exact AQ h2 h0
      ·simp only [List.mem_singleton] at hm;cases hm;rw [h0] at hb';exact .inr ⟨o',_,hb',hj,.inr rfl⟩
   ·cases hk4
  ·rename_i hnt;cases hagg:Cr P t<;>rw [hagg] at hk
   ·simp only [cond_false] at hk;obtain ⟨cs,bs,qs,hk3,hl,hl2,hb,hq2,hb1,hF,hb2,hv⟩:=Rr hk;obtain ⟨c,cs',hcs,hk4⟩:=Bd hk3;subst hcs;obtain ⟨hnil,hk5⟩:=Dn hk4;subst hnil;have hFc:=hF c (by simp)
    have hnL:BO p=false∨∃ps,p=.pbox ps:=by
     cases p<;>first|exact .inl rfl|exact .inr ⟨_,rfl⟩|exact absurd rfl (hnt _)
    have hpb:∀ps,p ≠ .pbox ps:=by
     rintro ps rfl
     cases hts:Ic P t with
     |nil=>rw [hts] at hl2;simp at hl2
     |cons t' ts=>
      rw [hts] at hk;unfold EZ Ag1 at hk;obtain ⟨q,qs1,hq,hk1⟩:=Bd hk;cases hq;cases t'<;>simp [CK,Fd,Ad,Bl,Co,fnK] at hk1
    have hpa:∀ps,p ≠ .agg ps:=by
     rintro ps rfl
     cases hts:Ic P t with
     |nil=>rw [hts] at hl2;simp at hl2
     |cons t' ts=>
      rw [hts] at hk;unfold EZ Ag1 at hk;obtain ⟨q,qs1,hq,hk1⟩:=Bd hk;cases hq;cases t'<;>simp [CK,Fd,Ad,Bl,Co,fnK] at hk1
    have hnL:BO p=false:=hnL.elim id (fun ⟨ps,e⟩=>absurd e (hpb ps))
    have hrefs:Bq c=At c:=by cases c<;>first|rfl|exact hFc.elim
    refine ⟨c,bs,qs.map (fun q=>(q.1,q.2+1)),hk5,by rw [hb];simp,?_,(fun h=>by rw [hnL] at h;cases h),?_,fun id hid=>hb2 c (by simp) id (by rw [←hrefs];exact hid),nost hb1,fun w A bt β' u hβ hp=>?_⟩
    ·intro q hq q' hq' e;obtain ⟨q0,hq0,rfl⟩:=List.mem_map.1 hq;obtain ⟨q1,hq1',rfl⟩:=List.mem_map.1 hq';exact hq2 q0 hq0 q1 hq1' (by simp only at e;omega)
    ·intro id bx hm;obtain ⟨c,rfl⟩:=hb1 id bx hm;exact ⟨trivial,fun _ e=>by cases e⟩
    ·have hp':Hl w A (bt 1) p u:=by cases p<;>first|exact hp.2|exact absurd rfl (hpa _)|exact absurd rfl (hpb _)|exact absurd rfl (hnt _)
     have hβ1:∀q∈qs,β' q.1=bt (1+q.2):=fun q hq=>by rw [hβ _ (List.mem_map_of_mem hq),Nat.add_comm]
     obtain ⟨h6,h7⟩:=hv w A bt β' 1 [u] hβ1 ⟨hp',trivial⟩;refine ⟨?_,h7,fun id bx b' o' hm hb' j hj=>.inl (owns hb hb1 hβ1 id bx b' o' hm hb' j hj)⟩
     have h8:=h6.1;cases c<;>first|exact h8|exact hFc.elim
   ·simp only [cond_true] at hk;obtain ⟨ps,hp0,hk1⟩:=Hr hk;subst hp0;obtain ⟨cs,bs,qs,hk3,hl,hl2,hb,hq2,hb1,hF,hb2,hv⟩:=Rr hk1;refine ⟨_,bs,qs.map (fun q=>(q.1,q.2+1)),hk3,by rw [hb];simp,?_,(fun h=>by cases h),?_,fun id hid=>?_,nost hb1,fun w A bt β' u hβ hp=>?_⟩
    ·intro q hq q' hq' e;obtain ⟨q0,hq0,rfl⟩:=List.mem_map.1 hq;obtain ⟨q1,hq1',rfl⟩:=List.mem_map.1 hq';exact hq2 q0 hq0 q1 hq1' (by simp only at e;omega)
    ·intro id bx hm;obtain ⟨c,rfl⟩:=hb1 id bx hm;exact ⟨trivial,fun _ e=>by cases e⟩
    ·obtain ⟨c,hc,hi⟩:=List.mem_flatMap.1 (show id∈cs.flatMap At from hid)
     exact hb2 c hc id hi
    ·obtain ⟨vs,h1,_,h3⟩:=hp;have hβ1:∀q∈qs,β' q.1=bt (1+q.2):=fun q hq=>by rw [hβ _ (List.mem_map_of_mem hq),Nat.add_comm]
     obtain ⟨h6,h7⟩:=hv w A bt β' 1 vs hβ1 h3;exact ⟨⟨vs,h1,h6⟩,h7,fun id bx b' o' hm hb' j hj=>.inl (owns hb hb1 hβ1 id bx b' o' hm hb' j hj)⟩
theorem SU:∀{ts:List TypeId}{i:Nat}{ps:List PV}{K:List (Nat × PV)->List (Nat × Bk)->Option R},Ad3 P N i ts ps K=some r ->
  ∃tms bs,∃qs:List (Nat × Nat × Nat),K tms bs=some r∧bs.map (·.1)=qs.map (·.1)∧(∀q∈qs,i<=q.2.1)∧(∀q∈qs,∀q'∈qs,q.2=q'.2->q.1=q'.1) ∧
   (∀k p,ps[k]?=some p->BO p=true->(C2 N (i+k),i+k,0)∈qs∧i+k<8)∧(∀id bx,(id,bx)∈bs->Cd (some bx)∧∀c,bx=.st c->∃k p,ps[k]?=some p∧BO p=true∧id=C2 N (i+k)) ∧
   (∀j,∀id∈Bq (lk tms j),∃bx,(id,bx)∈bs)∧DG bs ∧
   ∀(w:World) (A:Nat->Prop) (bt:GZ) (β':Bt) (us:List Value),(∀q∈qs,β' q.1=bt q.2.1 q.2.2)->Nd w A bt i ps us ->
    (∀j,(∃u,i<=j∧us[j-i]?=some u∧Dp w A β' (lk tms j) u)∨(lk tms j=.top∧(i<=j->us[j-i]?=none)))∧(∀id bx,(id,bx)∈bs->Rj w A β' id bx) ∧
    ∀id bx b o,(id,bx)∈bs->β' id=some (b,o)->∀j,BR bx o j->∃k p,ps[k]?=some p∧Aq7 (bt (i+k)) p b j
 |[],i,ps,K,hk=>by
  obtain ⟨hps,hk⟩:=Dn hk;subst hps;refine ⟨[],[],[],hk,rfl,by simp,by simp,by simp,by simp,(fun j id hid=>by cases hid),(by intro i cells hm;cases hm),fun w A bt β' us _ h=>?_⟩
  cases us with
  |nil=>exact ⟨fun j=>.inr ⟨rfl,fun _=>by simp⟩,by simp,by simp⟩
  |cons u us=>exact h.elim
 |t::ts,i,ps,K,hk=>by
  unfold Ad3 at hk;obtain ⟨p,ps',hps,hk1⟩:=Bd hk;subst hps;obtain ⟨v,bs,qs,hk2,hb,hqi,hpin,hbx,hr,hri,hv⟩:=Ak2 hk1;obtain ⟨tms,bs',qs',hk3,hb',hq0',hqi',hpin',hbx',hr',hri',hv'⟩:=SU hk2;refine ⟨(i,v)::tms,bs++bs',qs.map (fun q=>(q.1,i,q.2))++qs',hk3,by simp only [List.map_append,hb,hb'];simp,?_,?_,?_,?_,?_,?_,fun w A bt β' us hβ hp=>?_⟩
  ·intro q hq;rcases List.mem_append.1 hq with hq|hq
   ·obtain ⟨q0,hq0,rfl⟩:=List.mem_map.1 hq;exact Nat.le_refl _
   ·have:=hq0' q hq;omega
  ·intro q hq q' hq' e;rcases List.mem_append.1 hq with hq|hq
   ·obtain ⟨q0,hq0,rfl⟩:=List.mem_map.1 hq;rcases List.mem_append.1 hq' with hq'|hq'
    ·obtain ⟨q1,hq1',rfl⟩:=List.mem_map.1 hq';simp only [Prod.mk.injEq,true_and] at e;exact hqi q0 hq0 q1 hq1' e
    ·have:=hq0' q' hq';rw [←e] at this;simp only at this;omega
   ·have h5:=hq0' q hq;rcases List.mem_append.1 hq' with hq'|hq'
    ·obtain ⟨q1,hq1',rfl⟩:=List.mem_map.1 hq';rw [e] at h5;simp only at h5;omega
    ·exact hqi' q hq q' hq' e
  ·intro k p' hk' hL;cases k with
   |zero=>
    simp only [List.getElem?_cons_zero,Option.some.injEq] at hk';subst hk';obtain ⟨h1,h2⟩:=hpin hL;exact ⟨List.mem_append.2 (.inl (List.mem_map.2 ⟨_,h1,rfl⟩)),h2⟩
   |succ k=>
    obtain ⟨h1,h2⟩:=hpin' k p' (by simpa using hk') hL
    rw [show i+1+k=i+(k+1) by omega] at h1 h2
    exact ⟨List.mem_append.2 (.inr h1),h2⟩
  ·intro id bx hm;rcases List.mem_append.1 hm with hm|hm
   ·obtain ⟨h1,h2⟩:=hbx id bx hm;exact ⟨h1,fun c hc=>⟨0,p,rfl,(h2 c hc).2,(h2 c hc).1⟩⟩
   ·obtain ⟨h1,h2⟩:=hbx' id bx hm;refine ⟨h1,fun c hc=>?_⟩
    obtain ⟨k,p',h3,h4,h5⟩:=h2 c hc;exact ⟨k+1,p',by simpa using h3,h4,by rw [h5,show i+1+k=i+(k+1) by omega]⟩
  ·intro j id hid;unfold lk at hid;cases hbq:Nat.beq j i<;>rw [hbq] at hid
   ·obtain ⟨bx,h1⟩:=hr' j id hid;exact ⟨bx,List.mem_append.2 (.inr h1)⟩
   ·obtain ⟨bx,h1⟩:=hr id hid;exact ⟨bx,List.mem_append.2 (.inl h1)⟩
  ·intro id cells hm c hc k hk;rcases List.mem_append.1 hm with hm|hm
   ·obtain ⟨bx,h1⟩:=hri id cells hm c hc k hk;exact ⟨bx,List.mem_append.2 (.inl h1)⟩
   ·obtain ⟨bx,h1⟩:=hri' id cells hm c hc k hk;exact ⟨bx,List.mem_append.2 (.inr h1)⟩
  ·cases us with
   |nil=>exact hp.elim
   |cons u us=>
    obtain ⟨h1,h2,h3⟩:=hv w A (bt i) β' u (fun q hq=>hβ _ (List.mem_append.2 (.inl (List.mem_map_of_mem hq)))) hp.1
    obtain ⟨h1',h2',h3'⟩:=hv' w A bt β' us (fun q hq=>hβ q (List.mem_append.2 (.inr hq))) hp.2
    refine ⟨fun j=>?_,fun id bx hm=>?_,fun id bx b o hm hbo j hj=>?_⟩
    ·unfold lk;cases hbq:Nat.beq j i
     ·have hne:=Nj hbq;simp only [cond_false];rcases h1' j with ⟨u',h4,h5,h6⟩|⟨h4,h5⟩
      ·refine .inl ⟨u',by omega,?_,h6⟩
       rw [show j-i=(j-(i+1))+1 by omega]
       simpa using h5
      ·refine .inr ⟨h4,fun hij=>?_⟩
       rw [show j-i=(j-(i+1))+1 by omega]
       simpa using h5 (by omega)
     ·have:=Nat.eq_of_beq_eq_true hbq;subst this;exact .inl ⟨u,Nat.le_refl _,by simp,h1⟩
    ·rcases List.mem_append.1 hm with hm|hm
     ·exact h2 id bx hm
     ·exact h2' id bx hm
    ·rcases List.mem_append.1 hm with hm|hm
     ·exact ⟨0,p,rfl,h3 id bx b o hm hbo j hj⟩
     ·obtain ⟨k,p',h4,h5⟩:=h3' id bx b o hm hbo j hj;exact ⟨k+1,p',by simpa using h4,by rw [show i+(k+1)=i+1+k by omega];exact h5⟩
def IK (bt:GZ)(args:List PV)(h8:∀k p,args[k]?=some p->BO p=true->k<8):E5:=
 ⟨BtX bt,NV bt args,fun i=>∃p,args[i]?=some p∧BO p=true,fun i=>bt i 0,fun i ⟨p,h1,h2⟩=>h8 i p h1 h2⟩
theorem NZ {ts:List TypeId}{args:List PV}{us:List Value}{bt:GZ}{K:List (Nat × PV)->List (Nat × Bk)->Option R} (hin:Ins w Y bt args us)(hk:Ad3 P N 0 ts args K=some r):
  ∃tms bs,K tms bs=some r∧(B3 (fun _=>none) bs=true->us.length<=N->∃(h8:∀k p,args[k]?=some p->BO p=true->k<8),∃β0,
   Bu N w (IK bt args h8) Y β0 ⟨lk tms,B5 bs⟩ { tmps:=us.toArray++Array.replicate (N-us.toArray.size) undef,defers:=[] } w):=by
 obtain ⟨tms,bs,qs,hk1,hb,hq0,hqi,hpin,hbx,hr,hri,hv⟩:=SU hk;refine ⟨tms,bs,hk1,fun hab hN=>?_⟩
 have hnod:=Sk hab
 have h8:∀k p,args[k]?=some p->BO p=true->k<8:=fun k p h1 h2=>by
  have:=(hpin k p h1 h2).2;omega
 have hqn:(qs.map (·.1)).Nodup:=by rw [←hb];exact hnod
 obtain ⟨β0,hβ0⟩:∃β0:Bt,∀q∈qs,β0 q.1=bt q.2.1 q.2.2:=by
  have:∀(l:List (Nat × Nat × Nat)),(l.map (·.1)).Nodup->∃β0:Bt,∀q∈l,β0 q.1=bt q.2.1 q.2.2:=by
   intro l
   induction l with
   |nil=>intro _;exact ⟨fun _=>none,by simp⟩
   |cons q l ih=>
    intro hn;simp only [List.map_cons,List.nodup_cons] at hn;obtain ⟨b1,h1⟩:=ih hn.2;refine ⟨Ct b1 q.1 (bt q.2.1 q.2.2),fun q' hq'=>?_⟩
    rcases List.mem_cons.1 hq' with rfl|hq'
    ·exact As _ _ _
    ·have hne:q'.1≠q.1:=fun e=>hn.1 (by rw [←e];exact List.mem_map.2 ⟨q',hq',rfl⟩)
     rw [Ao _ _ hne];exact h1 q' hq'
  exact this qs hqn
 refine ⟨h8,β0,?_⟩;obtain ⟨hs,hbr,hL⟩:=hv w _ bt β0 us hβ0 hin.args
 have hqm:∀id bx,(id,bx)∈bs->∃ik,(id,ik)∈qs∧β0 id=bt ik.1 ik.2:=by
  intro id bx hm;have:id∈qs.map (·.1):=by rw [←hb];exact List.mem_map.2 ⟨_,hm,rfl⟩
  obtain ⟨q,hq,rfl⟩:=List.mem_map.1 this;exact ⟨q.2,hq,hβ0 q hq⟩
 have hX:∀b,Ze (B5 bs) β0 b->BtX bt b:=by
  rintro b ⟨id,o,hl,hβ⟩
  cases hq:B5 bs id with
  |none=>rw [hq] at hl;exact hl.elim
  |some bx=>
   obtain ⟨ik,_,h2⟩:=hqm id bx (Nt hq);rw [h2] at hβ;exact ⟨_,_,_,hβ⟩
 have hA:∀b,Cw (B5 bs) β0 Y b->BtX bt b∨Y b:=fun b hb=>hb.imp (hX b) id
 have hput:∀{p:PV} {u:Value},Dp w (fun b=>BtX bt b∨Y b) β0 p u->Dp w (Cw (B5 bs) β0 Y) β0 p u:=fun h=>h.step (B7.refl _ _) (fun b _=>hA b) (fun _ _=>rfl)
 refine ⟨rfl,by simp;omega,fun i hi=>?_,fun i hi=>?_,?_,?_,?_,fun i hi id hid=>?_,?_,fun b hb=>.inl (hX b hb),?_,?_,?_,fun b hY hXb=>hin.Yx b hY (hX b hXb),hin.Ylt,⟨rfl,rfl,rfl,B7.refl _ _,fun _ _ _ _=>⟨rfl,rfl⟩⟩⟩
 ·rcases hs i with ⟨u,_,h,_⟩|⟨h,_⟩
  ·rw [Nat.sub_zero,List.getElem?_eq_none (by omega)] at h;cases h
  ·exact h
 ·rcases hs i with ⟨u,_,h,hv⟩|⟨h,h'⟩
  ·rw [Nat.sub_zero] at h
   have hlt:i<us.length:=by
    rcases Nat.lt_or_ge i us.length with h'|h'
    ·exact h'
    ·rw [List.getElem?_eq_none h'] at h;cases h
   have:(us.toArray++Array.replicate (N-us.toArray.size) undef).getD i undef=u:=by
    rw [Array.getD_eq_getD_getElem?,Array.getElem?_append_left (by simpa using hlt)]
    simp [h]
   show Dp w _ _ _ ((us.toArray++Array.replicate (N-us.toArray.size) undef).getD i undef);rw [this];exact hput hv
  ·show Dp w _ _ (lk tms i) _;rw [h];exact A5.top _
 ·intro id bx hq;exact (hbr id bx (Nt hq)).step' hA
 ·intro id id' b o o' hl hl' hβ hβ';cases hq:B5 bs id with
  |none=>change Cd (B5 bs id) at hl;rw [hq] at hl;exact hl.elim
  |some bx=>
   cases hq':B5 bs id' with
   |none=>change Cd (B5 bs id') at hl';rw [hq'] at hl';exact hl'.elim
   |some bx'=>
    obtain ⟨ik,h1,h2⟩:=hqm id bx (Nt hq);obtain ⟨ik',h1',h2'⟩:=hqm id' bx' (Nt hq');rw [h2] at hβ;rw [h2'] at hβ';obtain ⟨h3,h4⟩:=hin.inj _ _ _ _ b o o' hβ hβ';exact hqi _ h1 _ h1' (Prod.ext h3 h4)
 ·intro id b o hn hβ;cases hq:B5 bs id with
  |none=>exact absurd hq hn
  |some bx=>
   obtain ⟨ik,h1,h2⟩:=hqm id bx (Nt hq);rw [h2] at hβ;exact hin.lt b ⟨_,_,_,hβ⟩
 ·obtain ⟨bx,hm⟩:=hr i id hid;show B5 bs id≠none;rw [RJ hnod hm];simp
 ·intro id cells hq c hc k hk;obtain ⟨bx,hm⟩:=hri id cells (Nt hq) c hc k hk;show B5 bs k≠none;rw [RJ hnod hm];simp
 ·intro id bx b o hq hl hβ _ j hj;obtain ⟨k,p,h1,h2⟩:=hL id bx b o (Nt hq) hβ j hj;rw [Nat.zero_add] at h2;exact ⟨k,p,h1,h2⟩
 ·rintro i ⟨p,h1,h2⟩
  have h3:=(hpin i p h1 h2).1;rw [Nat.zero_add] at h3;refine ⟨?_,hβ0 _ h3⟩;have:C2 N i∈bs.map (·.1):=by rw [hb];exact List.mem_map.2 ⟨_,h3,rfl⟩
  obtain ⟨⟨id,bx⟩,hm,e⟩:=List.mem_map.1 this;show B5 bs (C2 N i)≠none;rw [←e,RJ hnod hm];simp
 ·intro id c b o hq _ _;obtain ⟨k,p,h1,h2,h3⟩:=(hbx id _ (Nt hq)).2 c rfl;rw [Nat.zero_add] at h3;exact ⟨k,h3,p,h1,h2⟩
end
open Go.RowKit
def Ly (β:Bt)(l:List (Option Nat)) (j:Nat):Option (Nat × Nat):=((l[j]?).bind id).bind β
section
variable {R:Type} {r:R} {P:Program} {N:Nat} {w0:World} {X0:E5} {Y:Nat->Prop} {β β':Bt} {s:St} {a:Act} {w w':World} {A:Nat->Prop}
def Aie (s:St)(l:List (Option Nat)):Prop:=∀id,some id∈l->Cd (s.hp id)
def Nf (s:St)(z:List Nat):Prop:=∀id∈z,∃f c,s.hp id=some (.ar f c)
theorem PU (h : Bu N w0 X0 Y β s a w) {shr : Bool} {t : CT} {p : PV} {K : PV -> List Nat -> List Nat -> Option R} (hk : Abp shr s.hp t p K = some r) :
    ∃ c q z, K c (Option.toList q) z = some r ∧ (∀ x, c ≠ .agg x ∧ c ≠ .pbox x) ∧ MU p ∧ (∀ id, q = some id -> ∃ c, s.hp id = some (.ar false c)) ∧ Nf s z ∧
      ∀ (fz : List Nat) A u, (∀ i ∈ z, i ∈ fz) -> Nf s fz -> (∀ b, A b -> Cw (Ah s.hp fz) β Y b) -> B9 w (Cw s.hp β Y) β p u -> Hl w A (q.bind β) c u := by
  have notree : ∀ {c : PV}, Xg c -> ∀ x, c ≠ .agg x ∧ c ≠ .pbox x := fun hT x => ⟨Y8 hT x, by rintro rfl; exact hT⟩
  unfold Abp at hk
  cases shr <;> simp only [cond_true, cond_false] at hk
  · have tree : ∀ t', (∀ es, t' ≠ .sl es) -> (CK t' p fun c => K c [] []) = some r -> ∃ c q z, K c (Option.toList q) z = some r ∧ (∀ x, c ≠ .agg x ∧ c ≠ .pbox x) ∧ MU p ∧ (∀ id, q = some id -> ∃ c, s.hp id = some (.ar false c)) ∧ Nf s z ∧
        ∀ (fz : List Nat) A u, (∀ i ∈ z, i ∈ fz) -> Nf s fz -> (∀ b, A b -> Cw (Ah s.hp fz) β Y b) -> B9 w (Cw s.hp β Y) β p u -> Hl w A (q.bind β) c u := by
      intro t' hne hk
      obtain ⟨c, hk1, hT, hpT, hv⟩ := Nl hk
      refine ⟨c, none, [], hk1, notree hT, Tb hpT, by simp, (by intro i hi; cases hi), fun fz A u _ _ hA hc => Kq hT ?_⟩
      exact (hv w _ β u hc).1.step (B7.refl _ _) (fun b _ hb => Pb (hA b hb))
    unfold Aly at hk
    cases t with
    | sl es =>
      dsimp only at hk
      split at hk
      · rename_i id es' off n
        cases hb : (Nat.beq es' es && Nat.beq off 0) <;> rw [hb] at hk
        · cases hk
        · simp only [Bool.and_eq_true] at hb
          have he := Nat.eq_of_beq_eq_true hb.1
          have ho := Nat.eq_of_beq_eq_true hb.2
          subst he ho
          simp only [cond_true] at hk
          split at hk
          · rename_i c h0
            obtain ⟨hl, hk1⟩ := Aq hk
            refine ⟨_, some id, [], hk1, by simp, trivial, fun i hi => by cases hi; exact ⟨c, h0⟩, (by intro i hi; cases hi), fun fz A u _ _ hA hc => ?_⟩
            rcases hc with ⟨h1, _, rfl, h4⟩ | ⟨b, o, x, cap, h1, h2, hx, h3, h4, h5⟩
            · exact .inl ⟨h1, rfl, by simp, h4⟩
            · have hx : x = o := by rcases hx with e | ⟨_, e⟩ <;> omega
              subst hx
              rcases h.box id _ h0 with ⟨h6, _⟩ | ⟨b', o', h6, h7, h8, _⟩
              · rw [h1] at h6; cases h6
              · rw [h1] at h6
                cases h6
                refine .inr ⟨b, x, cap, h1, h2, h3, h4, h5, fun j q hq => ?_, fun j hj hj' => h8 rfl j hj hj'⟩
                rw [List.getElem?_take] at hq
                split at hq
                · obtain ⟨v, hv, h9, ht⟩ := h7 j q hq
                  exact ⟨v, hv, h9, ht.step (B7.refl _ _) (fun b _ hb => Pb (hA b hb))⟩
                · cases hq
          · cases hk
      · obtain ⟨z, n, c, hk1, hp⟩ := Gf hk
        obtain ⟨hz, hk2⟩ := Aq hk1
        subst hz
        have hpF : MU p := by rcases hp with e | ⟨e, _⟩ <;> (rw [e]; trivial)
        refine ⟨_, none, [], hk2, by simp, hpF, by simp, (by intro i hi; cases hi), fun fz A u _ _ _ hc => ?_⟩
        have hu : u = .slice none 0 0 := by
          rcases hp with rfl | ⟨rfl, _⟩
          · cases hc; rfl
          · exact A5.val hc
        exact .inl ⟨rfl, rfl, rfl, hu⟩
    | int k => exact tree _ (by simp) hk
    | bool => exact tree _ (by simp) hk
    | str => exact tree _ (by simp) hk
    | any => exact tree _ (by simp) hk
  · obtain ⟨c, m, hk1, hT, hF, hm, hv⟩ := LQ h hk
    exact ⟨c, none, m, hk1, notree hT, hF, by simp, hm, fun fz A u h1 h2 hA hc => Kq hT ((hv fz h1 h2 u hc).1.step (B7.refl _ _) (fun b _ hb => hA b hb))⟩
structure FV (s:St) (β:Bt) (Y:Nat->Prop) (w:World) (cs:List PV) (l:List (Option Nat)) (z:List Nat) (ps:List PV):Prop where
 len:l.length=cs.length
 pl:cs.length=ps.length
 na:∀c∈cs,∀x,c ≠ .agg x∧c ≠ .pbox x
 fr:∀p∈ps,MU p
 own:∀id,some id∈l->∃c,s.hp id=some (.ar false c)
 row:Nf s z
 sem:∀(fz:List Nat) A us,(∀i∈z,i∈fz)->Nf s fz->(∀b,A b->Cw (Ah s.hp fz) β Y b)->Bj (B9 w (Cw s.hp β Y) β) ps us->∀own j0,(∀j,j<l.length->own (j0+j)=Ly β l j)->Ft w A own j0 cs us
theorem FV.nil:FV s β Y w [] [] [] []:=⟨rfl,rfl,by simp,by simp,by simp,(by intro i hi;cases hi),fun fz A us _ _ _ hu own j0 _=>by
 cases us with
 |nil=>trivial
 |cons u us=>exact hu.elim⟩
theorem FV.cons {c p:PV}{q:Option Nat}{z zs:List Nat}{cs ps:List PV}{l:List (Option Nat)} (hna:∀x,c ≠ .agg x∧c ≠ .pbox x)(hF:MU p)(hq:∀id,q=some id->∃c,s.hp id=some (.ar false c)) (hz:Nf s z)
  (hv:∀(fz:List Nat) A u,(∀i∈z,i∈fz)->Nf s fz->(∀b,A b->Cw (Ah s.hp fz) β Y b)->B9 w (Cw s.hp β Y) β p u->Hl w A (q.bind β) c u) (H:FV s β Y w cs l zs ps):FV s β Y w (c::cs) (q::l) (z++zs) (p::ps):=by
 refine ⟨by simp [H.len],by simp [H.pl],?_,?_,?_,?_,fun fz A us hz1 hz2 hA hu own j0 hown=>?_⟩
 ·intro x hx;rcases List.mem_cons.1 hx with rfl|hx
  ·exact hna
  ·exact H.na x hx
 ·intro x hx;rcases List.mem_cons.1 hx with rfl|hx
  ·exact hF
  ·exact H.fr x hx
 ·intro id hid;rcases List.mem_cons.1 hid with e|hid
  ·exact hq id e.symm
  ·exact H.own id hid
 ·intro i hi;rcases List.mem_append.1 hi with hi|hi
  ·exact hz i hi
  ·exact H.row i hi
 ·cases us with
  |nil=>exact hu.elim
  |cons u us=>
   have h0:=hown 0 (by simp)
   rw [Nat.add_zero] at h0;refine ⟨?_,H.sem fz A us (fun i hi=>hz1 i (by simp [hi])) hz2 hA hu.2 own (j0+1) fun j hj=>?_⟩
   ·rw [h0];exact hv fz A u (fun i hi=>hz1 i (by simp [hi])) hz2 hA hu.1
   ·have:=hown (j+1) (by simp;omega)
    rw [show j0+1+j=j0+(j+1) by omega,this]
    simp [Ly]
theorem Sv (h:Bu N w0 X0 Y β s a w){shr:Bool}:∀{ts:List CT}{ps:List PV}{K:List PV->List Nat->List Nat->Option R},DZ shr s.hp ts ps K=some r ->
  ∃cs l z,K cs (l.filterMap id) z=some r∧FV s β Y w cs l z ps
 |[],[],K,hk=>⟨[],[],[],hk,FV.nil⟩
 |[],_::_,K,hk=>by cases hk
 |_::_,[],K,hk=>by cases hk
 |t::ts,p::ps,K,hk=>by
  unfold DZ at hk;obtain ⟨c,q,z,hk1,hna,hF,hq,hz,hv⟩:=PU h hk;obtain ⟨cs,l,zs,hk2,H⟩:=Sv h hk1;refine ⟨c::cs,q::l,z++zs,?_,FV.cons hna hF hq hz hv H⟩;cases q<;>exact hk2
theorem FS (h:Bu N w0 X0 Y β s a w):∀{ts:List CT}{ws ps:List PV}{K:List PV->List Nat->List Nat->Option R},HA s.hp ts ws ps K=some r ->
  ∃cs l z,K cs (l.filterMap id) z=some r∧cs.length=ws.length∧FV s β Y w cs l z ps
 |[],[],[],K,hk=>⟨[],[],[],hk,rfl,FV.nil⟩
 |[],_::_,_,K,hk=>by cases hk
 |[],[],_::_,K,hk=>by cases hk
 |_::_,[],_,K,hk=>by cases hk
 |_::_,_::_,[],K,hk=>by cases hk
 |t::ts,x::ws,p::ps,K,hk=>by
  unfold HA at hk;obtain ⟨c,q,z,hk1,hna,hF,hq,hz,hv⟩:=PU h hk;obtain ⟨cs,l,zs,hk2,hl,H⟩:=FS h hk1;refine ⟨c::cs,q::l,z++zs,?_,by simp [hl],FV.cons hna hF hq hz hv H⟩
  cases q<;>exact hk2
theorem ZV {own:Bt}{zz j:Nat}{p:PV}{u:Value}(hp:∀x,p ≠ .agg x∧p ≠ .pbox x)(h:Ft w A own j [p] [u]):Ajl w A own zz j p u:=by
 cases p<;>first|exact h.1|exact absurd rfl (hp _).1|exact absurd rfl (hp _).2
theorem Ab6 (h:Bu N w0 X0 Y β s a w){id b o:Nat}{c cs:List PV}{l:List (Option Nat)} {z:List Nat}(h0:s.hp id=some (.st c)) (hβ:β id=some (b,o)) (H:FV s β Y w cs l z c){fz:List Nat}{A:Nat->Prop}(h1:∀i∈z,i∈fz)(h2:Nf s fz)(hA:∀b,A b->Cw (Ah s.hp fz) β Y b)
  {own:Bt} {j0:Nat} (hown:∀j,j<l.length->own (j0+j)=Ly β l j):Ajg w A own j0 b o cs:=by
 obtain ⟨b',o',hb1,hb2,hb3⟩:=h.box id _ h0;rw [hβ] at hb1;cases hb1;refine ⟨c.mapIdx (fun j _=>(w.cell? ⟨b,o+j,none⟩).getD undef),H.sem fz A _ h1 h2 hA ?_ own j0 hown,?_,fun k hk=>hb3 k (by have:=H.pl;omega)⟩
 ·refine Bj.of_at (by simp) fun j p v hp hv=>?_
  obtain ⟨u,hu,hcr⟩:=hb2 j p hp;rw [List.getElem?_mapIdx,hp,Option.map_some,hu] at hv;simp at hv;subst hv;exact hcr
 ·intro k v hkv;rw [List.getElem?_mapIdx] at hkv;cases hp:c[k]? with
  |none=>rw [hp] at hkv;cases hkv
  |some p=>
   obtain ⟨u,hu,hcr⟩:=hb2 k p hp;rw [hp,Option.map_some,hu] at hkv;simp at hkv;subst hkv;exact hu
theorem Aeh (h:Bu N w0 X0 Y β s a w){shr:Bool}{t:TypeId}{p:PV}{u:Value}(hp:Dp w (Cw s.hp β Y) β p u) {K:PV->List Nat->List Nat->Option R}(hk:Afo P shr s.hp t p K=some r):
  ∃v l z,K v (l.filterMap id) z=some r∧l.length=plc v∧Aie s l∧Nf s z ∧
   ∀(fz:List Nat) A zz,(∀i∈z,i∈fz)->Nf s fz->(∀b,A b->Cw (Ah s.hp fz) β Y b)->(∀id c b o,some id∈l->s.hp id=some (.st c)->β id=some (b,o)->zz<=b) ->
    ∀own j0,(∀j,j<l.length->own (j0+j)=Ly β l j)->Ajl w A own zz j0 v u:=by
 unfold Afo at hk;split at hk
 ·rename_i e he;split at hk
  ·rename_i id off;split at hk
   ·rename_i c h0;obtain ⟨hof,hk1⟩:=Aq hk;have hof:=Nat.eq_of_beq_eq_true hof;subst hof;obtain ⟨cs,l,z,hk2,H⟩:=Sv h hk1;obtain ⟨b,o,hβ,hu⟩:=hp;refine ⟨.pbox cs,some id::l,z,hk2,by simp only [plc,List.length_cons,H.len];omega,?_,H.row,fun fz A zz h1 h2 hA hz own j0 hown=>?_⟩
    ·intro i hi;rcases List.mem_cons.1 hi with e|hi
     ·cases e;rw [h0];trivial
     ·obtain ⟨c',hc'⟩:=H.own i hi;rw [hc'];trivial
    ·have h3:=hown 0 (by simp)
     rw [Nat.add_zero] at h3;refine ⟨b,o,by rw [h3];exact hβ,hz id c b o (by simp) h0 hβ,by rw [hu,Nat.add_zero],Ab6 h h0 hβ H h1 h2 hA fun j hj=>?_⟩
     have:=hown (j+1) (by simp;omega)
     rw [show j0+1+j=j0+(j+1) by omega,this]
     simp [Ly]
   ·cases hk
  ·cases hk
 ·cases hagg:Cr P t<;>rw [hagg] at hk<;>simp only [cond_true,cond_false] at hk
  ·obtain ⟨cs,l,z,hk1,H⟩:=Sv h hk;obtain ⟨c,cs',hcs,hk2⟩:=Bd hk1;subst hcs;obtain ⟨hnil,hk3⟩:=Dn hk2;subst hnil;have hna:=H.na c (by simp)
   have hc1:plc c=1:=by cases c<;>first|rfl|exact absurd rfl (hna _).1|exact absurd rfl (hna _).2
   have hF:=H.fr p (by simp)
   refine ⟨c,l,z,hk3,by rw [hc1];exact H.len,fun i hi=>?_,H.row,fun fz A zz h1 h2 hA _ own j0 hown=>ZV hna (H.sem fz A [u] h1 h2 hA ⟨?_,trivial⟩ own j0 hown)⟩
   ·obtain ⟨c',hc'⟩:=H.own i hi;rw [hc'];trivial
   ·cases p<;>first|exact hp|exact hF.elim
  ·obtain ⟨ps,hps,hk1⟩:=Hr hk;subst hps;obtain ⟨cs,l,z,hk2,H⟩:=Sv h hk1;obtain ⟨vs,hu,hvs⟩:=hp;refine ⟨.agg cs,l,z,hk2,H.len,fun i hi=>?_,H.row,fun fz A zz h1 h2 hA _ own j0 hown=>⟨vs,hu,H.sem fz A vs h1 h2 hA hvs own j0 hown⟩⟩
   obtain ⟨c',hc'⟩:=H.own i hi;rw [hc'];trivial
def RK (P:Program)(tmps:Array Value)(w:World)(rv:ResultVar)(u:Value):Prop:=
  (match rv with
   |.tmp t=>(pure (tmps.getD t undef):Sem Value)
   |.cell a t=>do loadVar t (←asAddr (tmps.getD a undef))).run P w=.ok u w
theorem Ai0 (h:Bu N w0 X0 Y β s a w)(t:Nat):Dp w (Cw s.hp β Y) β (s.tm t) (a.tmps.getD t undef):=by
 rcases Nat.lt_or_ge t N with h'|h'
 ·exact h.tms t h'
 ·rw [h.tmo t h'];exact A5.top _
theorem Acv (h:Bu N w0 X0 Y β s a w){rv:ResultVar}{K:PV->Option R}(hk:Ah1 P s rv K=some r):∃p u,K p=some r∧RK P a.tmps w rv u∧Dp w (Cw s.hp β Y) β p u:=by
 unfold Ah1 at hk;split at hk
 ·rename_i t;exact ⟨_,_,hk,rfl,Ai0 h t⟩
 ·rename_i x t;obtain ⟨v,ad,val,hk1,hax,hl,hv,_⟩:=VB h (Ai0 h x) hk;refine ⟨v,val,hk1,?_,hv⟩;unfold RK;simp [hax,asAddr,hl]
theorem Yl {l l':List (Option Nat)} {j:Nat}(h:j<l.length):Ly β (l++l') j=Ly β l j:=by
 unfold Ly;rw [List.getElem?_append_left h]
theorem Xw {l l':List (Option Nat)} {j:Nat}:Ly β (l++l') (l.length+j)=Ly β l' j:=by
 unfold Ly;rw [List.getElem?_append_right (by omega),Nat.add_sub_cancel_left]
theorem JT (h:Bu N w0 X0 Y β s a w){shr:Bool}:∀{rs:List ResultVar}{ts:List TypeId}{K:List PV->List Nat->List Nat->Option R},SK P shr s rs ts K=some r ->
  ∃vs l z us,K vs (l.filterMap id) z=some r∧Bj (RK P a.tmps w) rs us∧l.length=Qm vs∧Aie s l∧Nf s z ∧
   ∀(fz:List Nat) A zz,(∀i∈z,i∈fz)->Nf s fz->(∀b,A b->Cw (Ah s.hp fz) β Y b)->(∀id c b o,some id∈l->s.hp id=some (.st c)->β id=some (b,o)->zz<=b) ->
    ∀own j0,(∀j,j<l.length->own (j0+j)=Ly β l j)->Abs w A own zz j0 vs us
 |[],[],K,hk=>⟨[],[],[],[],hk,trivial,rfl,(by intro id hid;cases hid),(by intro id hid;cases hid),fun _ _ _ _ _ _ _ _ _ _=>trivial⟩
 |[],_::_,K,hk=>by cases hk
 |_::_,[],K,hk=>by cases hk
 |rv::rs,t::ts,K,hk=>by
  unfold SK at hk;obtain ⟨p,u,hk1,hu,hp⟩:=Acv h hk;obtain ⟨v,l,z,hk2,hl,hL,hz,hv⟩:=Aeh h hp hk1;obtain ⟨vs,l',z',us,hk3,hus,hl',hL',hz',hvs⟩:=JT h hk2;refine ⟨v::vs,l++l',z++z',u::us,?_,⟨hu,hus⟩,by simp only [List.length_append,Qm,List.map_cons,List.sum_cons,hl];rw [hl'];rfl,?_,?_,fun fz A zz h1 h2 hA hst own j0 hown=>⟨?_,?_⟩⟩
  ·rw [List.filterMap_append];exact hk3
  ·intro id hid;rcases List.mem_append.1 hid with hid|hid
   ·exact hL id hid
   ·exact hL' id hid
  ·intro id hid;rcases List.mem_append.1 hid with hid|hid
   ·exact hz id hid
   ·exact hz' id hid
  ·exact hv fz A zz (fun i hi=>h1 i (by simp [hi])) h2 hA (fun id c b o hi=>hst id c b o (by simp [hi])) own j0 fun j hj=>by rw [hown j (by simp;omega),Yl hj]
  ·refine hvs fz A zz (fun i hi=>h1 i (by simp [hi])) h2 hA (fun id c b o hi=>hst id c b o (by simp [hi])) own (j0+plc v) fun j hj=>?_
   rw [←hl,Nat.add_assoc,hown (l.length+j) (by simp;omega),Xw]
theorem Sz (h:Bu N w0 X0 Y β s a w){bt:GZ}(hpt:∀i,X0.pt i=bt i 0):∀{ts:List TypeId}{i:Nat}{ps:List PV}{K:List (List PV)->List Nat->List Nat->List Nat->Option R},CQ P N s.hp i ts ps K=some r ->
  (∀k p,ps[k]?=some p->BO p=true->X0.pn (i+k)) ->
  ∃os l z q,K os (l.filterMap id) z q=some r∧(∀id,some id∈l->∃c,s.hp id=some (.ar false c))∧Nf s z∧(∀id∈q,Cd (s.hp id))∧(∀k p,ps[k]?=some p->BO p=true->C2 N (i+k)∈q) ∧
   ∀(fz:List Nat) A,(∀i∈z,i∈fz)->Nf s fz->(∀i∈q,i ∉ fz)->(∀b,A b->Cw (Ah s.hp fz) β Y b) ->
    ∀own j0,(∀j,j<l.length->own (j0+j)=Ly β l j)->Y4 w A own bt j0 i ps os
 |[],i,ps,K,hk,_=>by
  obtain ⟨hps,hk⟩:=Dn hk;subst hps;exact ⟨[],[],[],[],hk,by simp,(by intro id hid;cases hid),by simp,by simp,fun _ _ _ _ _ _ _ _ _=>rfl⟩
 |t::ts,i,ps,K,hk,hpn=>by
  unfold CQ at hk;obtain ⟨p,ps',hps,hk1⟩:=Bd hk;subst hps
  have hpn':∀k p,ps'[k]?=some p->BO p=true->X0.pn (i+1+k):=fun k p' h1 h2=>by
   have:=hpn (k+1) p' (by simpa using h1) h2
   rw [show i+1+k=i+(k+1) by omega]
   exact this
  have hpq:∀{q:List Nat},(BO p=true->C2 N i∈q)->(∀k p,ps'[k]?=some p->BO p=true->C2 N (i+1+k)∈q)->∀k p',(p::ps')[k]?=some p'->BO p'=true->C2 N (i+k)∈q:=by
   intro q h1 h2 k p' h3 h4;cases k with
   |zero=>
    simp only [List.getElem?_cons_zero,Option.some.injEq] at h3;subst h3;exact h1 h4
   |succ k=>
    have:=h2 k p' (by simpa using h3) h4
    rw [show i+1+k=i+(k+1) by omega] at this
    exact this
  split at hk1
  ·rename_i ws;obtain ⟨e,he,hk2⟩:=C8 hk1;split at hk2
   ·rename_i c h0;obtain ⟨cs,l,z,hk3,hcl,H⟩:=FS h hk2;obtain ⟨os,l',z',q,hk4,hL',hz',hq',hpi,hv⟩:=Sz h hpt hk3 hpn';refine ⟨cs::os,l++l',z++z',C2 N i::q,by rw [List.filterMap_append];exact hk4,?_,?_,?_,hpq (fun _=>List.mem_cons_self) (fun k p h1 h2=>List.mem_cons_of_mem _ (hpi k p h1 h2)),fun fz A h1 h2 h3 hA own j0 hown=>?_⟩
    ·intro id hid;rcases List.mem_append.1 hid with hid|hid
     ·exact H.own id hid
     ·exact hL' id hid
    ·intro id hid;rcases List.mem_append.1 hid with hid|hid
     ·exact H.row id hid
     ·exact hz' id hid
    ·intro id hid;rcases List.mem_cons.1 hid with rfl|hid
     ·rw [h0];trivial
     ·exact hq' id hid
    ·have hpin:=(h.pin i (by have:=hpn 0 _ rfl rfl;rwa [Nat.add_zero] at this)).2
     obtain ⟨b,o,hb1,_,_⟩:=h.box _ _ h0;rw [hb1,hpt] at hpin;refine ⟨⟨b,o,hpin.symm,hcl,Ab6 h h0 hb1 H (fun i hi=>h1 i (by simp [hi])) h2 hA fun j hj=>by rw [hown j (by simp;omega),Yl hj]⟩,?_⟩
     refine hv fz A (fun i hi=>h1 i (by simp [hi])) h2 (fun i hi=>h3 i (by simp [hi])) hA own (j0+cs.length) fun j hj=>?_
     rw [←H.len,Nat.add_assoc,hown (l.length+j) (by simp;omega),Xw]
   ·cases hk2
  ·split at hk1
   ·rename_i c h0;obtain ⟨os,l',z',q,hk4,hL',hz',hq',hpi,hv⟩:=Sz h hpt hk1 hpn';refine ⟨c::os,l',z',C2 N i::q,hk4,hL',hz',?_,hpq (fun _=>List.mem_cons_self) (fun k p h1 h2=>List.mem_cons_of_mem _ (hpi k p h1 h2)),fun fz A h1 h2 h3 hA own j0 hown=>⟨?_,hv fz A h1 h2 (fun i hi=>h3 i (by simp [hi])) hA own j0 hown⟩⟩
    ·intro id hid;rcases List.mem_cons.1 hid with rfl|hid
     ·rw [h0];trivial
     ·exact hq' id hid
    ·have hpin:=(h.pin i (by have:=hpn 0 _ rfl rfl;rwa [Nat.add_zero] at this)).2
     rw [hpt] at hpin;rcases h.box _ _ h0 with ⟨h4,h5⟩|⟨b,o,h4,h5,h6,_⟩
     ·exact .inl ⟨by rw [←hpin];exact h4,h5⟩
     ·exact .inr ⟨b,o,by rw [←hpin];exact h4,h5.weak (fun b _ hb=>Pb (hA b hb)),h6 rfl⟩
   ·cases hk1
  ·rename_i hn1 hn2;have hnL:BO p=false:=by cases p<;>first|rfl|exact absurd rfl (hn1 _)|exact absurd rfl (hn2 _)
   obtain ⟨os,l',z',q,hk4,hL',hz',hq',hpi,hv⟩:=Sz h hpt hk1 hpn';refine ⟨os,l',z',q,hk4,hL',hz',hq',hpq (fun e=>by rw [hnL] at e;cases e) hpi,fun fz A h1 h2 h3 hA own j0 hown=>?_⟩
   have:=hv fz A h1 h2 h3 hA own j0 hown;cases p<;>first|exact this|cases hnL
theorem WM {f:ResultVar->Sem Value}:∀{rs:List ResultVar}{us:List Value},Bj (fun rv u=>(f rv).run P w=.ok u w) rs us->(rs.mapM f).run P w=.ok us w
 |[],[],_=>by simp
 |[],_::_,h=>h.elim
 |_::_,[],h=>h.elim
 |rv::rs,u::us,h=>by
  rw [List.mapM_cons];simp [h.1,WM h.2]
theorem WH {fn:Func}{us:List Value}(h:Bj (RK P a.tmps w) fn.results.toList us):(results fn a.tmps).run P w=.ok (K0 us) w:=by
 unfold results;rw [Array.mapM_eq_mapM_toList];simp only [map_eq_pure_bind,bind_assoc,pure_bind,Sem.run_bind];refine Eq.trans (congrArg (fun x=>Result.andThen x _) (WM h)) ?_
 simp only [Result.andThen_ok,Sem.run_pure]
 congr 1
 clear h
 match us with
 |[]=>rfl
 |[u]=>rfl
 |u::v::us=>exact dif_neg (by simp)
theorem TE:∀{l:List (Option Nat)},Eb (l.filterMap id)=true->∀{j j' i:Nat},l[j]?=some (some i)->l[j']?=some (some i)->j=j'
 |[],_,j,j',i,h,_=>by simp at h
 |q::l,hn,j,j',i,h,h'=>by
  have hn':Eb (l.filterMap id)=true:=by
   cases q with
   |none=>exact hn
   |some x=>
    simp only [List.filterMap_cons,id_eq,Eb,Bool.and_eq_true] at hn;exact hn.2
  have hq:∀(x k:Nat),q=some x->l[k]?≠some (some x):=by
   intro x k e hk;subst e;simp only [List.filterMap_cons,id_eq,Eb,Bool.and_eq_true,Bool.not_eq_true'] at hn;exact So hn.1 (List.mem_filterMap.2 ⟨some x,List.mem_of_getElem? hk,rfl⟩)
  cases j with
  |zero=>
   cases j' with
   |zero=>rfl
   |succ k'=>
    simp at h h';exact absurd h' (hq i k' h)
  |succ k=>
   cases j' with
   |zero=>
    simp at h h';exact absurd h (hq i k h')
   |succ k'=>
    simp at h h';rw [TE hn' h h']
theorem DE {C:Hb}{f:FuncId}{fn:Func}{args:List PV}{res:A0}{w:World}{Y:Nat->Prop}{bt:GZ}{us:List Value}(hin:Ins w Y bt args us){h8:∀k p,args[k]?=some p->BO p=true->k<8}
  {s':St} {a':Act} {w':World} {β':Bt} (hr:XP C P f fn args s'=some res) (h:Bu fn.ntmps w (IK bt args h8) Y β' s' a' w'):
  a'.defers=[]∧∃v,(results fn a'.tmps).run P w'=.ok v w'∧∃vs own,Ending.returned v=.returned (K0 vs)∧Out w w' Y bt args own res vs:=by
 unfold XP at hr;obtain ⟨vs,l,z,us',hr1,hus,hll,hL,hz,hv⟩:=JT h hr;obtain ⟨os,l',z',q,hr2,hL',hz',hq,hpi,hv'⟩:=Sz h (bt:=bt) (fun _=>rfl) hr1 (fun k p h1 h2=>by rw [Nat.zero_add];exact ⟨p,h1,h2⟩)
 obtain ⟨hnd,hr3⟩:=Aq hr2;cases hr3;simp only [Bool.and_eq_true] at hnd;obtain ⟨hnd,hdis⟩:=hnd;obtain ⟨hn1,hn2,hn3⟩:=Iv hnd
 have hfz:∀i∈z++z',i ∉ (l.filterMap id++l'.filterMap id)++q:=by
  intro i hi hm';have:=List.all_eq_true.1 hdis i hi;have h2:((l.filterMap id++l'.filterMap id)++q).any (Nat.beq i)=true:=List.any_eq_true.2 ⟨i,hm',Nat.beq_refl i⟩;rw [h2] at this;cases this
 have hrow:Nf s' (z++z'):=by
  intro i hi;rcases List.mem_append.1 hi with hi|hi
  ·exact hz i hi
  ·exact hz' i hi
 refine ⟨h.dfr,K0 us',WH hus,us',Ly β' (l++l'),rfl,?_⟩;have hnd':Eb ((l++l').filterMap id)=true:=by rw [List.filterMap_append];exact hn1
 have hown:∀j b o,Ly β' (l++l') j=some (b,o)->∃id,(l++l')[j]?=some (some id)∧β' id=some (b,o):=by
  intro j b o hj;unfold Ly at hj;cases hlj:(l++l')[j]? with
  |none=>rw [hlj] at hj;cases hj
  |some q=>
   cases q with
   |none=>rw [hlj] at hj;cases hj
   |some id=>
    rw [hlj] at hj;exact ⟨id,rfl,hj⟩
 have hmem:∀(j i:Nat),(l++l')[j]?=some (some i)->i∈l.filterMap id++l'.filterMap id:=by
  intro j i hj;rw [←List.filterMap_append];exact List.mem_filterMap.2 ⟨some i,List.mem_of_getElem? hj,rfl⟩
 have hlive:∀(j i:Nat),(l++l')[j]?=some (some i)->Cd (s'.hp i):=by
  intro j i hj;rcases List.mem_append.1 (List.mem_of_getElem? hj) with hm'|hm'
  ·exact hL i hm'
  ·obtain ⟨c,hc⟩:=hL' i hm';rw [hc];trivial
 have hunfz:∀i,i∈(l.filterMap id++l'.filterMap id)++q->Ah s'.hp (z++z') i=s'.hp i:=by
  intro i hi;rw [B6,if_neg (fun hm'=>hfz i hm' hi)]
 have hpinL:∀i b o,bt i 0=some (b,o)->C2 fn.ntmps i∈q∧Cd (s'.hp (C2 fn.ntmps i))∧β' (C2 fn.ntmps i)=some (b,o):=by
  intro i b o hb0;obtain ⟨p,h1,h2⟩:=hin.l0 i _ hb0;have h3:=hpi i p h1 h2;rw [Nat.zero_add] at h3;exact ⟨h3,hq _ h3,(h.pin i ⟨p,h1,h2⟩).2.trans hb0⟩
 have hAO:∀b,QP bt (Ly β' (l++l')) Y b->Cw (Ah s'.hp (z++z')) β' Y b:=by
  rintro b (⟨j,o,hj⟩|⟨i,o,hb0⟩|hY)
  ·obtain ⟨id,h1,h2⟩:=hown j b o hj;refine .inl ⟨id,o,?_,h2⟩;rw [hunfz id (List.mem_append.2 (.inl (hmem j id h1)))];exact hlive j id h1
  ·obtain ⟨h1,h2,h3⟩:=hpinL i b o hb0;refine .inl ⟨_,o,?_,h3⟩;rw [hunfz _ (List.mem_append.2 (.inr h1))];exact h2
  ·exact .inr hY
 have hnew:∀(j id b o:Nat),(l++l')[j]?=some (some id)->β' id=some (b,o)->b<w.heap.size->∃i k o',bt i (k+1)=some (b,o'):=by
  intro j id b o hj hβ hlt;rcases h.ownd b ⟨id,o,hlive j id hj,hβ⟩ with ⟨i,k,o',hb0⟩|hge
  ·cases k with
   |zero=>
    obtain ⟨h1,h2,h3⟩:=hpinL i b o' hb0;have:=h.inj id _ b o o' (hlive j id hj) h2 hβ h3;subst this;exact absurd h1 (hn3 _ (hmem j _ hj))
   |succ k=>exact ⟨i,k,o',hb0⟩
  ·omega
 refine ⟨h.fr.os,h.fr.tape,h.fr.output,h.fr.step,h.fr.rng,?_,?_,?_,?_⟩
 ·refine hv (z++z') _ _ (fun i hi=>List.mem_append.2 (.inl hi)) hrow hAO (fun id c b o hi hc hβ=>?_) _ 0 (fun j hj=>by rw [Nat.zero_add,Yl hj])
  rcases Nat.lt_or_ge b w.heap.size with hlt|hge
  ·obtain ⟨k,hk',p,h1,h2⟩:=h.stp id c b o hc hβ hlt;have h3:=hpi k p h1 h2;rw [Nat.zero_add,←hk'] at h3;obtain ⟨j,hj⟩:=List.mem_iff_getElem?.1 hi;refine absurd h3 (hn3 id ?_);exact List.mem_append.2 (.inl (List.mem_filterMap.2 ⟨some id,hi,rfl⟩))
  ·exact hge
 ·refine hv' (z++z') _ (fun i hi=>List.mem_append.2 (.inr hi)) hrow (fun i hi hm'=>hfz i hm' (List.mem_append.2 (.inr hi))) hAO _ _ (fun j hj=>?_)
  rw [←hll,Xw]
 ·intro j b o hj;obtain ⟨id,h1,h2⟩:=hown j b o hj;refine ⟨h.blt id b o (Cv (hlive j id h1)) h2,fun hlt=>⟨hnew j id b o h1 h2 hlt,fun x hx=>?_⟩⟩
  cases hbx:s'.hp id with
  |none=>have:=hlive j id h1;rw [hbx] at this;exact this.elim
  |some bx=>
   have hl1:=hlive j id h1;rw [hbx] at hl1;cases bx with
   |st c=>
    obtain ⟨k,hk',p,h3,h4⟩:=h.stp id c b o hbx h2 hlt;have h5:=hpi k p h3 h4;rw [Nat.zero_add,←hk'] at h5;exact absurd h5 (hn3 _ (hmem j _ h1))
   |ar fz c=>exact h.rngB id _ b o hbx hl1 h2 hlt x hx
   |mv=>exact hl1.elim
 ·intro j j' b o o' hj hj';obtain ⟨id,h1,h2⟩:=hown j b o hj;obtain ⟨id',h1',h2'⟩:=hown j' b o' hj';have:=h.inj id id' b o o' (hlive j id h1) (hlive j' id' h1') h2 h2';subst this;exact TE hnd' h1 h1'
theorem JV {G:Ua}(hNG:NoNG P)(hm:P.follows .mixedOrders=true){C:Hb}{fu:Nat}{call:Ai}(hcall:∀f args res,call f args=some res->C6 G P f args res){f:FuncId}{fn:Func}{c:Code}(hf:P.funcs[f]?=some fn) (hb:fn.body=some c)
  {args:List PV} {res:A0} (hk:Akf C P fu call f fn c args=some res):C6 G P f args res:=by
 refine ⟨⟨fn,hf,by rw [hb];rfl⟩,fun w Y bt us hin hG hGY=>?_⟩
 unfold Akf at hk;obtain ⟨tms,bs,hk1,hst⟩:=NZ hin hk;obtain ⟨hb1,hk2⟩:=Aq hk1;simp only [Bool.and_eq_true] at hb1
 have hlen:us.length<=fn.ntmps:=by
  rw [←hin.args.len];exact Nat.le_of_ble_eq_true hb1.1
 obtain ⟨h8,β0,hs⟩:=hst hb1.2 hlen;refine calls_of_wp hf hb ?_;have hE:HC P G w (IK bt args h8):=⟨hNG,fun w' hfr=>G.stable w w' (fun b hb hlt=>hfr.step.keep b hlt (hGY b hb).2) hG,hGY⟩
 refine IV hE hcall hm c hs hk2 (fun s' a' w' β' hr h=>DE hin hr h) (fun id s' a' w' β' hr h=>by cases hr) (fun s' a' w' β' hr h=>DE hin hr h)
def Ab4 (G:Ua)(P:Program)(C:Hb):Prop:=∀f g args res,C.ext f=some g->g args=some res->C6 G P f args res
theorem Vi {G:Ua}(hNG:NoNG P)(hm:P.follows .mixedOrders=true){C:Hb}(hx:Ab4 G P C){fu:Nat}:∀(d:Nat)(f:FuncId)(args:List PV)(res:A0),Ae C P fu d f args=some res->C6 G P f args res
 |0,_,_,_,h=>by cases h
 |d+1,f,args,res,h=>by
  unfold Ae at h;split at h
  ·rename_i g hg;exact hx f g args res hg h
  ·split at h
   ·cases h
   ·rename_i fn hf;split at h
    ·cases h
    ·rename_i c hb;exact JV hNG hm (Vi hNG hm hx d) hf hb h
end
open Go.ChangeShapes Go.WideShapes Go.ChangeAt Go.RowKit Go.Deep
def RD (P:Program):List Field->Nat->Nat->Bool
 |[],i,n=>Nat.beq i n
 |f::r,i,n=>Nat.beq f.offset i&&RD P r (i+P.cellsOf f.type) n
def Nr (P:Program):Nat->TypeId->Bool
 |0,_=>false
 |d+1,t=>
  match P.underlying t with
  |some .bool=>true
  |some (.int _)=>true
  |some .string=>true
  |some (.slice e)=>Nr P d e&&Nat.blt 0 (P.cellsOf e)
  |some (.struct fs)=>RD P fs.toList 0 (P.cellsOf t)&&fs.toList.all fun f=>Nr P d f.type
  |some (.array n e)=>Nat.beq (P.cellsOf t) (n*P.cellsOf e)&&Nr P d e
  |_=>false
def WT (P:Program):Nat->TypeId->List PV->Prop
 |0,_,_=>False
 |d+1,t,ps=>
  match P.underlying t with
  |some .bool=>∃b,ps=[.sc (.bool b)]
  |some (.int k)=>∃n,ps=[.sc (.int k n)]∧(Lit.int k n).wf=true
  |some .string=>∃s:ByteArray,ps=[.sc (.string s)]∧s.size<=maxLen
  |some (.slice e)=>∃rows:List (List PV),ps=[.lst false (P.cellsOf e) rows.length rows.flatten]∧rows.length<=maxLen∧∀r∈rows,r.length=P.cellsOf e∧WT P d e r
  |some (.struct fs)=>∃rows:List (List PV),ps=rows.flatten∧Bj (fun f r=>WT P d f.type r) fs.toList rows
  |some (.array n e)=>∃rows:List (List PV),ps=rows.flatten∧rows.length=n∧∀r∈rows,r.length=P.cellsOf e∧WT P d e r
  |_=>False
def WTv (P:Program)(t:TypeId)(p:PV):Prop:=
 match Cr P t with
 |true=>∃ps,p=.agg ps∧WT P 12 t ps
 |false=>WT P 12 t [p]
section
variable {P:Program} {d:Nat} {t e:TypeId} {ps:List PV}
theorem Ak9 (hu:P.underlying t=some .bool):WT P (d+1) t ps↔∃b,ps=[.sc (.bool b)]:=by
 show (match P.underlying t with|some .bool=>_|some (.int k)=>_|some .string=>_|some (.slice e)=>_|some (.struct fs)=>_|some (.array n e)=>_|_=>_)↔_
 rw [hu]
theorem Ai4 {k:IntKind}(hu:P.underlying t=some (.int k)):WT P (d+1) t ps↔∃n,ps=[.sc (.int k n)]∧(Lit.int k n).wf=true:=by
 show (match P.underlying t with|some .bool=>_|some (.int k)=>_|some .string=>_|some (.slice e)=>_|some (.struct fs)=>_|some (.array n e)=>_|_=>_)↔_
 rw [hu]
theorem Adr (hu:P.underlying t=some .string):WT P (d+1) t ps↔∃s:ByteArray,ps=[.sc (.string s)]∧s.size<=maxLen:=by
 show (match P.underlying t with|some .bool=>_|some (.int k)=>_|some .string=>_|some (.slice e)=>_|some (.struct fs)=>_|some (.array n e)=>_|_=>_)↔_
 rw [hu]
theorem UG (hu:P.underlying t=some (.slice e)):WT P (d+1) t ps↔∃rows:List (List PV),ps=[.lst false (P.cellsOf e) rows.length rows.flatten]∧rows.length<=maxLen∧∀r∈rows,r.length=P.cellsOf e∧WT P d e r:=by
 show (match P.underlying t with|some .bool=>_|some (.int k)=>_|some .string=>_|some (.slice e)=>_|some (.struct fs)=>_|some (.array n e)=>_|_=>_)↔_
 rw [hu]
theorem Adz {fs:Array Field}(hu:P.underlying t=some (.struct fs)):WT P (d+1) t ps↔∃rows:List (List PV),ps=rows.flatten∧Bj (fun f r=>WT P d f.type r) fs.toList rows:=by
 show (match P.underlying t with|some .bool=>_|some (.int k)=>_|some .string=>_|some (.slice e)=>_|some (.struct fs)=>_|some (.array n e)=>_|_=>_)↔_
 rw [hu]
theorem Ah5 {n:Nat}(hu:P.underlying t=some (.array n e)):WT P (d+1) t ps↔∃rows:List (List PV),ps=rows.flatten∧rows.length=n∧∀r∈rows,r.length=P.cellsOf e∧WT P d e r:=by
 show (match P.underlying t with|some .bool=>_|some (.int k)=>_|some .string=>_|some (.slice e)=>_|some (.struct fs)=>_|some (.array n e)=>_|_=>_)↔_
 rw [hu]
end
inductive Ki where
 |bool
 |int (k:IntKind)
 |str
 |sl (e:TypeId)
 |st (ts:List TypeId)
 |ar (n:Nat) (e:TypeId)
 |no
def Su (P:Program)(t:TypeId):Ki:=
 match P.underlying t with
 |some .bool=>.bool
 |some (.int k)=>.int k
 |some .string=>.str
 |some (.slice e)=>.sl e
 |some (.struct fs)=>.st (fs.toList.map (·.type))
 |some (.array n e)=>.ar n e
 |_=>.no
section
variable {P:Program} {d:Nat} {t e:TypeId} {ps:List PV} {p:PV}
theorem Bj.cons_inv {α β:Type}{R:α->β->Prop}{a:α}{zs:List α}:∀{rs:List β},Bj R (a::zs) rs->∃r rs',rs=r::rs'∧R a r∧Bj R zs rs'
 |[],h=>h.elim
 |r::rs,h=>⟨r,rs,rfl,h.1,h.2⟩
theorem Bj.nil_inv {α β:Type}{R:α->β->Prop}:∀{rs:List β},Bj R ([]:List α) rs->rs=[]
 |[],_=>rfl
 |_::_,h=>h.elim
theorem Afi {k:IntKind}(hk:Su P t=.int k)(h:WT P d t ps):∃n,ps=[.sc (.int k n)]∧(Lit.int k n).wf=true:=by
 cases d with
 |zero=>exact h.elim
 |succ d=>
 unfold Su at hk;split at hk<;>first|cases hk|skip
 rename_i hu;exact (Ai4 hu).1 h
theorem Asa (hk:Su P t=.sl e)(h:WT P d t ps):∃rows:List (List PV),ps=[.lst false (P.cellsOf e) rows.length rows.flatten]∧rows.length<=maxLen∧∀r∈rows,r.length=P.cellsOf e∧WT P (d-1) e r:=by
 cases d with
 |zero=>exact h.elim
 |succ d=>
 rw [Nat.add_sub_cancel];unfold Su at hk;split at hk<;>first|cases hk|skip
 rename_i hu;exact (UG hu).1 h
theorem Abi (hk:Cr P t=false)(h:WTv P t p):WT P 12 t [p]:=by
 unfold WTv at h;rw [hk] at h;exact h
theorem SM {k:IntKind}(ha:Cr P t=false)(hk:Su P t=.int k)(h:WTv P t p):∃n,p=.sc (.int k n)∧(Lit.int k n).wf=true:=by
 obtain ⟨b,e,h⟩:=Afi hk (Abi ha h);exact ⟨b,by injection e,h⟩
theorem EG {α:Type}(f:α->List PV)(Q:α->Prop):∀{rows:List (List PV)},(∀r∈rows,∃x,r=f x∧Q x)->∃xs:List α,rows.flatten=xs.flatMap f∧rows.length=xs.length∧∀x∈xs,Q x
 |[],_=>⟨[],rfl,rfl,by simp⟩
 |r::rows,h=>by
  obtain ⟨x,h1,h2⟩:=h r (by simp)
  obtain ⟨xs,h3,h4,h5⟩:=EG (rows:=rows) f Q fun r hr=>h r (by simp [hr])
  refine ⟨x::xs,by simp [h1,h3],by simp [h4],fun y hy=>?_⟩
  rcases List.mem_cons.1 hy with rfl|hy
  ·exact h2
  ·exact h5 y hy
end
abbrev No:Nat->Prop:=fun _=>False
section
variable {H:Type} {enc:TypeId × Value->H} {P:Program} {w:World} {base:Nat} {held:Bool}
theorem Bj.flat {α β:Type}{R:α->β->Prop}:∀{l:List Nat}{f:Nat->List α}{g:Nat->List β},(∀i∈l,Bj R (f i) (g i))->Bj R (l.map f).flatten (l.map g).flatten
 |[],_,_,_=>trivial
 |i::l,f,g,h=>by
  simp only [List.map_cons,List.flatten_cons];exact (h i (by simp)).app (Bj.flat fun j hj=>h j (by simp [hj]))
theorem Ac5 {a:Addr}{v:Value}(h:w.cell? a=some v):a.spot=none∧a.block<w.heap.size:=by
 unfold World.cell? at h;split at h
 ·rename_i c t f e;refine ⟨?_,?_⟩
  ·cases hs:a.spot with
   |none=>rfl
   |some x=>rw [hs] at h;simp at h
  ·rcases Nat.lt_or_ge a.block w.heap.size with h1|h1
   ·exact h1
   ·rw [Array.getElem?_eq_none h1] at e;cases e
 ·cases h
theorem KY {α:Type}{g:Nat->List α}{es:Nat}:∀{n:Nat},(∀i,i<n->(g i).length=es)->((List.range n).map g).flatten.length=n*es
 |0,_=>by simp
 |n+1,h=>by
  rw [List.range_succ,List.map_append,List.flatten_append,List.length_append,KY (fun i hi=>h i (by omega))]
  simp [h n (by omega),Nat.succ_mul]
theorem JE {a:Addr}{g:Nat->List Value}{es:Nat}:∀{n:Nat},(∀i,i<n->(g i).length=es)->(∀i,i<n->∀k,k<es->w.cell? (a.add (i*es+k))=(g i)[k]?) ->
  ∀j,j<n*es->w.cell? (a.add j)=(((List.range n).map g).flatten)[j]?
 |0,_,_,j,hj=>by omega
 |n+1,hl,hc,j,hj=>by
  have hfl:=KY (fun i (hi:i<n)=>hl i (by omega))
  rw [List.range_succ,List.map_append,List.flatten_append,List.getElem?_append,hfl];rw [Nat.succ_mul] at hj;split
  ·rename_i h1;exact JE (fun i hi=>hl i (by omega)) (fun i hi=>hc i (by omega)) j h1
  ·rename_i h1;have:=hc n (by omega) (j-n*es) (by omega)
   rw [show n*es+(j-n*es)=j by omega] at this
   simpa using this
abbrev TR (w:World)(c:PV)(v:Value):Prop:=(Xg c∧A5 w No c v)∧v.oneCell'=true
theorem FK {d:Nat}{cs:List Value}{n:Nat}(hn:cs.length=n):∀(l:List Field)(i:Nat),RD P l i n=true ->
  (∀f∈l,∃ps,WT P d f.type ps∧Bj (TR w) ps ((cs.drop f.offset).take (P.cellsOf f.type)))->∃rows:List (List PV),Bj (fun f r=>WT P d f.type r) l rows∧Bj (TR w) rows.flatten (cs.drop i)
 |[],i,ho,_=>by
  have:=Nat.eq_of_beq_eq_true ho;refine ⟨[],trivial,?_⟩;rw [List.drop_of_length_le (by omega)]
  trivial
 |f::l,i,ho,h=>by
  simp only [RD,Bool.and_eq_true] at ho;have ho1:=Nat.eq_of_beq_eq_true ho.1;obtain ⟨ps,h1,h2⟩:=h f (by simp)
  obtain ⟨rows,h3,h4⟩:=FK hn l _ ho.2 fun g hg=>h g (by simp [hg])
  refine ⟨ps::rows,⟨h1,h3⟩,?_⟩;rw [ho1] at h2;have:cs.drop i=(cs.drop i).take (P.cellsOf f.type)++cs.drop (i+P.cellsOf f.type):=by rw [←List.drop_drop];exact (List.take_append_drop _ _).symm
  rw [this,List.flatten_cons];exact h2.app h4
theorem KH {d:Nat}{e:TypeId}{cs:List Value}{k:Nat}:∀(n:Nat),n*k<=cs.length ->
  (∀i,i<n->∃ps,(ps.length=k∧WT P d e ps)∧Bj (TR w) ps ((cs.drop (i*k)).take k))->∃rows:List (List PV),rows.length=n∧(∀r∈rows,r.length=k∧WT P d e r)∧Bj (TR w) rows.flatten (cs.take (n*k))
 |0,_,_=>⟨[],rfl,by simp,by simp [Bj]⟩
 |n+1,hl,h=>by
  rw [Nat.succ_mul] at hl;obtain ⟨rows,h1,h2,h3⟩:=KH n (by omega) fun i hi=>h i (by omega)
  obtain ⟨ps,h4,h5⟩:=h n (by omega)
  refine ⟨rows++[ps],by simp [h1],?_,?_⟩
  ·intro r hr;rcases List.mem_append.1 hr with hr|hr
   ·exact h2 r hr
   ·rw [List.mem_singleton.1 hr];exact h4
  ·rw [List.flatten_append,Nat.succ_mul,List.take_add];refine h3.app ?_
   simpa using h5
theorem V6:∀(d:Nat)(t:TypeId),Nr P d t=true->∀(fuel:Nat)(cs:List Value)(x:DataW H × List MemPlace),DataW.trod enc P w base (fun _=>true) held fuel t cs=some x ->
  ∃ps,WT P d t ps∧Bj (TR w) ps cs
 |0,_,h,_,_,_,_=>by cases h
 |d+1,t,hp,fuel,cs,x,h=>by
  unfold Nr at hp;split at hp
  ·rename_i hu;obtain ⟨b,rfl,_⟩:=DataW.trod_bool hu h;simp only [Ak9 hu];exact ⟨[.sc (.bool b)],⟨b,rfl⟩,⟨⟨trivial,A5.sc _⟩,rfl⟩,trivial⟩
  ·rename_i k hu;obtain ⟨n,rfl,_,hw⟩:=DataW.trod_int hu h;simp only [Ai4 hu];exact ⟨[.sc (.int k n)],⟨n,rfl,hw⟩,⟨⟨trivial,A5.sc _⟩,rfl⟩,trivial⟩
  ·rename_i hu;obtain ⟨s,rfl,_,hw⟩:=DataW.trod_string hu h;simp only [Adr hu];exact ⟨[.sc (.string s)],⟨s,rfl,hw⟩,⟨⟨trivial,A5.sc _⟩,rfl⟩,trivial⟩
  ·rename_i e hu;simp only [Bool.and_eq_true] at hp;have hes:0<P.cellsOf e:=Nat.lt_of_succ_le (Nat.le_of_ble_eq_true hp.2);simp only [UG hu];rcases open_slice hu h with ⟨rfl,_⟩|⟨a,len,cap,m,n,D,Pl,rfl,_,hl,hm,hmm,_,hi⟩
   ·exact ⟨[.lst false (P.cellsOf e) 0 []],⟨[],by simp,by simp,by simp⟩,⟨⟨trivial,A5.lnil _ _⟩,rfl⟩,trivial⟩
   ·simp only [if_true] at hmm;subst hmm
    have hi':∀i,i<len->∃q:List PV × List Value,(q.2.length=P.cellsOf e∧(∀k,k<P.cellsOf e->w.cell? (a.add (i*P.cellsOf e+k))=q.2[k]?))∧WT P d e q.1∧Bj (TR w) q.1 q.2:=by
     intro i hlt;obtain ⟨cs',hc,ht⟩:=hi i (by omega)
     obtain ⟨_,hcl,hat⟩:=World.cells?_some hc;obtain ⟨ps,h1,h2⟩:=V6 d e hp.1 _ _ _ ht;exact ⟨(ps,cs'),⟨hcl,fun k hk=>by rw [←Pv.add_add];exact hat k hk⟩,h1,h2⟩
    obtain ⟨F,hF⟩:=choose_lt hi';refine ⟨[.lst false (P.cellsOf e) len ((List.range len).map fun i=>(F i).1).flatten],⟨(List.range len).map fun i=>(F i).1,by simp,by simp;omega,?_⟩,⟨⟨trivial,?_⟩,rfl⟩,trivial⟩
    ·intro r hr;obtain ⟨i,hi1,rfl⟩:=List.mem_map.1 hr;have hi2:=List.mem_range.1 hi1;exact ⟨by rw [(hF i hi2).2.2.len];exact (hF i hi2).1.1,(hF i hi2).2.1⟩
    ·rcases Nat.eq_zero_or_pos len with h0|h0
     ·subst h0;exact A5.lemp _ _ _
     ·have hall:Bj (TR w) ((List.range len).map fun i=>(F i).1).flatten ((List.range len).map fun i=>(F i).2).flatten:=Bj.flat fun i hi=>(hF i (List.mem_range.1 hi)).2.2
      have hcell:=JE (w:=w) (a:=a) (g:=fun i=>(F i).2) (fun i hi=>(hF i hi).1.1) (fun i hi=>(hF i hi).1.2)
      have hlen:=KY (g:=fun i=>(F i).2) (fun i (hi:i<len)=>(hF i hi).1.1)
      have h00:w.cell? a≠none:=by
       have:=hcell 0 (Nat.mul_pos h0 hes);rw [show a.add 0=a by unfold Addr.add;simp] at this
       rw [this,List.getElem?_eq_getElem (by rw [hlen];exact Nat.mul_pos h0 hes)]
       simp
      obtain ⟨v0,hv0⟩:=Option.ne_none_iff_exists'.1 h00;obtain ⟨hs,hb⟩:=Ac5 hv0
      have key:∀j c,(((List.range len).map fun i=>(F i).1).flatten)[j]?=some c->∃v,w.cell? (a.add j)=some v∧TR w c v:=by
       intro j c hj
       have hlj:j<len*P.cellsOf e:=by
        rw [←hlen,←hall.len];rcases Nat.lt_or_ge j (((List.range len).map fun i=>(F i).1).flatten).length with h1|h1
        ·exact h1
        ·rw [List.getElem?_eq_none h1] at hj;cases hj
       have h1:=hcell j hlj;rw [List.getElem?_eq_getElem (by rw [hlen];exact hlj)] at h1
       exact ⟨_,h1,hall.at_ hj (List.getElem?_eq_getElem (by rw [hlen];exact hlj))⟩
      refine A5.lst _ _ _ a _ (fun j=>(w.cell? (a.add j)).getD undef) hs hb (fun h=>h) hl (fun j c hj=>?_) (fun j c hj=>?_) (fun j c hj=>?_)
      ·obtain ⟨v,hv,_⟩:=key j c hj;rw [hv];rfl
      ·obtain ⟨v,hv,ht⟩:=key j c hj;rw [hv];exact ht.2
      ·obtain ⟨v,hv,ht⟩:=key j c hj;rw [hv];exact ht.1.2
  ·rename_i fs hu;simp only [Bool.and_eq_true] at hp;simp only [Adz hu];obtain ⟨xs,n,_,_,hlen,hxl,hf⟩:=DataW.trod_struct hu h
   obtain ⟨rows,h1,h2⟩:=FK (P:=P) (w:=w) (d:=d) hlen fs.toList 0 hp.1 fun f hf'=>by
    obtain ⟨i,hi⟩:=List.mem_iff_getElem?.1 hf';have hi':fs[i]?=some f:=by simpa using hi
    have hlt:i<fs.size:=(Array.getElem?_eq_some_iff.1 hi').1;have h3:=hf i f hi';rw [List.getElem?_eq_getElem (by omega)] at h3
    exact V6 d f.type (List.all_eq_true.1 hp.2 f hf') _ _ _ h3
   exact ⟨_,⟨rows,rfl,h1⟩,by simpa using h2⟩
  ·rename_i n e hu;simp only [Bool.and_eq_true] at hp;simp only [Ah5 hu];obtain ⟨xs,m,_,_,hlen,hxl,hf⟩:=DataW.trod_array hu h;have hsz:=Nat.eq_of_beq_eq_true hp.1
   obtain ⟨rows,h1,h2,h3⟩:=KH (P:=P) (w:=w) (d:=d) (e:=e) (cs:=cs) (k:=P.cellsOf e) n (by omega) fun i hi=>by
    have h3:=hf i hi;rw [List.getElem?_eq_getElem (by omega)] at h3
    obtain ⟨ps,h4,h5⟩:=V6 d e hp.2 _ _ _ h3;refine ⟨ps,⟨?_,h4⟩,h5⟩;rw [h5.len,List.length_take,List.length_drop,hlen,hsz];have:(i+1)*P.cellsOf e<=n*P.cellsOf e:=Nat.mul_le_mul_right _ hi;rw [Nat.succ_mul] at this;omega
   refine ⟨_,⟨rows,rfl,h1,h2⟩,?_⟩;rw [List.take_of_length_le (by omega)] at h3
   exact h3
  ·cases hp
theorem Ah9 {r:Reach}{b0:Nat}{t:TypeId}{v:Value}{dd:DataW H}{p:List MemPlace}(hp:Nr P 12 t=true)(hv:Value.okWide P w r b0 t v)(h:DataW.Trod enc P w base (fun _=>true) held t v dd p):
  ∃q,WTv P t q∧Tc w No q v:=by
 obtain ⟨fuel,hf⟩:=h;obtain ⟨ps,h1,h2⟩:=V6 12 t hp fuel _ _ hf;unfold WTv Cr
 have two:∀{cs:Array Value},v=.agg cs->∃q,(∃ps,q=.agg ps∧WT P 12 t ps)∧Tc w No q v:=by
  intro cs e;subst e;exact ⟨.agg ps,⟨ps,rfl,h1⟩,cs.toList,by simp,h2.mono fun c v h=>h.1⟩
 have one:v.cells.toList=[v]->∃q,WT P 12 t [q]∧Tc w No q v:=by
  intro e;rw [e] at h2
  match ps,h2 with
  |[q],h2=>
   refine ⟨q,h1,?_⟩;have h3:=h2.1.1;cases q<;>first|exact h3|exact h3.1.elim
  |[],h2=>exact h2.elim
  |_::_::_,h2=>exact h2.2.elim
 unfold Nr at hp;split at hp
 ·rename_i hu;simp only [hu];obtain ⟨b,rfl,_⟩:=open_bool hu hv ⟨fuel,hf⟩;exact one rfl
 ·rename_i k hu;simp only [hu];obtain ⟨b,rfl,_⟩:=open_int hu hv ⟨fuel,hf⟩;exact one rfl
 ·rename_i hu;simp only [hu];obtain ⟨b,rfl,_⟩:=ChangeMaps.open_string hu hv ⟨fuel,hf⟩;exact one rfl
 ·rename_i e hu;simp only [hu];obtain ⟨a,len,cap,rfl⟩:=okWide_slice hu hv;exact one rfl
 ·rename_i fs hu;simp only [hu];obtain ⟨cs,rfl,_⟩:=okWide_struct hu hv;exact two rfl
 ·rename_i n e hu;simp only [hu];unfold Value.okWide at hv;simp only [hu] at hv;obtain ⟨cs,rfl,_⟩:=hv;exact two rfl
 ·cases hp
theorem OR:∀{ts:List TypeId}{vs:List Value}{ds:List (DataW H)} {p:List MemPlace}{r:Reach}{b0:Nat},(ts.all fun t=>Nr P 12 t)=true->(∀(j:Nat) t v,ts[j]?=some t->vs[j]?=some v->Value.okWide P w r b0 t v) ->
  DataW.TrodAll enc P w base (fun _=>true) held ts vs ds p->∃qs,Bj (WTv P) ts qs∧Bj (Tc w No) qs vs
 |[],[],[],_,_,_,_,_,_=>⟨[],trivial,trivial⟩
 |t::ts,v::vs,d::ds,_,r,b0,hp,hv,⟨p,q,h1,h2,_⟩=>by
  simp only [List.all_cons,Bool.and_eq_true] at hp;obtain ⟨x,h3,h4⟩:=Ah9 hp.1 (hv 0 t v rfl rfl) h1;obtain ⟨xs,h5,h6⟩:=OR hp.2 (fun j t v ht hv'=>hv (j+1) t v ht hv') h2
  exact ⟨x::xs,⟨h3,h5⟩,h4,h6⟩
 |[],_::_,_,_,_,_,_,_,h=>by cases h
 |[],[],_::_,_,_,_,_,_,h=>by cases h
 |_::_,[],_,_,_,_,_,_,h=>by cases h
 |_::_,_::_,[],_,_,_,_,_,h=>by cases h
theorem Xb (hl:laidOutB P=true){W W':World}{sp:Nat->Bool}:∀{ts:List TypeId}{vs:List Value}{ds:List (DataW H)} {p:List MemPlace},(ts.all fun t=>P.readableRec t&&Nat.blt t P.types.size)=true ->
  DataW.TrodAll enc P W 0 (fun _=>true) true ts vs ds p->(∀x∈p,W.sameAt W' x)->(∀x∈p,sp x.block=true)->DataW.TrodAll enc P W' 0 sp true ts vs ds p
 |[],[],[],_,_,h,_,_=>h
 |t::ts,v::vs,d::ds,_,hr,⟨p,q,h1,h2,e⟩,hs,hsp=>by
  simp only [List.all_cons,Bool.and_eq_true] at hr;refine ⟨p,q,WideElems.Trod_stays hl hr.1.1 (Nat.lt_of_succ_le (Nat.le_of_ble_eq_true hr.1.2)) h1 (fun x hx=>hs x ?_) (fun x hx=>hsp x ?_),Xb hl hr.2 h2 (fun x hx=>hs x ?_) (fun x hx=>hsp x ?_),e⟩
  all_goals rw [e,List.mem_append]
  ·exact .inl hx
  ·exact .inl hx
  ·exact .inr hx
  ·exact .inr hx
 |[],_::_,_,_,_,h,_,_=>by cases h
 |[],[],_::_,_,_,h,_,_=>by cases h
 |_::_,[],_,_,_,h,_,_=>by cases h
 |_::_,_::_,[],_,_,h,_,_=>by cases h
theorem MK {f:Func}{s:ChangeSpec}{apart fresh handsOn again:Bool}{W W':World}{args:Array Value}{v:Value}{ds gs:List (DataW H)} {before pa pv:List MemPlace}
  (hW:DataW.Whole enc P f.params.toList s.vars apart W args.toList ds gs before)
  (hres:∀(b:Nat)(sp:Nat->Bool)(hd:Bool),DataW.TrodAll enc P W' b sp hd f.resultTypes.toList (v.resultList f.resultTypes.size) (s.fn H (ds++gs)).results [])
  (hargs:∀sp:Nat->Bool,(∀p∈before,sp p.block=true)->DataW.TrodAll enc P W' 0 sp true f.params.toList args.toList (s.fn H (ds++gs)).args pa)
  (hvars:∀sp:Nat->Bool,(∀p∈before,sp p.block=true)->DataW.TrodVars enc P W' sp s.vars (s.fn H (ds++gs)).vars pv)
  (hps:before=pa++pv)(hb:Below W.heap.size W W')
  (hok:∀(j:Nat)(t:TypeId)(r:Value),f.resultTypes[j]?=some t->(v.resultList f.resultTypes.size)[j]?=some r->Value.okWide P W' .any 0 t r):
  s.post enc P f apart fresh handsOn again W args v W':=by
 have hlt:∀p∈before,p.block<W.heap.size:=fun p hp=>hW.lt p hp
 have hold:∀p∈before,(fun b=>decide (b<W.heap.size)) p.block=true:=fun p hp=>by simpa using hlt p hp
 refine ⟨ds,gs,before,[],pa,pv,hW,hres _ _ _,hargs _ hold,hvars _ hold,World.keptBut_mono (fun p hp=>⟨hp,?_⟩) (hb.frame (· ∈ before)),fun _=>?_⟩
 ·rw [hps,List.mem_append] at hp;exact Or.inr hp
 ·obtain ⟨_,_,_,_,_,hz,hn⟩:=hW;refine ⟨hok,_,_,([]++pa)++pv,⟨[]++pa,pv,trodAll_append (hargs _ (fun _ _=>rfl)) (hres _ _ _),hvars _ (fun _ _=>rfl),rfl,?_,?_⟩,?_⟩
  ·intro b off hp;have hin:MemPlace.cell b off∈before:=by rw [hps];simpa using hp
   rw [hb.frozen (hlt _ hin)];exact hz b off hin
  ·intro ha;have:=hn ha;rw [hps] at this
   simpa using this
  ·intro p hp _;rw [hps]
   simpa using hp
theorem law_contract {G:Ua}{C:Hb}(hx:Ab4 G P C)(hNG:NoNG P)(hm:P.follows .mixedOrders=true)(hl:laidOutB P=true){f:FuncId}{fn:Func}{s:ChangeSpec}{tb:TypeId}(hfn:P.funcs[f]?=some fn)
  (hvars:s.vars=[]) (hspec:∀ds:List (DataW H),ds.length=fn.params.size->s.fn H ds={ results:=[.lit (.bool true)],args:=ds }) (hplain:(fn.params.toList.all fun t=>Nr P 12 t)=true)
  (hread:(fn.params.toList.all fun t=>P.readableRec t&&Nat.blt t P.types.size)=true) (hrt:fn.resultTypes = #[tb]) (hub:P.underlying tb=some .bool)
  {apart fresh handsOn again:Bool} (W:World) (base:Nat) (args:Array Value) (ds gs:List (DataW H)) (before:List MemPlace)
  (hval:∀(j:Nat) t v,fn.params[j]?=some t->args[j]?=some v->Value.okWide P W .any base t v)
  (hW:DataW.Whole enc P fn.params.toList s.vars apart W args.toList ds gs before)
  (hlaw:∀qs:List PV,Bj (WTv P) fn.params.toList qs->∃fu d,Ae C P fu d f qs=some ⟨[.sc (.bool true)],[]⟩) (hG:G.ok W)(hGY:∀b,G.bl b->b<W.heap.size):
  Calls P f args W fun e W'=>∃v,e=.returned v∧s.post enc P fn apart fresh handsOn again W args v W':=by
 have hW':=hW;obtain ⟨p,q,hA,hV,rfl,hfz,hnd⟩:=hW;rw [hvars] at hV;obtain ⟨rfl,rfl⟩:=trodVars_none hV;obtain ⟨qs,h1,h2⟩:=OR hplain (fun j t v ht hv=>hval j t v (by simpa using ht) (by simpa using hv)) hA
 obtain ⟨fu,d,hc⟩:=hlaw qs h1;have hS:=(Vi hNG hm hx d f qs _ hc).2 W No MS args.toList (UT (fun b h=>h.elim) h2) hG (fun b hb=>⟨hGY b hb,Uy b⟩)
 rw [Array.toArray_toList] at hS;refine hS.mono fun e W' ⟨vs,own,he,ho⟩=>?_
 have hv:=ho.vals
 have hvs:vs=[.bool true]:=by
  match vs,hv with
  |[u],hv=>
   have:A5 W' _ (.sc (.bool true)) u:=hv.1;rw [this.val]
  |[],hv=>exact hv.elim
  |_::_::_,hv=>exact hv.2.elim
 subst hvs;subst he;have hb:Below W.heap.size W W':=⟨ho.os,ho.tape,ho.output,ho.ext.size,fun k hk=>ho.ext.keep k hk (Uy k)⟩
 have hlt:∀x∈p,x.block<W.heap.size:=fun x hx=>hW'.lt x (by simpa using hx)
 have hlen:ds.length=fn.params.size:=by
  have:∀{ts:List TypeId} {vs:List Value} {ds:List (DataW H)} {p:List MemPlace},DataW.TrodAll enc P W 0 (fun _=>true) true ts vs ds p->ds.length=ts.length:=by
   intro ts
   induction ts with
   |nil=>intro vs ds p h;cases vs<;>cases ds<;>first|rfl|cases h
   |cons t ts ih=>
    intro vs ds p h;cases vs with
    |nil=>cases h
    |cons v vs=>
     cases ds with
     |nil=>cases h
     |cons d ds=>obtain ⟨_,_,_,h2,_⟩:=h;simp [ih h2]
  simpa using this hA
 have hsp:=hspec (ds++[]) (by simpa using hlen)
 refine ⟨_,rfl,MK (pa:=p) (pv:=[]) hW' ?_ ?_ ?_ rfl hb ?_⟩
 ·intro b sp hd;rw [hsp,hrt];exact trodAll_mk1 (shut_bool hub _)
 ·intro sp hspb;rw [hsp];simp only [List.append_nil];exact Xb hl hread hA (fun x hx=>hb.same (hlt x hx)) (fun x hx=>hspb x (by simpa using hx))
 ·intro sp _;rw [hsp,hvars];rfl
 ·exact ok_one hrt rfl (okWide_bool_mk hub _)
end
end
section
set_option maxRecDepth 100000
theorem Ajr {d:Nat}{ps:List PV}{k:IntKind}{t e:TypeId}(hk:Su Tryz.prog t=.sl e)(hc:Tryz.prog.cellsOf e=1)(he:Su Tryz.prog e=.int k)(h:WT Tryz.prog d t ps):
  ∃l:List Int,ps=[.lst false 1 l.length (Af k l)]∧l.length<=maxLen∧∀n∈l,(Lit.int k n).wf=true:=by
 obtain ⟨rows,rfl,hl,hr⟩:=Asa hk h;obtain ⟨l,h1,h2,h3⟩:=EG (Aqg k) (fun n=>(Lit.int k n).wf=true) fun r hrr=>Afi he (hr r hrr).2
 refine ⟨l,?_,by omega,h3⟩
 rw [h1,h2,hc]
theorem Ait {n:Int}(h:(Lit.int .u8 n).wf=true):0<=n∧n<=255:=by
 simp [Lit.wf,IntKind.min,IntKind.max,IntKind.signed,IntKind.bits] at h;omega
theorem Ahd {p:PV}{k:IntKind}{t e:TypeId}(ha:Cr Tryz.prog t=false)(hk:Su Tryz.prog t=.sl e)(hc:Tryz.prog.cellsOf e=1)(he:Su Tryz.prog e=.int k)(h:WTv Tryz.prog t p):
  ∃l:List Int,p=.lst false 1 l.length (Af k l)∧l.length<=maxLen∧∀n∈l,(Lit.int k n).wf=true:=by
 have h':=Abi (P:=Tryz.prog) (t:=t) (p:=p) ha h;obtain ⟨l,h1,h2,h3⟩:=Ajr hk hc he h';exact ⟨l,by injection h1,h2,h3⟩
end
section
open Go.IntKind (wrap)
theorem Dd:type_of% @Bool.not_true:=@Bool.not_true
theorem Dy:type_of% @Bool.not_false:=@Bool.not_false
theorem B8:type_of% @Nat.mul_one:=@Nat.mul_one
theorem Br:type_of% @Nat.zero_add:=@Nat.zero_add
theorem E6:type_of% @List.drop_zero.{0}:=@List.drop_zero
theorem R9:type_of% @List.take_of_length_le.{0}:=@List.take_of_length_le
theorem Jz:type_of% @List.length_append.{0}:=@List.length_append
theorem Wh:type_of% @List.length_nil.{0}:=@List.length_nil
theorem J2:type_of% @List.length_cons.{0}:=@List.length_cons
theorem He:type_of% @Int.toNat_natCast:=@Int.toNat_natCast
theorem A6:type_of% @if_neg.{1}:=@if_neg
theorem B4:type_of% @if_pos.{1}:=@if_pos
theorem Zzq:type_of% @List.nil_append.{0}:=@List.nil_append
theorem ON:type_of% @Nat.add_zero:=@Nat.add_zero
theorem WY:type_of% @List.append_assoc.{0}:=@List.append_assoc
theorem Zzw:type_of% @List.map_cons.{0,0}:=@List.map_cons
end
section
open Go.IntKind (wrap)
set_option maxRecDepth 100000
abbrev M3:FuncId:=132
theorem Wp {xs:FuncId->Option (List PV->Option A0)} (fu d:Nat)(a0 a1:Int):Ae (CX xs) Tryz.prog fu (d+1) M3 [.sc (.int .u64 a0),.sc (.int .i64 a1)]=(fun (call:Ai)=>Aa (wrap .u64 a1) fun x1=>Aa (Qx .u64 x1 63) fun x2=>Ap (decide (0<=x2))<|Aa (G4 .u64 a0 x2) fun x3=>Aa (wrap .u64 (64-x2)) fun x4=>Ap (decide (0<=x4))<|Aa (D3 .u64 a0 x4) fun x5=>Aa (NP .u64 x3 x5) fun x6=>some (A0.mk [.sc (.int .u64 x6)] [])) (Ae (CX xs) Tryz.prog fu d):=by kernel_rfl
abbrev Fe:FuncId:=89
noncomputable def G3 (fu:Nat)(call:Ai)(a0n:Nat)(a0:List PV)(nn y0 y1:Nat)(y2:List PV)(y3 y4:Int)(y5:List PV):Option A0:=C5 CB Tryz.prog fu call 89 Tryz.f89 (Bw Tryz.f89) [.lst false 1 a0n a0] [.r,.r,.l,.r,.l] nn ⟨lk [(3,(.view 3 1 0 y0)),(11,(.lst false 1 y1 y2)),(12,(.sc (.int .i64 y3))),(13,(.sc (.int .i64 y4)))],B5 [(3,(.ar false y5))]⟩
noncomputable def Ik (fu:Nat)(call:Ai)(a0n:Nat)(a0:List PV)(m0 nn y0:Nat)(y1:Int)(y2:Nat)(y3:List PV)(y4 y5 y6:Int)(y7:List PV):Option A0:=C5 CB Tryz.prog fu call 89 Tryz.f89 (Bw Tryz.f89) [.lst false 1 a0n a0] [.r,.r,.l,.r,.l,.i m0,.r,.r,.l,.l,.r,.r,.l] nn ⟨lk [(3,(.view 3 1 0 y0)),(5,(.sc (.int .u64 y1))),(11,(.lst false 1 y2 y3)),(12,(.sc (.int .i64 y4))),(13,(.sc (.int .i64 y5))),(17,(.sc (.int .i64 y6)))],B5 [(3,(.ar false y7))]⟩
theorem Qh (fu:Nat)(call:Ai)(a0n:Nat)(a0:List PV)(nn y0 y1:Nat)(y2:List PV)(y3 y4:Int)(y5:List PV):G3 fu call a0n a0 (nn+1) y0 y1 y2 y3 y4 y5=(Bc (decide (y4<y3)) (Ap (decide (0<=y4)&&decide (y4<(↑y1:Int)))<|Ad .u64 (List.getD y2 (Int.toNat y4*1) .top) fun x2=>Ik fu call a0n a0 nn (fu) (y0) x2 (y1) (y2) (y3) (y4) 0 (y5)) (Ap (decide (y0*1<=y5.length))<|some (A0.mk [.own 1 y0 (List.take (y0*1) y5)] []))):=by kernel_rfl
theorem Ps (fu:Nat)(call:Ai)(a0n:Nat)(a0:List PV)(m0 nn y0:Nat)(y1:Int)(y2:Nat)(y3:List PV)(y4 y5 y6:Int)(y7:List PV):Ik fu call a0n a0 m0 (nn+1) y0 y1 y2 y3 y4 y5 y6 y7=(Bc (decide (y6<8)) (Aa (wrap .i64 (8*y6)) fun x3=>Aa (wrap .i64 (56-x3)) fun x4=>Ap (decide (0<=x4))<|Aa (D3 .u64 y1 x4) fun x5=>Aa (wrap .u8 x5) fun x6=>Ap (decide (y0*1<=y7.length)&&true&&decide ((y0+1)*1<=1099511627776)&&decide (y0+1<=1099511627776))<|Aa (y0+1) fun x7=>Aa (List.take (y0*1) y7++[.sc (.int .u8 x6)]) fun x8=>Aa (wrap .i64 (y6+1)) fun x9=>Ik fu call a0n a0 m0 (nn) x7 (y1) (y2) (y3) (y4) (y5) x9 x8) (Aa (wrap .i64 (y5+1)) fun Cm=>G3 fu call a0n a0 (m0) (y0) (y2) (y3) (y4) Cm (y7))):=by kernel_rfl
theorem IE {xs:FuncId->Option (List PV->Option A0)} (fu d a0n:Nat)(a0:List PV):Ae (CX xs) Tryz.prog fu (d+1) Fe [.lst false 1 a0n a0]=(fun (call:Ai)=>Aa (wrap .i64 (8*(↑a0n:Int))) fun x1=>Ap (decide (0<=x1)&&decide (x1*1<=1099511627776)&&decide (x1<=1099511627776))<|G3 fu call a0n a0 (fu) 0 (a0n) (a0) ((↑a0n:Int)) 0 ([])) (Ae (CX xs) Tryz.prog fu d):=by kernel_rfl
abbrev Tn:FuncId:=121
noncomputable def H5 (fu:Nat)(call:Ai)(a0n:Nat)(a0:List PV)(nn:Nat)(y0:Int)(y1:Nat)(y2:List PV)(y3 y4:Int):Option A0:=C5 CB Tryz.prog fu call 121 Tryz.f121 (Bw Tryz.f121) [.lst false 1 a0n a0] [.r,.r,.l,.r,.l] nn ⟨lk [(3,(.sc (.int .u64 y0))),(6,(.lst false 1 y1 y2)),(7,(.sc (.int .i64 y3))),(8,(.sc (.int .i64 y4)))],B5 []⟩
theorem Pc (fu:Nat)(call:Ai)(a0n:Nat)(a0:List PV)(nn:Nat)(y0:Int)(y1:Nat)(y2:List PV)(y3 y4:Int):H5 fu call a0n a0 (nn+1) y0 y1 y2 y3 y4=(Bc (decide (y4<y3)) (Ap (decide (0<=y4)&&decide (y4<(↑y1:Int)))<|Ad .u8 (List.getD y2 (Int.toNat y4*1) .top) fun x1=>Aa (wrap .u64 x1) fun x2=>Aa (wrap .i64 (8*y4)) fun x3=>Ap (decide (0<=x3))<|Aa (G4 .u64 x2 x3) fun x4=>Aa (NP .u64 y0 x4) fun x5=>Aa (wrap .i64 (y4+1)) fun x6=>H5 fu call a0n a0 (nn) x5 (y1) (y2) (y3) x6) (some (A0.mk [.sc (.int .u64 y0)] []))):=by kernel_rfl
theorem FY {xs:FuncId->Option (List PV->Option A0)} (fu d a0n:Nat)(a0:List PV):Ae (CX xs) Tryz.prog fu (d+1) Tn [.lst false 1 a0n a0]=(fun (call:Ai)=>H5 fu call a0n a0 (fu) 0 (a0n) (a0) ((↑a0n:Int)) 0) (Ae (CX xs) Tryz.prog fu d):=by kernel_rfl
abbrev J8:FuncId:=122
noncomputable def Fa (fu:Nat)(call:Ai)(a0_0 a0_1:Int)(a0_2 a0_3 a1:Int)(nn:Nat)(y0 y1:Int)(y2 y3:Int)(y4 y5:Int):Option A0:=C5 CB Tryz.prog fu call 122 Tryz.f122 (Bw Tryz.f122) [.pbox [.sc (.int .u64 a0_0),.sc (.int .u64 a0_1),.sc (.int .u64 a0_2),.sc (.int .u64 a0_3)],.sc (.int .i64 a1)] [.r,.l] nn ⟨lk [(0,(.ptr 288000 0)),(4,(.sc (.int .i64 y0))),(5,(.sc (.int .i64 y1)))],B5 [(288000,(.st [(.sc (.int .u64 y2)),(.sc (.int .u64 y3)),(.sc (.int .u64 y4)),(.sc (.int .u64 y5))]))]⟩
theorem Ig (fu:Nat)(call:Ai)(a0_0 a0_1:Int)(a0_2 a0_3 a1:Int)(nn:Nat)(y0 y1:Int)(y2 y3:Int)(y4 y5:Int):Fa fu call a0_0 a0_1 a0_2 a0_3 a1 (nn+1) y0 y1 y2 y3 y4 y5=(Bc (decide (y1<y0)) (Aa (wrap .u64 (y2+y3)) fun x1=>Ag (call 132 [.sc (.int .u64 y3),.sc (.int .i64 13)]) fun x2 x3=>Ac x3<|Ab x2 fun x4 x5=>Ad .u64 x4 fun x6=>Ac x5<|Aa (Dw .u64 x6 x1) fun x7=>Ag (call 132 [.sc (.int .u64 x1),.sc (.int .i64 32)]) fun x8 x9=>Ac x9<|Ab x8 fun Cm C3=>Ad .u64 Cm fun Dt=>Ac C3<|Aa (wrap .u64 (y4+y5)) fun D0=>Ag (call 132 [.sc (.int .u64 y5),.sc (.int .i64 16)]) fun Dq Ed=>Ac Ed<|Ab Dq fun Ek Ez=>Ad .u64 Ek fun Fo=>Ac Ez<|Aa (Dw .u64 Fo D0) fun Fg=>Aa (wrap .u64 (Dt+Fg)) fun Ex=>Ag (call 132 [.sc (.int .u64 Fg),.sc (.int .i64 21)]) fun H6 Gz=>Ac Gz<|Ab H6 fun Hx D1=>Ad .u64 Hx fun Dm=>Ac D1<|Aa (Dw .u64 Dm Ex) fun F6=>Aa (wrap .u64 (D0+x7)) fun H9=>Ag (call 132 [.sc (.int .u64 x7),.sc (.int .i64 17)]) fun Ey Jw=>Ac Jw<|Ab Ey fun Mq J1=>Ad .u64 Mq fun Mm=>Ac J1<|Aa (Dw .u64 Mm H9) fun Ml=>Ag (call 132 [.sc (.int .u64 H9),.sc (.int .i64 32)]) fun Ny Pu=>Ac Pu<|Ab Ny fun Qp Sd=>Ad .u64 Qp fun G2=>Ac Sd<|Aa (wrap .i64 (y1+1)) fun J0=>Fa fu call a0_0 a0_1 a0_2 a0_3 a1 (nn) (y0) J0 Ex Ml G2 F6) (some (A0.mk [] [[.sc (.int .u64 y2),.sc (.int .u64 y3),.sc (.int .u64 y4),.sc (.int .u64 y5)]]))):=by kernel_rfl
theorem T0 {xs:FuncId->Option (List PV->Option A0)} (fu d:Nat)(a0_0 a0_1:Int)(a0_2 a0_3 a1:Int):Ae (CX xs) Tryz.prog fu (d+1) J8 [.pbox [.sc (.int .u64 a0_0),.sc (.int .u64 a0_1),.sc (.int .u64 a0_2),.sc (.int .u64 a0_3)],.sc (.int .i64 a1)]=(fun (call:Ai)=>Fa fu call a0_0 a0_1 a0_2 a0_3 a1 (fu) (a1) 0 (a0_0) (a0_1) (a0_2) (a0_3)) (Ae (CX xs) Tryz.prog fu d):=by kernel_rfl
abbrev Kc:FuncId:=120
theorem Tt {xs:FuncId->Option (List PV->Option A0)} (fu d:Nat)(a0_0 a0_1:Int)(a0_2 a0_3 a1:Int):Ae (CX xs) Tryz.prog fu (d+1) Kc [.pbox [.sc (.int .u64 a0_0),.sc (.int .u64 a0_1),.sc (.int .u64 a0_2),.sc (.int .u64 a0_3)],.sc (.int .u64 a1)]=(fun (call:Ai)=>Aa (Dw .u64 a0_3 a1) fun x1=>Ag (call 122 [.pbox [.sc (.int .u64 a0_0),.sc (.int .u64 a0_1),.sc (.int .u64 a0_2),.sc (.int .u64 x1)],.sc (.int .i64 2)]) fun x2 x3=>Ac x2<|Ab x3 fun x4 x5=>Ab x4 fun x6 x7=>Ad .u64 x6 fun x8=>Ab x7 fun x9 Cm=>Ad .u64 x9 fun C3=>Ab Cm fun Dt D0=>Ad .u64 Dt fun Dq=>Ab D0 fun Ed Ek=>Ad .u64 Ed fun Ez=>Ac Ek<|Ac x5<|Aa (Dw .u64 x8 a1) fun Fo=>some (A0.mk [] [[.sc (.int .u64 Fo),.sc (.int .u64 C3),.sc (.int .u64 Dq),.sc (.int .u64 Ez)]])) (Ae (CX xs) Tryz.prog fu d):=by kernel_rfl
abbrev BE:FuncId:=103
noncomputable def Ii (fu:Nat)(call:Ai)(a0 a1:Int)(a2n:Nat)(a2:List PV)(nn y0:Nat)(y1:List PV)(y2 y3:Int)(y4 y5:Int)(y6 y7 y8:Int):Option A0:=C5 CB Tryz.prog fu call 103 Tryz.f103 (Bw Tryz.f103) [.sc (.int .u64 a0),.sc (.int .u64 a1),.lst false 1 a2n a2] [.r,.r,.r,.l,.r,.l] nn ⟨lk [(2,(.lst false 1 y0 y1)),(7,(.ptr 7 0)),(8,(.sc (.int .i64 y2))),(22,(.sc (.int .i64 y3))),(23,(.sc (.int .i64 y4)))],B5 [(7,(.st [(.sc (.int .u64 y5)),(.sc (.int .u64 y6)),(.sc (.int .u64 y7)),(.sc (.int .u64 y8))]))]⟩
theorem Te (fu:Nat)(call:Ai)(a0 a1:Int)(a2n:Nat)(a2:List PV)(nn y0:Nat)(y1:List PV)(y2 y3:Int)(y4 y5:Int)(y6 y7 y8:Int):Ii fu call a0 a1 a2n a2 (nn+1) y0 y1 y2 y3 y4 y5 y6 y7 y8=(Bc (decide (y4<y3)) (Aa (wrap .i64 (8*y4)) fun x6=>Aa (wrap .i64 (8*y4)) fun x7=>Aa (wrap .i64 (x7+8)) fun x8=>Ap (decide (0<=x6))<|Ap (decide (0<=x8))<|Ap (decide (Int.toNat x6<=Int.toNat x8)&&decide (Int.toNat x8<=y0))<|Aa (Int.toNat x8-Int.toNat x6) fun x9=>Aa (List.take (x9*1) (List.drop (Int.toNat x6*1) y1)) fun Cm=>Ag (call 121 [.lst false 1 x9 Cm]) fun C3 Dt=>Ac Dt<|Ab C3 fun D0 Dq=>Ad .u64 D0 fun Ed=>Ac Dq<|Ag (call 120 [.pbox [.sc (.int .u64 y5),.sc (.int .u64 y6),.sc (.int .u64 y7),.sc (.int .u64 y8)],.sc (.int .u64 Ed)]) fun Ek Ez=>Ac Ek<|Ab Ez fun Fo Fg=>Ab Fo fun Ex H6=>Ad .u64 Ex fun Gz=>Ab H6 fun Hx D1=>Ad .u64 Hx fun Dm=>Ab D1 fun F6 H9=>Ad .u64 F6 fun Ey=>Ab H9 fun Jw Mq=>Ad .u64 Jw fun J1=>Ac Mq<|Ac Fg<|Aa (wrap .i64 (y4+1)) fun Mm=>Ii fu call a0 a1 a2n a2 (nn) (y0) (y1) (y2) (y3) Mm Gz Dm Ey J1) (Aa (wrap .i64 (8*y2)) fun Ml=>Ap (decide (0<=Ml))<|Ap (decide (Int.toNat Ml<=y0)&&decide (y0<=y0))<|Aa (y0-Int.toNat Ml) fun Ny=>Aa (List.take (Ny*1) (List.drop (Int.toNat Ml*1) y1)) fun Pu=>Ag (call 121 [.lst false 1 Ny Pu]) fun Qp Sd=>Ac Sd<|Ab Qp fun G2 J0=>Ad .u64 G2 fun Ur=>Ac J0<|Aa (wrap .u64 (↑y0:Int)) fun Yu=>Aa (G4 .u64 Yu 56) fun Oo=>Aa (NP .u64 Ur Oo) fun Uh=>Ag (call 120 [.pbox [.sc (.int .u64 y5),.sc (.int .u64 y6),.sc (.int .u64 y7),.sc (.int .u64 y8)],.sc (.int .u64 Uh)]) fun Tq Sr=>Ac Tq<|Ab Sr fun Tp Xh=>Ab Tp fun X6 Ss=>Ad .u64 X6 fun Wm=>Ab Ss fun Wy Xd=>Ad .u64 Wy fun Pi=>Ab Xd fun Yi BM=>Ad .u64 Yi fun BL=>Ab BM fun P2 Ub=>Ad .u64 P2 fun Ym=>Ac Ub<|Ac Xh<|Aa (Dw .u64 BL 255) fun AF=>Ag (call 122 [.pbox [.sc (.int .u64 Wm),.sc (.int .u64 Pi),.sc (.int .u64 AF),.sc (.int .u64 Ym)],.sc (.int .i64 4)]) fun Y2 Zi=>Ac Y2<|Ab Zi fun CH AO=>Ab CH fun BK W0=>Ad .u64 BK fun Xq=>Ab W0 fun EF BQ=>Ad .u64 EF fun BI=>Ab BQ fun Y1 BN=>Ad .u64 Y1 fun KF=>Ab BN fun BJ CU=>Ad .u64 BJ fun GQ=>Ac CU<|Ac AO<|Aa (Dw .u64 Xq BI) fun BP=>Aa (Dw .u64 BP KF) fun ET=>Aa (Dw .u64 ET GQ) fun IH=>some (A0.mk [.sc (.int .u64 IH)] []))):=by kernel_rfl
theorem QN {xs:FuncId->Option (List PV->Option A0)} (fu d:Nat)(a0 a1:Int)(a2n:Nat)(a2:List PV):Ae (CX xs) Tryz.prog fu (d+1) BE [.sc (.int .u64 a0),.sc (.int .u64 a1),.lst false 1 a2n a2]=(fun (call:Ai)=>Aa (Dw .u64 a0 8317987319222330741) fun x1=>Aa (Dw .u64 a1 7237128888997146477) fun x2=>Aa (Dw .u64 a0 7816392313619706465) fun x3=>Aa (Dw .u64 a1 8387220255154660723) fun x4=>Aa (wrap .i64 (Int.tdiv (↑a2n:Int) 8)) fun x5=>Ii fu call a0 a1 a2n a2 (fu) (a2n) (a2) x5 x5 0 x1 x2 x3 x4) (Ae (CX xs) Tryz.prog fu d):=by kernel_rfl
abbrev Qs:FuncId:=73
theorem LW {xs:FuncId->Option (List PV->Option A0)} (fu d:Nat)(a0:Int)(a1n:Nat)(a1:List PV):Ae (CX xs) Tryz.prog fu (d+1) Qs [.sc (.int .i64 a0),.lst false 1 a1n a1]=(fun (call:Ai)=>Aa (wrap .u64 a0) fun x1=>Ag (call 103 [.sc (.int .u64 x1),.sc (.int .u64 0),.lst false 1 a1n a1]) fun x2 x3=>Ac x3<|Ab x2 fun x4 x5=>Ad .u64 x4 fun x6=>Ac x5<|some (A0.mk [.sc (.int .u64 x6)] [])) (Ae (CX xs) Tryz.prog fu d):=by kernel_rfl
abbrev AA:FuncId:=123
theorem RR {xs:FuncId->Option (List PV->Option A0)} (fu d:Nat)(a0 a1:Int)(a2n:Nat)(a2:List PV):Ae (CX xs) Tryz.prog fu (d+1) AA [.sc (.int .u64 a0),.sc (.int .i64 a1),.lst false 1 a2n a2]=(fun (call:Ai)=>Aa (wrap .u64 a1) fun x1=>Aa (wrap .u64 (1+x1)) fun x2=>Ag (call 103 [.sc (.int .u64 a0),.sc (.int .u64 x2),.lst false 1 a2n a2]) fun x3 x4=>Ac x4<|Ab x3 fun x5 x6=>Ad .u64 x5 fun x7=>Ac x6<|some (A0.mk [.sc (.int .u64 x7)] [])) (Ae (CX xs) Tryz.prog fu d):=by kernel_rfl
abbrev O0:FuncId:=117
theorem Yh {xs:FuncId->Option (List PV->Option A0)} (fu d:Nat)(a0 a1:Int):Ae (CX xs) Tryz.prog fu (d+1) O0 [.sc (.int .u64 a0),.sc (.int .u64 a1)]=(fun (call:Ai)=>Ap (decide (0<=a1))<|Aa (G4 .u64 a0 a1) fun x1=>Aa (wrap .u64 (64-a1)) fun x2=>Ap (decide (0<=x2))<|Aa (D3 .u64 a0 x2) fun x3=>Aa (NP .u64 x1 x3) fun x4=>some (A0.mk [.sc (.int .u64 x4)] [])) (Ae (CX xs) Tryz.prog fu d):=by kernel_rfl
abbrev My:FuncId:=98
theorem Wf {xs:FuncId->Option (List PV->Option A0)} (fu d:Nat)(a0_0 a0_1:Int)(a0_2 a0_3:Int):Ae (CX xs) Tryz.prog fu (d+1) My [.agg [.sc (.int .u64 a0_0),.sc (.int .u64 a0_1),.sc (.int .u64 a0_2),.sc (.int .u64 a0_3)]]=(fun (call:Ai)=>Aa (wrap .u64 (a0_0+a0_1)) fun x1=>Ag (call 117 [.sc (.int .u64 a0_1),.sc (.int .u64 13)]) fun x2 x3=>Ac x3<|Ab x2 fun x4 x5=>Ad .u64 x4 fun x6=>Ac x5<|Aa (Dw .u64 x6 x1) fun x7=>Ag (call 117 [.sc (.int .u64 x1),.sc (.int .u64 32)]) fun x8 x9=>Ac x9<|Ab x8 fun Cm C3=>Ad .u64 Cm fun Dt=>Ac C3<|Aa (wrap .u64 (a0_2+a0_3)) fun D0=>Ag (call 117 [.sc (.int .u64 a0_3),.sc (.int .u64 16)]) fun Dq Ed=>Ac Ed<|Ab Dq fun Ek Ez=>Ad .u64 Ek fun Fo=>Ac Ez<|Aa (Dw .u64 Fo D0) fun Fg=>Aa (wrap .u64 (Dt+Fg)) fun Ex=>Ag (call 117 [.sc (.int .u64 Fg),.sc (.int .u64 21)]) fun H6 Gz=>Ac Gz<|Ab H6 fun Hx D1=>Ad .u64 Hx fun Dm=>Ac D1<|Aa (Dw .u64 Dm Ex) fun F6=>Aa (wrap .u64 (D0+x7)) fun H9=>Ag (call 117 [.sc (.int .u64 x7),.sc (.int .u64 17)]) fun Ey Jw=>Ac Jw<|Ab Ey fun Mq J1=>Ad .u64 Mq fun Mm=>Ac J1<|Aa (Dw .u64 Mm H9) fun Ml=>Ag (call 117 [.sc (.int .u64 H9),.sc (.int .u64 32)]) fun Ny Pu=>Ac Pu<|Ab Ny fun Qp Sd=>Ad .u64 Qp fun G2=>Ac Sd<|some (A0.mk [.agg [.sc (.int .u64 Ex),.sc (.int .u64 Ml),.sc (.int .u64 G2),.sc (.int .u64 F6)]] [])) (Ae (CX xs) Tryz.prog fu d):=by kernel_rfl
abbrev Qi:FuncId:=65
noncomputable def Fl (fu:Nat)(call:Ai)(a0 a1:Int)(a2n:Nat)(a2:List PV)(nn y0:Nat)(y1:List PV)(y2:Int)(y3:List PV):Option A0:=C5 CB Tryz.prog fu call 65 Tryz.f65 (Bw Tryz.f65) [.sc (.int .u64 a0),.sc (.int .u64 a1),.lst false 1 a2n a2] [.r,.r,.l,.r,.l] nn ⟨lk [(2,(.lst false 1 y0 y1)),(7,(.ptr 7 0)),(8,(.sc (.int .i64 y2)))],B5 [(7,(.ar false y3))]⟩
noncomputable def Eg (fu:Nat)(call:Ai)(a0 a1:Int)(a2n:Nat)(a2:List PV)(m0 nn y0:Nat)(y1:List PV)(y2 y3 y4:Int)(y5:List PV):Option A0:=C5 CB Tryz.prog fu call 65 Tryz.f65 (Bw Tryz.f65) [.sc (.int .u64 a0),.sc (.int .u64 a1),.lst false 1 a2n a2] [.r,.r,.l,.r,.l,.i m0,.r,.l,.l,.r,.l,.r,.l] nn ⟨lk [(2,(.lst false 1 y0 y1)),(7,(.ptr 7 0)),(8,(.sc (.int .i64 y2))),(9,(.sc (.int .u64 y3))),(10,(.sc (.int .i64 y4)))],B5 [(7,(.ar false y5))]⟩
theorem Ll (fu:Nat)(call:Ai)(a0 a1:Int)(a2n:Nat)(a2:List PV)(nn y0:Nat)(y1:List PV)(y2:Int)(y3:List PV):Fl fu call a0 a1 a2n a2 (nn+1) y0 y1 y2 y3=(Bc (decide (y2<=(↑y0:Int))) (Eg fu call a0 a1 a2n a2 nn (fu) (y0) (y1) (y2) 0 7 (y3)) (Ad .u64 (List.getD y3 2 .top) fun x5=>Aa (Dw .u64 x5 255) fun x6=>Ap (decide (3<=y3.length))<|Aa (Ba y3 [.sc (.int .u64 x6)] 2) fun x7=>Ad .u64 (List.getD x7 0 .top) fun x8=>Ad .u64 (List.getD x7 1 .top) fun x9=>Ad .u64 (List.getD x7 2 .top) fun Cm=>Ad .u64 (List.getD x7 3 .top) fun C3=>Ag (call 98 [.agg [.sc (.int .u64 x8),.sc (.int .u64 x9),.sc (.int .u64 Cm),.sc (.int .u64 C3)]]) fun Dt D0=>Ac D0<|Ab Dt fun Dq Ed=>Cy Dq fun Ek=>Ab Ek fun Ez Fo=>Ad .u64 Ez fun Fg=>Ab Fo fun Ex H6=>Ad .u64 Ex fun Gz=>Ab H6 fun Hx D1=>Ad .u64 Hx fun Dm=>Ab D1 fun F6 H9=>Ad .u64 F6 fun Ey=>Ac H9<|Ac Ed<|Ag (call 98 [.agg [.sc (.int .u64 Fg),.sc (.int .u64 Gz),.sc (.int .u64 Dm),.sc (.int .u64 Ey)]]) fun Jw Mq=>Ac Mq<|Ab Jw fun J1 Mm=>Cy J1 fun Ml=>Ab Ml fun Ny Pu=>Ad .u64 Ny fun Qp=>Ab Pu fun Sd G2=>Ad .u64 Sd fun J0=>Ab G2 fun Ur Yu=>Ad .u64 Ur fun Oo=>Ab Yu fun Uh Tq=>Ad .u64 Uh fun Sr=>Ac Tq<|Ac Mm<|Ag (call 98 [.agg [.sc (.int .u64 Qp),.sc (.int .u64 J0),.sc (.int .u64 Oo),.sc (.int .u64 Sr)]]) fun Tp Xh=>Ac Xh<|Ab Tp fun X6 Ss=>Cy X6 fun Wm=>Ab Wm fun Wy Xd=>Ad .u64 Wy fun Pi=>Ab Xd fun Yi BM=>Ad .u64 Yi fun BL=>Ab BM fun P2 Ub=>Ad .u64 P2 fun Ym=>Ab Ub fun AF Y2=>Ad .u64 AF fun Zi=>Ac Y2<|Ac Ss<|Ag (call 98 [.agg [.sc (.int .u64 Pi),.sc (.int .u64 BL),.sc (.int .u64 Ym),.sc (.int .u64 Zi)]]) fun CH AO=>Ac AO<|Ab CH fun BK W0=>Cy BK fun Xq=>Ab Xq fun EF BQ=>Ad .u64 EF fun BI=>Ab BQ fun Y1 BN=>Ad .u64 Y1 fun KF=>Ab BN fun BJ CU=>Ad .u64 BJ fun GQ=>Ab CU fun BP ET=>Ad .u64 BP fun IH=>Ac ET<|Ac W0<|Ap (decide (4<=x7.length))<|Aa (Ba x7 [.sc (.int .u64 BI),.sc (.int .u64 KF),.sc (.int .u64 GQ),.sc (.int .u64 IH)] 0) fun JL=>Ad .u64 (List.getD JL 0 .top) fun TB=>Ad .u64 (List.getD JL 1 .top) fun SE=>Aa (Dw .u64 TB SE) fun QK=>Ad .u64 (List.getD JL 2 .top) fun OA=>Aa (Dw .u64 QK OA) fun WJ=>Ad .u64 (List.getD JL 3 .top) fun SX=>Aa (Dw .u64 WJ SX) fun SS=>some (A0.mk [.sc (.int .u64 SS)] []))):=by kernel_rfl
theorem Mk (fu:Nat)(call:Ai)(a0 a1:Int)(a2n:Nat)(a2:List PV)(m0 nn y0:Nat)(y1:List PV)(y2 y3 y4:Int)(y5:List PV):Eg fu call a0 a1 a2n a2 m0 (nn+1) y0 y1 y2 y3 y4 y5=(Bc (decide (y4>=0)) (Aa (wrap .i64 (y2+y4)) fun SN=>Bc (decide (SN<(↑y0:Int))) (Aa (wrap .i64 (y2+y4)) fun GN=>Ap (decide (0<=GN)&&decide (GN<(↑y0:Int)))<|Ad .u8 (List.getD y1 (Int.toNat GN*1) .top) fun PB=>Aa (G4 .u64 y3 8) fun RW=>Aa (wrap .u64 PB) fun UC=>Aa (NP .u64 RW UC) fun UN=>Aa (wrap .i64 (y4-1)) fun ZL=>Eg fu call a0 a1 a2n a2 m0 (nn) (y0) (y1) (y2) UN ZL (y5)) (Bc (y4==7) (Aa (wrap .u8 (↑y0:Int)) fun ZZ=>Aa (G4 .u64 y3 8) fun YV=>Aa (wrap .u64 ZZ) fun WZ=>Aa (NP .u64 YV WZ) fun x98=>Aa (wrap .i64 (y4-1)) fun x99=>Eg fu call a0 a1 a2n a2 m0 (nn) (y0) (y1) (y2) x98 x99 (y5)) (Aa (G4 .u64 y3 8) fun Y9=>Aa (NP .u64 Y9 0) fun Xn=>Aa (wrap .i64 (y4-1)) fun H2=>Eg fu call a0 a1 a2n a2 m0 (nn) (y0) (y1) (y2) Xn H2 (y5)))) (Ad .u64 (List.getD y5 3 .top) fun D2=>Aa (Dw .u64 D2 y3) fun DK=>Ap (decide (4<=y5.length))<|Aa (Ba y5 [.sc (.int .u64 DK)] 3) fun Tv=>Ad .u64 (List.getD Tv 0 .top) fun Ts=>Ad .u64 (List.getD Tv 1 .top) fun Ln=>Ad .u64 (List.getD Tv 2 .top) fun DN=>Ad .u64 (List.getD Tv 3 .top) fun DW=>Ag (call 98 [.agg [.sc (.int .u64 Ts),.sc (.int .u64 Ln),.sc (.int .u64 DN),.sc (.int .u64 DW)]]) fun DR CG=>Ac CG<|Ab DR fun Iy Lf=>Cy Iy fun BZ=>Ab BZ fun BV DV=>Ad .u64 BV fun JD=>Ab DV fun Vm Xp=>Ad .u64 Vm fun Z1=>Ab Xp fun Zf CY=>Ad .u64 Zf fun GK=>Ab CY fun Tu Ta=>Ad .u64 Tu fun Rn=>Ac Ta<|Ac Lf<|Ag (call 98 [.agg [.sc (.int .u64 JD),.sc (.int .u64 Z1),.sc (.int .u64 GK),.sc (.int .u64 Rn)]]) fun Vu Tx=>Ac Tx<|Ab Vu fun BG Yo=>Cy BG fun JB=>Ab JB fun DU Ye=>Ad .u64 DU fun GA=>Ab Ye fun IW HS=>Ad .u64 IW fun LV=>Ab HS fun IC DO=>Ad .u64 IC fun GJ=>Ab DO fun HJ JN=>Ad .u64 HJ fun JX=>Ac JN<|Ac Yo<|Ap (decide (4<=Tv.length))<|Aa (Ba Tv [.sc (.int .u64 GA),.sc (.int .u64 LV),.sc (.int .u64 GJ),.sc (.int .u64 JX)] 0) fun DC=>Ad .u64 (List.getD DC 0 .top) fun FX=>Aa (Dw .u64 FX y3) fun GL=>Ap (decide (1<=DC.length))<|Aa (Ba DC [.sc (.int .u64 GL)] 0) fun FZ=>Aa (wrap .i64 (y2+8)) fun HM=>Fl fu call a0 a1 a2n a2 (m0) (y0) (y1) HM FZ)):=by kernel_rfl
theorem Zz {xs:FuncId->Option (List PV->Option A0)} (fu d:Nat)(a0 a1:Int)(a2n:Nat)(a2:List PV):Ae (CX xs) Tryz.prog fu (d+1) Qi [.sc (.int .u64 a0),.sc (.int .u64 a1),.lst false 1 a2n a2]=(fun (call:Ai)=>Aa (Dw .u64 a0 8317987319222330741) fun x1=>Aa (Dw .u64 a1 7237128888997146477) fun x2=>Aa (Dw .u64 a0 7816392313619706465) fun x3=>Aa (Dw .u64 a1 8387220255154660723) fun x4=>Fl fu call a0 a1 a2n a2 (fu) (a2n) (a2) 0 ([.sc (.int .u64 x1),.sc (.int .u64 x2),.sc (.int .u64 x3),.sc (.int .u64 x4)])) (Ae (CX xs) Tryz.prog fu d):=by kernel_rfl
abbrev Iu:FuncId:=34
theorem Xy {xs:FuncId->Option (List PV->Option A0)} (fu d:Nat)(a0:Int)(a1n:Nat)(a1:List PV):Ae (CX xs) Tryz.prog fu (d+1) Iu [.sc (.int .i64 a0),.lst false 1 a1n a1]=(fun (call:Ai)=>Aa (wrap .u64 a0) fun x1=>Ag (call 65 [.sc (.int .u64 x1),.sc (.int .u64 0),.lst false 1 a1n a1]) fun x2 x3=>Ac x3<|Ab x2 fun x4 x5=>Ad .u64 x4 fun x6=>Ac x5<|some (A0.mk [.sc (.int .u64 x6)] [])) (Ae (CX xs) Tryz.prog fu d):=by kernel_rfl
abbrev Pr:FuncId:=88
theorem BD {xs:FuncId->Option (List PV->Option A0)} (fu d:Nat)(a0 a1:Int)(a2n:Nat)(a2:List PV):Ae (CX xs) Tryz.prog fu (d+1) Pr [.sc (.int .u64 a0),.sc (.int .i64 a1),.lst false 1 a2n a2]=(fun (call:Ai)=>Aa (wrap .u64 a1) fun x1=>Aa (wrap .u64 (1+x1)) fun x2=>Ag (call 65 [.sc (.int .u64 a0),.sc (.int .u64 x2),.lst false 1 a2n a2]) fun x3 x4=>Ac x4<|Ab x3 fun x5 x6=>Ad .u64 x5 fun x7=>Ac x6<|some (A0.mk [.sc (.int .u64 x7)] [])) (Ae (CX xs) Tryz.prog fu d):=by kernel_rfl
abbrev D4:FuncId:=84
noncomputable def Em (fu:Nat)(call:Ai)(a0n:Nat)(a0:List PV)(nn y0:Nat)(y1:List PV)(y2:Nat)(y3:Int)(y4:List PV):Option A0:=C5 CB Tryz.prog fu call 84 Tryz.f84 (Bw Tryz.f84) [.lst false 1 a0n a0] [.r,.r,.l,.r,.l] nn ⟨lk [(0,(.lst false 1 y0 y1)),(3,(.view 3 1 0 y2)),(4,(.sc (.int .i64 y3)))],B5 [(3,(.ar false y4))]⟩
noncomputable def Fx (fu:Nat)(call:Ai)(a0n:Nat)(a0:List PV)(m0 nn y0:Nat)(y1:List PV)(y2:Nat)(y3 y4:Int)(y5:List PV):Option A0:=C5 CB Tryz.prog fu call 84 Tryz.f84 (Bw Tryz.f84) [.lst false 1 a0n a0] [.r,.r,.l,.r,.l,.i m0,.r,.l,.l,.r,.l] nn ⟨lk [(0,(.lst false 1 y0 y1)),(3,(.view 3 1 0 y2)),(4,(.sc (.int .i64 y3))),(5,(.sc (.int .i64 y4)))],B5 [(3,(.ar false y5))]⟩
theorem Jo (fu:Nat)(call:Ai)(a0n:Nat)(a0:List PV)(nn y0:Nat)(y1:List PV)(y2:Nat)(y3:Int)(y4:List PV):Em fu call a0n a0 (nn+1) y0 y1 y2 y3 y4=(Bc (decide (y3<(↑y0:Int))) (Fx fu call a0n a0 nn (fu) (y0) (y1) (y2) (y3) 7 (y4)) (Ap (decide (y2*1<=y4.length))<|some (A0.mk [.own 1 y2 (List.take (y2*1) y4)] []))):=by kernel_rfl
theorem Jp (fu:Nat)(call:Ai)(a0n:Nat)(a0:List PV)(m0 nn y0:Nat)(y1:List PV)(y2:Nat)(y3 y4:Int)(y5:List PV):Fx fu call a0n a0 m0 (nn+1) y0 y1 y2 y3 y4 y5=(Bc (decide (y4>=0)) (Ap (decide (0<=y3)&&decide (y3<(↑y0:Int)))<|Ad .u64 (List.getD y1 (Int.toNat y3*1) .top) fun x1=>Aa (wrap .i64 (8*y4)) fun x2=>Aa (wrap .u64 x2) fun x3=>Ap (decide (0<=x3))<|Aa (D3 .u64 x1 x3) fun x4=>Aa (wrap .u8 x4) fun x5=>Ap (decide (y2*1<=y5.length)&&true&&decide ((y2+1)*1<=1099511627776)&&decide (y2+1<=1099511627776))<|Aa (y2+1) fun x6=>Aa (List.take (y2*1) y5++[.sc (.int .u8 x5)]) fun x7=>Aa (wrap .i64 (y4-1)) fun x8=>Fx fu call a0n a0 m0 (nn) (y0) (y1) x6 (y3) x8 x7) (Aa (wrap .i64 (y3+1)) fun x9=>Em fu call a0n a0 (m0) (y0) (y1) (y2) x9 (y5))):=by kernel_rfl
theorem Ww {xs:FuncId->Option (List PV->Option A0)} (fu d a0n:Nat)(a0:List PV):Ae (CX xs) Tryz.prog fu (d+1) D4 [.lst false 1 a0n a0]=(fun (call:Ai)=>Em fu call a0n a0 (fu) (a0n) (a0) 0 0 ([])) (Ae (CX xs) Tryz.prog fu d):=by kernel_rfl
end
section
open Go.IntKind (wrap)
def rot (x k:Int):Int:=NP .u64 (G4 .u64 x k) (D3 .u64 x (64-k))
structure W4 where
 a:Int
 b:Int
 c:Int
 d:Int
def W4.cells (v:W4):List PV:=[.sc (.int .u64 v.a),.sc (.int .u64 v.b),.sc (.int .u64 v.c),.sc (.int .u64 v.d)]
def Axa (v:W4):W4:=⟨rot (wrap .u64 (v.a+v.b)) 32,Dw .u64 (rot v.b 13) (wrap .u64 (v.a+v.b)),wrap .u64 (v.c+v.d),Dw .u64 (rot v.d 16) (wrap .u64 (v.c+v.d))⟩
def A1y (v:W4):W4:=⟨wrap .u64 (v.a+v.d),Dw .u64 (rot v.b 17) (wrap .u64 (v.c+v.b)),rot (wrap .u64 (v.c+v.b)) 32,Dw .u64 (rot v.d 21) (wrap .u64 (v.a+v.d))⟩
def LS (v:W4):W4:=A1y (Axa v)
def Aaf:Nat->W4->W4
 |0,v=>v
 |n+1,v=>Aaf n (LS v)
def Aso (r:W4)(m:Int):W4:=⟨Dw .u64 r.a m,r.b,r.c,r.d⟩
def Q9 (v:W4)(m:Int):W4:=Aso (Aaf 2 ⟨v.a,v.b,v.c,Dw .u64 v.d m⟩) m
def Rt:List Int->Int
 |[]=>0
 |b::r=>b+256*Rt r
def MC:Nat->W4->List Int->W4
 |0,v,_=>v
 |n+1,v,l=>MC n (Q9 v (Rt (l.take 8))) (l.drop 8)
def Ari (k0 k1:Int):W4:=⟨Dw .u64 k0 8317987319222330741,Dw .u64 k1 7237128888997146477,Dw .u64 k0 7816392313619706465,Dw .u64 k1 8387220255154660723⟩
def Acx (v:W4):W4:=Aaf 4 ⟨v.a,v.b,Dw .u64 v.c 255,v.d⟩
def Acr (v:W4):Int:=Dw .u64 (Dw .u64 (Dw .u64 v.a v.b) v.c) v.d
def Nb (l:List Int):Int:=Rt (l.drop (8*(l.length / 8)))+72057594037927936*((l.length:Int) % 256)
def Ajx (k0 k1:Int)(l:List Int):Int:=Acr (Acx (Q9 (MC (l.length / 8) (Ari k0 k1) l) (Nb l)))
def Mw (dom:Int)(l:List Int):Int:=Ajx (wrap .u64 dom) 0 l
def Akt (key dom:Int)(l:List Int):Int:=Ajx key (wrap .u64 (1+wrap .u64 dom)) l
def Jy (l:List Int):Prop:=∀b∈l,0<=b∧b<=255
theorem Sl:∀{l:List Int},Jy l->0<=Rt l∧Rt l<256 ^ l.length
 |[],_=>by simp [Rt]
 |b::r,h=>by
  have h1:=h b (by simp)
  have h2:=Sl (l:=r) fun x hx=>h x (by simp [hx])
  have h3:(256:Int) ^ (b::r).length=256 ^ r.length*256:=by rw [J2,Int.pow_succ]
  simp only [Rt];omega
theorem X3:∀(l r:List Int),Rt (l++r)=Rt l+256 ^ l.length*Rt r
 |[],r=>by simp [Rt]
 |b::l,r=>by
  have ih:=X3 l r;simp only [List.cons_append,Rt,J2,Int.pow_succ];rw [ih,Int.mul_add];have:(256:Int)*(256 ^ l.length*Rt r)=256 ^ l.length*256*Rt r:=by rw [←Int.mul_assoc,Int.mul_comm 256]
  omega
theorem QA {a c:Int}(k b:Nat)(h0:0<=a)(h1:a<((2 ^ k:Nat):Int)) (hc:c=((b*2 ^ k:Nat):Int)) (h:a+c<=18446744073709551615):NP .u64 a c=a+c∧NP .u64 c a=a+c:=by
 obtain ⟨n,rfl⟩:=Int.eq_ofNat_of_zero_le h0;subst hc;have hn:n<2 ^ k:=by omega
 generalize hB:b*2 ^ k=m at h
 have e4:(BitVec.ofInt 64 (n:Int)).toNat=n:=by
  rw [BitVec.toNat_ofInt];omega
 have e5:(BitVec.ofInt 64 (m:Int)).toNat=m:=by
  rw [BitVec.toNat_ofInt];omega
 have e6:m ||| n=m+n:=by
  have:=Nat.shiftLeft_add_eq_or_of_lt hn b;rw [Nat.shiftLeft_eq,hB] at this;exact this.symm
 constructor
 ·show wrap .u64 ((BitVec.ofInt 64 (n:Int) ||| BitVec.ofInt 64 (m:Int)).toNat:Int)=_;rw [BitVec.toNat_or,e4,e5,Nat.or_comm,e6,Cn (by omega) (by omega)]
  omega
 ·show wrap .u64 ((BitVec.ofInt 64 (m:Int) ||| BitVec.ofInt 64 (n:Int)).toNat:Int)=_;rw [BitVec.toNat_or,e4,e5,e6,Cn (by omega) (by omega)]
  omega
theorem Ab8 {a k:Int}(h0:0<=a)(hk:0<=k)(hk':k<=64)(h:a*((2 ^ k.toNat:Nat):Int)<=18446744073709551615):G4 .u64 a k=a*((2 ^ k.toNat:Nat):Int):=by
 show wrap .u64 (a*2 ^ (min k.toNat IntKind.u64.bits))=_;have e:min k.toNat IntKind.u64.bits=k.toNat:=Nat.min_eq_left (by show k.toNat<=64;omega)
 have e2:(2:Int) ^ k.toNat=((2 ^ k.toNat:Nat):Int):=by simp
 rw [e,e2,Cn (Int.mul_nonneg h0 (Int.natCast_nonneg _)) h]
end
end Go.Proofs.YtdjihiphpgkfmaaGreatDoor.Pv
