/-
  The proof of DataBaseBack, part 3.
-/
import Derived.Test.YtodnjibebeghjaaDoorKB
import Derived.StillTail
import Derived.WalkKit
import Derived.ProofKit
import Derived.OpenShut
import Derived.ShutString
import Derived.ChangeOld
import Derived.Below
import Derived.Deep.Slices
import Derived.ChangeSame
import Derived.WideKeyArgs
import Derived.Carry
import Derived.Test.YtodnjibebeghjaaDoorRows
import Derived.Lib.RuneBytes
import Derived.Lib.SlTrimSet
import Derived.Lib.BytesEntry
import Derived.Lib.Bytealg
import Derived.Lib.Walk
import Derived.WalkMore
import Derived.Laws.Bits64b
set_option linter.unusedSimpArgs false
set_option linter.unusedVariables false
namespace Go.Proofs.YtodnjibebeghjaaDoor.Pv
section
section
variable {R R':Type} {Rel:Option R->Option R'->Prop}
theorem Gk (hn:Rel none none){k:IntKind}{p:PV}{K:Int->Option R}{K':Int->Option R'}(hK:∀n,Rel (K n) (K' n)):Rel (Aw k p K) (Aw k p K'):=by
 unfold Aw;split
 ·split<;>first|exact hK _|exact hn
 ·exact hn
theorem Dl (hn:Rel none none){p:PV}{K:IntKind->Int->Option R}{K':IntKind->Int->Option R'}(hK:∀k n,Rel (K k n) (K' k n)):Rel (C8 p K) (C8 p K'):=by
 unfold C8;split<;>first|exact hK _ _|exact hn
theorem Ff (hn:Rel none none){p:PV}{K:Bool->Option R}{K':Bool->Option R'}(hK:∀n,Rel (K n) (K' n)):Rel (Ap p K) (Ap p K'):=by
 unfold Ap;split<;>first|exact hK _|exact hn
theorem Ek (hn:Rel none none){p:PV}{K:ByteArray->Option R}{K':ByteArray->Option R'}(hK:∀n,Rel (K n) (K' n)):Rel (Ax p K) (Ax p K'):=by
 unfold Ax;split<;>first|exact hK _|exact hn
theorem Ej (hn:Rel none none){es:Nat}{p:PV}{K:Bool->Nat->List PV->Option R}{K':Bool->Nat->List PV->Option R'}(hK:∀z n c,Rel (K z n c) (K' z n c)):Rel (Pz es p K) (Pz es p K'):=by
 unfold Pz;split
 ·rename_i es' _ _;cases Nat.beq es' es
  ·exact hn
  ·exact hK _ _ _
 ·exact hK _ _ _
 ·exact hn
theorem Ab0 (hn:Rel none none){es:Nat}{p:PV}{K:PV->Option R}{K':PV->Option R'}(hK:∀p,Rel (K p) (K' p)):Rel (fsK es p K) (fsK es p K'):=by
 unfold fsK;split
 ·rename_i es' _ _;cases Nat.beq es' es
  ·exact hn
  ·exact hK _
 ·exact Ej hn fun _ _ _=>hK _
theorem QC (hn:Rel none none){es:Nat}{p:PV}{K:Nat->List PV->Option R}{K':Nat->List PV->Option R'}(hK:∀n c,Rel (K n c) (K' n c)):Rel (FM es p K) (FM es p K'):=by
 unfold FM;split
 ·rename_i es' _ _;cases Nat.beq es' es
  ·exact hn
  ·exact hK _ _
 ·exact hn
theorem Au (hn:Rel none none){b:Bool}{K:Option R}{K':Option R'}(hK:b=true->Rel K K'):Rel (Bl b K) (Bl b K'):=by
 cases b
 ·exact hn
 ·exact hK rfl
theorem Vw {b:Bool}{x y:Option R}{x' y':Option R'}(hx:Rel x x')(hy:Rel y y'):Rel (Bi b x y) (Bi b x' y'):=by
 cases b
 ·exact hy
 ·exact hx
theorem Cv (hn:Rel none none){α:Type}{o:Option α}{K:α->Option R}{K':α->Option R'}(hK:∀a,o=some a->Rel (K a) (K' a)):Rel (Dg o K) (Dg o K'):=by
 cases o
 ·exact hn
 ·exact hK _ rfl
theorem Be (hn:Rel none none){α:Type}{l:List α}{K:α->List α->Option R}{K':α->List α->Option R'}(hK:∀a r,l=a::r->Rel (K a r) (K' a r)):Rel (Aa l K) (Aa l K'):=by
 cases l
 ·exact hn
 ·exact hK _ _ rfl
theorem Ec (hn:Rel none none){α:Type}{l:List α}{K:Option R}{K':Option R'}(hK:Rel K K'):Rel (Ad l K) (Ad l K'):=by
 cases l
 ·exact hK
 ·exact hn
theorem G7 (hn:Rel none none){p:PV}{K:List PV->Option R}{K':List PV->Option R'}(hK:∀c,p=.agg c->Rel (K c) (K' c)):Rel (Gw p K) (Gw p K'):=by
 unfold Gw;split
 ·exact hK _ rfl
 ·exact hn
theorem SQ (hn:Rel none none){p:PV}{K:List PV->Option R}{K':List PV->Option R'}(hK:∀c,Rel (K c) (K' c)):Rel (Sf p K) (Sf p K'):=by
 unfold Sf;split
 ·exact hK _
 ·exact hn
theorem AW (hn:Rel none none){r:Option A4}{K:List PV->List (List PV)->Option R} {K':List PV->List (List PV)->Option R'} (hK:∀v o,Rel (K v o) (K' v o)):Rel (Aj r K) (Aj r K'):=by
 unfold Aj;split
 ·exact hK _ _
 ·exact hn
theorem OH (hn:Rel none none){p:PV}{K:Value->Option R}{K':Value->Option R'}(hK:∀v,Rel (K v) (K' v)):Rel (SK p K) (SK p K'):=by
 unfold SK;split
 ·exact hK _
 ·exact hK _
 ·exact hn
theorem Abm (hn:Rel none none){p:PV}{K:FuncId->Option R}{K':FuncId->Option R'}(hK:∀v,Rel (K v) (K' v)):Rel (fvK p K) (fvK p K'):=by
 unfold fvK;split
 ·rename_i f a b;cases (a.isEmpty&&b.isEmpty)
  ·exact hn
  ·exact hK _
 ·exact hn
theorem Kq (hn:Rel none none){t:CT}{p:PV}{K:PV->Option R}{K':PV->Option R'}(hK:∀p,Rel (K p) (K' p)):Rel (Tk t p K) (Tk t p K'):=by
 unfold Tk;split
 ·exact Gk hn fun _=>hK _
 ·exact Ff hn fun _=>hK _
 ·exact Ek hn fun _=>hK _
 ·exact Ej hn fun _ _ _=>hK _
 ·exact OH hn fun _=>hK _
theorem Aeh (hn:Rel none none){t:CT}{p:PV}{K:PV->Option R}{K':PV->Option R'}(hK:∀p,Rel (K p) (K' p)):Rel (fcK t p K) (fcK t p K'):=by
 unfold fcK;split
 ·exact Ab0 hn hK
 ·exact Kq hn hK
theorem Lv (hn:Rel none none):∀{ts:List CT}{cells:List PV}{off:Nat}{K:List PV->Option R}{K':List PV->Option R'},(∀c,Rel (K c) (K' c))->Rel (M4 ts cells off K) (M4 ts cells off K')
 |[],_,_,_,_,hK=>hK _
 |_::_,_,_,_,_,hK=>Kq hn fun _=>Lv hn fun _=>hK _
theorem J9 (hn:Rel none none):∀{ts:List CT}{cells:List PV}{off:Nat}{K:List PV->Option R}{K':List PV->Option R'},(∀c,Rel (K c) (K' c))->Rel (Kk ts cells off K) (Kk ts cells off K')
 |[],_,_,_,_,hK=>hK _
 |_::_,_,_,_,_,hK=>Aeh hn fun _=>J9 hn fun _=>hK _
theorem Rr (hn:Rel none none){g:Bool}{cells:List PV}{K:PV->Option R}{K':PV->Option R'}(hK:∀p,Rel (K p) (K' p)):Rel (OU g cells K) (OU g cells K'):=by
 cases g
 ·exact Be hn fun _ _ _=>Ec hn (hK _)
 ·exact hK _
theorem ON (hn:Rel none none){P:Program}{t:TypeId}{v:Value}{K:PV->Option R}{K':PV->Option R'}(hK:∀p,Bq p=[]->Rel (K p) (K' p)) (hK':∀c,Rel (K (.agg c)) (K' (.agg c))):Rel (cvK P t v K) (cvK P t v K'):=by
 unfold cvK;split
 ·exact Au hn fun _=>Lv hn fun _=>hK' _
 ·split
  ·exact hK _ rfl
  ·exact hn
 ·exact hK _ rfl
theorem YX (hn:Rel none none){op:BinOp}{x y:Int}{K:Bool->Option R}{K':Bool->Option R'}(hK:∀n,Rel (K n) (K' n)):Rel (Ade op x y K) (Ade op x y K'):=by
 unfold Ade;split<;>first|exact hK _|exact hn
theorem NP (hn:Rel none none){op:BinOp}{k:IntKind}{x y:Int}{K:PV->Option R}{K':PV->Option R'}(hK:∀n,Rel (K n) (K' n)):Rel (V5 op k x y K) (V5 op k x y K'):=by
 unfold V5;split<;>first|exact hK _|exact Au hn fun _=>hK _|exact YX hn fun _=>hK _
theorem OA (hn:Rel none none){op:BinOp}{x y:ByteArray}{K:PV->Option R}{K':PV->Option R'}(hK:∀n,Rel (K n) (K' n)):Rel (Wr op x y K) (Wr op x y K'):=by
 unfold Wr;split<;>first|exact hK _|exact Au hn fun _=>hK _|exact hn
theorem AQ (hn:Rel none none){e:Bool}{p:PV}{K:PV->Option R}{K':PV->Option R'}(hK:∀n,Rel (K n) (K' n)):Rel (X6 e p K) (X6 e p K'):=by
 unfold X6;split<;>first|exact hK _|exact Vw (hK _) (Vw (hK _) (hK _))|exact Vw (hK _) (hK _)|exact hn
theorem JO (hn:Rel none none):∀{ts:List CT}{ps qs:List PV}{K:Bool->Option R}{K':Bool->Option R'},(∀b,Rel (K b) (K' b))->Rel (Io ts ps qs K) (Io ts ps qs K'):=by
 intro ts
 induction ts with
 |nil=>
  intro ps qs K K' hK;cases ps<;>cases qs<;>first|exact hK _|exact hn
 |cons t ts ih=>
  intro ps qs K K' hK;cases ps with
  |nil=>cases t<;>cases qs<;>exact hn
  |cons p ps=>
   cases qs with
   |nil=>cases t<;>exact hn
   |cons q qs=>
    cases t
    ·exact Gk hn fun _=>Gk hn fun _=>ih fun _=>hK _
    ·exact Ff hn fun _=>Ff hn fun _=>ih fun _=>hK _
    ·exact Ek hn fun _=>Ek hn fun _=>ih fun _=>hK _
    ·exact hn
    ·exact hn
theorem VN (hn:Rel none none){P:Program}{op:BinOp}{t:TypeId}{x y:PV}{K:PV->Option R}{K':PV->Option R'}(hK:∀p,Rel (K p) (K' p)):Rel (XF P op t x y K) (XF P op t x y K'):=by
 unfold XF;split
 ·split
  ·exact Gk hn fun _=>Dl hn fun _ _=>Au hn fun _=>hK _
  ·exact Gk hn fun _=>Dl hn fun _ _=>Au hn fun _=>hK _
  ·exact Gk hn fun _=>Gk hn fun _=>NP hn hK
 ·exact Ek hn fun _=>Ek hn fun _=>OA hn hK
 ·split
  ·exact Ff hn fun _=>Ff hn fun _=>hK _
  ·exact Ff hn fun _=>Ff hn fun _=>hK _
  ·exact hn
 ·split
  ·exact AQ hn fun _=>hK _
  ·exact AQ hn fun _=>hK _
  ·exact hn
 ·split
  ·exact hK _
  ·exact hK _
  ·exact hn
 ·exact hn
theorem HG (hn:Rel none none){P:Program}{op:BinOp}{t:TypeId}{x y:PV}{K:PV->Option R}{K':PV->Option R'}(hK:∀p,Rel (K p) (K' p)):Rel (Of P op t x y K) (Of P op t x y K'):=by
 unfold Of;split
 ·split
  ·exact Au hn fun _=>G7 hn fun _ _=>G7 hn fun _ _=>JO hn fun _=>hK _
  ·exact Au hn fun _=>G7 hn fun _ _=>G7 hn fun _ _=>JO hn fun _=>hK _
  ·exact hn
 ·exact VN hn hK
theorem Ac6 (hn:Rel none none){op:UnOp}{x:PV}{K:PV->Option R}{K':PV->Option R'}(hK:∀p,Rel (K p) (K' p)):Rel (unK op x K) (unK op x K'):=by
 unfold unK;split<;>first|exact Ff hn fun _=>hK _|exact Dl hn fun _ _=>hK _|exact hn
theorem Di (hn:Rel none none){p:Option PV}{d:Nat}{K:Nat->Option R}{K':Nat->Option R'}(hK:∀n,Rel (K n) (K' n)):Rel (Fh p d K) (Fh p d K'):=by
 unfold Fh;split
 ·exact hK _
 ·exact Dl hn fun _ _=>Au hn fun _=>hK _
theorem Sv (hn:Rel none none){x:PV}{d:Nat}{K:PV->Option R}{K':PV->Option R'}(hK:∀n,Rel (K n) (K' n)):Rel (Nj x d K) (Nj x d K'):=by
 unfold Nj;split<;>first|exact hK _|exact hn
theorem Wo (hn:Rel none none){P:Program}{t:TypeId}{x:PV}{i:Int}{K:PV->Option R}{K':PV->Option R'}(hK:∀p,Rel (K p) (K' p)):Rel (Hs P t x i K) (Hs P t x i K'):=by
 unfold Hs;split
 ·exact Au hn fun _=>Au hn fun _=>Sv hn hK
 ·refine Au hn fun _=>?_
  split
  ·exact Au hn fun _=>Au hn fun _=>hK _
  ·exact Ej hn fun _ _ _=>Au hn fun _=>hK _
 ·exact hn
theorem Ty (hn:Rel none none){Fl:Nat->Option (Nat × Nat)}:∀{ps:List (Nat × PV)} {cells:List PV}{K:List PV->Option R}{K':List PV->Option R'},(∀c,Rel (K c) (K' c))->Rel (Nw Fl ps cells K) (Nw Fl ps cells K')
 |[],_,_,_,hK=>hK _
 |(_,_)::_,_,_,_,hK=>Cv hn fun _ _=>Au hn fun _=>Ty hn hK
theorem Nb (hn:Rel none none){P:Program}{t:TypeId}{K:List PV->Option R}{K':List PV->Option R'}(hK:∀p,Rel (K p) (K' p)):Rel (Fq P t K) (Fq P t K'):=
 Cv hn fun _ _=>Au hn fun _=>Lv hn hK
theorem VY (hn:Rel none none){x y:PV}{K:PV->Option R}{K':PV->Option R'}(hK:∀p,Rel (K p) (K' p)):Rel (Abc x y K) (Abc x y K'):=
 Dl hn fun _ _=>Gk hn fun _=>hK _
theorem XL (hn:Rel none none){x y:PV}{K:PV->Option R}{K':PV->Option R'}(hK:∀p,Rel (K p) (K' p)):Rel (Ad5 x y K) (Ad5 x y K'):=
 Dl hn fun _ _=>Gk hn fun _=>hK _
theorem Aag (hn:Rel none none){P:Program}{t:TypeId}{x:PV}{K:Nat->Option R}{K':Nat->Option R'}(hK:∀p,Rel (K p) (K' p)):Rel (RT P t x K) (RT P t x K'):=by
 unfold RT;split
 ·exact Ek hn fun _=>hK _
 ·exact hK _
 ·split
  ·exact Au hn fun _=>hK _
  ·exact Ej hn fun _ _ _=>hK _
 ·exact hn
def FL (Rel:Option R->Option R'->Prop)(f f':Nat->Option (List PV)) (l:List Nat):Prop:=∀i∈l,f i=f' i∨(f i=none∧∀b,Rel none b)
variable {f f':Nat->Option (List PV)}
theorem FL.sub {l l':List Nat}(h:FL Rel f f' l)(hs:∀i∈l',i∈l):FL Rel f f' l':=fun i hi=>h i (hs i hi)
theorem Rq (hn:Rel none none){l:List Nat}{id:Nat}(hf:FL Rel f f' l)(hi:id∈l){K:List PV->Option R}{K':List PV->Option R'}(hK:∀c,f id=some c->Rel (K c) (K' c)):Rel (Dg (f id) K) (Dg (f' id) K'):=by
 rcases hf id hi with h|⟨h,hb⟩
 ·rw[←h];exact Cv hn hK
 ·rw[h];exact hb _
theorem Lz (hn:Rel none none){es:Nat}{p:PV}{K:Nat->List PV->Option R}{K':Nat->List PV->Option R'}(hf:FL Rel f f' (Al p)) (hK:∀n c,Rel (K n c) (K' n c)):Rel (HC f es p K) (HC f' es p K'):=by
 unfold HC;split
 ·rename_i id es' off n;cases Nat.beq es' es
  ·exact hn
  ·exact Rq hn hf (by simp[Al]) fun _ _=>Au hn fun _=>hK _ _
 ·exact Ej hn fun _ _ _=>hK _ _
theorem YR (hn:Rel none none){t:CT}{p:PV}{K:PV->List Nat->Option R}{K':PV->List Nat->Option R'}(hf:FL Rel f f' (Al p)) (hK:∀c m,(∀i∈m,f i≠none)->Rel (K c m) (K' c m)):Rel (Kl f t p K) (Kl f' t p K'):=by
 unfold Kl;split
 ·split
  ·rename_i id es' off n;cases Nat.beq es' _
   ·exact hn
   ·exact Rq hn hf (by simp[Al]) fun c hc=>Au hn fun _=>hK _ _ (by simp[hc])
  ·exact Ej hn fun _ _ _=>hK _ _ (by simp)
 ·exact Kq hn fun _=>hK _ _ (by simp)
theorem Od (hn:Rel none none):∀{ts:List CT}{ps:List PV}{K:List PV->List Nat->Option R}{K':List PV->List Nat->Option R'},FL Rel f f' (ps.flatMap Al)->(∀c m,(∀i∈m,f i≠none)->Rel (K c m) (K' c m))->Rel (J2 f ts ps K) (J2 f' ts ps K')
 |[],[],_,_,_,hK=>hK _ _ (by simp)
 |[],_::_,_,_,_,_=>hn
 |_::_,[],_,_,_,_=>hn
 |_::_,p::ps,_,_,hf,hK=>YR hn (fun i hi=>hf i (by simp only[List.flatMap_cons,List.mem_append];exact .inl hi)) fun _ m hm=>Od hn (fun i hi=>hf i (by simp only[List.flatMap_cons,List.mem_append];exact .inr hi)) fun _ ms Yk=>hK _ _ fun i hi=>by
   rcases List.mem_append.1 hi with h|h
   ·exact hm i h
   ·exact Yk i h
theorem ZY (hn:Rel none none){P:Program}{t:TypeId}{p:PV}{K:PV->List Nat->Option R}{K':PV->List Nat->Option R'}(hf:FL Rel f f' (B5 p)) (hK:∀c m,(∀i∈m,f i≠none)->Rel (K c m) (K' c m)):Rel (NB P f t p K) (NB P f' t p K'):=by
 unfold NB
 have h1:∀i,i∈[p].flatMap Al->i∈B5 p:=by
  intro i hi;simp only[List.flatMap_cons,List.flatMap_nil,List.append_nil] at hi;cases p<;>first|exact hi|simp[Al] at hi
 cases Bw P t
 ·exact Od hn (fun i hi=>hf i (h1 i hi)) fun _ _ hm=>Be hn fun _ _ _=>Ec hn (hK _ _ hm)
 ·refine G7 hn fun c hc=>?_
  subst hc;exact Od hn (fun i hi=>hf i hi) fun _ _ hm=>hK _ _ hm
theorem AJ (hn:Rel none none){P:Program}:∀{ts:List TypeId}{ps:List PV}{K:List PV->List Nat->Option R}{K':List PV->List Nat->Option R'},FL Rel f f' (ps.flatMap B5)->(∀c m,(∀i∈m,f i≠none)->Rel (K c m) (K' c m))->Rel (X4 P f ts ps K) (X4 P f' ts ps K')
 |[],[],_,_,_,hK=>hK _ _ (by simp)
 |[],_::_,_,_,_,_=>hn
 |_::_,[],_,_,_,_=>hn
 |_::_,p::ps,_,_,hf,hK=>ZY hn (fun i hi=>hf i (by simp only[List.flatMap_cons,List.mem_append];exact .inl hi)) fun _ m hm=>AJ hn (fun i hi=>hf i (by simp only[List.flatMap_cons,List.mem_append];exact .inr hi)) fun _ ms Yk=>hK _ _ fun i hi=>by
   rcases List.mem_append.1 hi with h|h
   ·exact hm i h
   ·exact Yk i h
theorem MO (hn:Rel none none){P:Program}{t:TypeId}{x:PV}{lo hi:Option PV}{K:PV->Option R}{K':PV->Option R'}(hf:(∃n e,P.underlying t=some (.array n e))->FL Rel f f' (Al x)) (hK:∀c,Rel (K c) (K' c)):Rel (Tt P f t x lo hi K) (Tt P f' t x lo hi K'):=by
 unfold Tt;split
 ·exact Ek hn fun _=>Di hn fun _=>Di hn fun _=>Au hn fun _=>hK _
 ·refine Au hn fun _=>?_
  split
  ·exact Au hn fun _=>Di hn fun _=>Di hn fun _=>Au hn fun _=>hK _
  ·exact Ej hn fun _ _ _=>Di hn fun _=>Di hn fun _=>Au hn fun _=>hK _
 ·rename_i n e hu;refine Au hn fun _=>?_
  split
  ·rename_i id off;exact Rq hn (hf ⟨_,_,hu⟩) (by simp[Al]) fun _ _=>Au hn fun _=>Di hn fun _=>Di hn fun _=>Au hn fun _=>hK _
  ·exact hn
 ·exact hn
theorem HF (hn:Rel none none){P:Program}{d:Nat}{t:TypeId}{x:PV}{lo hi mx:Option PV}{K:PV->List (Nat × Bk)->Option R} {K':PV->List (Nat × Bk)->Option R'} (hK:∀c,Rel (K c [(d,.ar false [])]) (K' c [(d,.ar false [])])):Rel (Oi P d t x lo hi mx K) (Oi P d t x lo hi mx K'):=by
 unfold Oi;split
 ·refine Au hn fun _=>?_
  split
  ·exact Au hn fun _=>Di hn fun _=>Di hn fun _=>Di hn fun _=>Au hn fun _=>hK _
  ·exact Ej hn fun _ _ _=>Di hn fun _=>Di hn fun _=>Di hn fun _=>Au hn fun _=>hK _
 ·exact hn
theorem BD {nz:Bool}{g g':Nat->Option (List PV)} (hn:Rel none none){P:Program}{t:TypeId}{x:PV}{K:PV->Option R}{K':PV->Option R'}(hf:∀i∈Al x,(f i=f' i∧g i=g' i)∨(f i=none∧g i=none∧∀b,Rel none b)) (hK:∀c,Rel (K c) (K' c)):Rel (Ru nz P f g t x K) (Ru nz P f' g' t x K'):=by
 unfold Ru;split
 ·rename_i id off;refine Au hn fun _=>?_
  rcases hf id (by simp[Al]) with⟨h1,h2⟩|⟨h1,h2,h3⟩
  ·rw[←h1,←h2];split
   ·exact Lv hn fun _=>Rr hn fun _=>hK _
   ·exact Cv hn fun _ _=>J9 hn fun _=>Rr hn hK
  ·rw[h1,h2];exact h3 _
 ·exact Au hn fun _=>Lv hn fun _=>Rr hn fun _=>hK _
 ·exact hn
theorem TC (hn:Rel none none){P:Program}{d:Nat}{src dst:TypeId}{x:PV}{K:PV->List (Nat × Bk)->Option R} {K':PV->List (Nat × Bk)->Option R'} (hf:P.underlying dst=some .string->FL Rel f f' (Al x)) (hK:∀v b,(∀q∈b,q.1=d)->Rel (K v b) (K' v b)):Rel (We P f d src dst x K) (We P f' d src dst x K'):=by
 unfold We;split
 ·exact Au hn fun _=>Dl hn fun _ _=>hK _ _ (by simp)
 ·rename_i hds;split
  ·exact Ek hn fun _=>hK _ _ (by simp)
  ·split
   ·exact Lz hn (hf hds) fun _ _=>Au hn fun _=>Cv hn fun _ _=>hK _ _ (by simp)
   ·exact Lz hn (hf hds) fun _ _=>Au hn fun _=>Cv hn fun _ _=>hK _ _ (by simp)
   ·exact hn
  ·exact hn
 ·split
  ·exact Ek hn fun _=>Au hn fun _=>hK _ _ (by simp)
  ·exact hn
 ·exact hn
theorem WS (hn:Rel none none){shr:Bool}{id:Nat}{t:CT}{p:PV}{K:PV->List (Nat × Bk)->Option R} {K':PV->List (Nat × Bk)->Option R'} (hK:∀c b,(∀q∈b,q.1=id)->Rel (K c b) (K' c b)):Rel (YW shr id t p K) (YW shr id t p K'):=by
 unfold YW;split
 ·cases shr
  ·exact QC hn fun _ _=>hK _ _ (by simp)
  ·exact Ej hn fun _ _ _=>hK _ _ (by simp)
 ·exact Kq hn fun _=>hK _ _ (by simp)
theorem Ok (hn:Rel none none){shr:Bool}{N:Nat}:∀{ts:List CT}{id:Nat}{ps:List PV}{K:List PV->List (Nat × Bk)->Option R} {K':List PV->List (Nat × Bk)->Option R'},(∀c b,(∀q∈b,∃j,q.1=id+N*j)->Rel (K c b) (K' c b))->Rel (Lx shr N id ts ps K) (Lx shr N id ts ps K')
 |[],_,_,_,_,hK=>Ec hn (hK _ _ (by simp))
 |_::_,id,_,_,_,hK=>Be hn fun _ _ _=>WS hn fun _ b hb=>Ok hn fun _ bs Zu=>hK _ _ fun q hq=>by
   rcases List.mem_append.1 hq with h|h
   ·exact⟨0,by rw[hb q h];simp⟩
   ·obtain⟨j,hj⟩:=Zu q h;exact⟨j+1,by rw[hj,Nat.mul_add];omega⟩
theorem YQ (hn:Rel none none){P:Program}{shr:Bool}{N id:Nat}{t:TypeId}{p:PV}{K:PV->List (Nat × Bk)->Option R} {K':PV->List (Nat × Bk)->Option R'} (hK:∀c b,(∀q∈b,∃j,q.1=id+N*j)->Rel (K c b) (K' c b)):Rel (SG P shr N id t p K) (SG P shr N id t p K'):=by
 unfold SG;split
 ·refine SQ hn fun ps=>Ok hn fun _ _ hb=>hK _ _ fun q hq=>?_
  rcases List.mem_cons.1 hq with rfl|hq
  ·exact⟨0,by simp⟩
  ·obtain⟨j,hj⟩:=hb q hq;exact⟨j+1,by rw[hj,Nat.mul_add];omega⟩
 cases Bw P t
 ·exact Ok hn fun _ _ hb=>Be hn fun _ _ _=>Ec hn (hK _ _ hb)
 ·exact G7 hn fun _ _=>Ok hn fun _ _ hb=>hK _ _ hb
theorem Sx (hn:Rel none none){P:Program}{shr:Bool}{N:Nat}:∀{ts:List TypeId}{id:Nat}{ps:List PV}{K:List PV->List (Nat × Bk)->Option R} {K':List PV->List (Nat × Bk)->Option R'},(∀c b,(∀q∈b,∃j,q.1=id+N*j)->Rel (K c b) (K' c b))->Rel (Ur P shr N id ts ps K) (Ur P shr N id ts ps K')
 |[],_,_,_,_,hK=>Ec hn (hK _ _ (by simp))
 |t::_,id,_,_,_,hK=>Be hn fun _ _ _=>YQ hn fun _ b hb=>Sx hn fun _ bs Zu=>hK _ _ fun q hq=>by
   rcases List.mem_append.1 hq with h|h
   ·exact hb q h
   ·obtain⟨j,hj⟩:=Zu q h;exact⟨HO P t+j,by rw[hj,Nat.mul_add];omega⟩
end
theorem Nr {p:PV}{i:Nat}(h:i∈Al p):i∈B5 p:=by cases p<;>first|exact h|simp[Al] at h
theorem Em {p:PV}{i:Nat}(h:i∈B5 p):i∈Bq p:=by cases p<;>first|exact h|simp[B5,Al] at h
theorem Hq {p:PV}{i:Nat}(h:i∈Al p):i∈Bq p:=Em (Nr h)
section
variable {R R':Type} {Rel:Option R->Option R'->Prop} {P:Program} {N:Nat} {tm tm':Nat->PV} {f f' g g':Nat->Option (List PV)} {o:Oper}
theorem Wy (hn:Rel none none){t:TypeId}{x:Operand}{K:PV->Option R}{K':PV->Option R'}(hx:Bu tm x=Bu tm' x)(hK:∀p,Rel (K p) (K' p)):Rel (Tu P t tm x K) (Tu P t tm' x K'):=by
 unfold Tu;split
 ·exact ON hn (fun _ _=>hK _) (fun _=>hK _)
 ·rw[hx];exact hK _
theorem WG (hn:Rel none none){t:CT}{p:PV}{K:PV->Option R}{K':PV->Option R'}(hK:∀p,Al p=[]->Rel (K p) (K' p)):Rel (Tk t p K) (Tk t p K'):=by
 unfold Tk;split
 ·exact Gk hn fun _=>hK _ rfl
 ·exact Ff hn fun _=>hK _ rfl
 ·exact Ek hn fun _=>hK _ rfl
 ·exact Ej hn fun _ _ _=>hK _ rfl
 ·exact OH hn fun _=>hK _ rfl
theorem BO (hn:Rel none none):∀{ts:List CT}{cells:List PV}{off:Nat}{K:List PV->Option R}{K':List PV->Option R'},(∀c,(∀p∈c,Al p=[])->Rel (K c) (K' c))->Rel (M4 ts cells off K) (M4 ts cells off K')
 |[],_,_,_,_,hK=>hK _ (by simp)
 |_::_,_,_,_,_,hK=>WG hn fun c hc=>BO hn fun cs Vq=>hK _ (by
   intro p hp;rcases List.mem_cons.1 hp with h|h
   ·rw[h];exact hc
   ·exact Vq p h)
theorem Rx (hn:Rel none none){t:TypeId}{K:List PV->Option R}{K':List PV->Option R'}(hK:∀c,(∀p∈c,Al p=[])->Rel (K c) (K' c)):Rel (Fq P t K) (Fq P t K'):=
 Cv hn fun _ _=>Au hn fun _=>BO hn hK
theorem N7 {p c:PV}(h:c∈cellsOf p){i:Nat}(hi:i∈Al c):i∈B5 p:=by
 unfold cellsOf at h;split at h
 ·exact List.mem_flatMap.2 ⟨c,h,hi⟩
 ·simp at h;subst h;exact Nr hi
theorem LJ {cells new:List PV}{off:Nat}{c:PV}(h:c∈Co cells new off):c∈cells∨c∈new:=by
 unfold Co at h;rcases List.mem_append.1 h with h|h
 ·rcases List.mem_append.1 h with h|h
  ·exact .inl (List.mem_of_mem_take h)
  ·exact .inr h
 ·exact .inl (List.mem_of_mem_drop h)
theorem Xh (hn:Rel none none){Fl:Nat->Option (Nat × Nat)} {S:Nat->Prop}:∀{ps:List (Nat × PV)} {cells:List PV}{K:List PV->Option R}{K':List PV->Option R'},(∀c∈cells,∀i∈Al c,S i)->(∀q∈ps,∀i∈B5 q.2,S i) ->
  (∀cs,(∀c∈cs,∀i∈Al c,S i)->Rel (K cs) (K' cs))->Rel (Nw Fl ps cells K) (Nw Fl ps cells K')
 |[],_,_,_,h1,_,hK=>hK _ h1
 |(_,p)::_,_,_,_,h1,h2,hK=>Cv hn fun _ _=>Au hn fun _=>Xh hn (fun c hc i hi=>by
   rcases LJ hc with h|h
   ·exact h1 c h i hi
   ·exact h2 (_,p) List.mem_cons_self i (N7 h hi)) (fun q hq=>h2 q (List.mem_cons_of_mem _ hq)) hK
theorem Ut (hn:Rel none none):∀{ts:List CT}{ps:List PV}{K:List PV->List Nat->Option R}{K':List PV->List Nat->Option R'},(∀t∈ts,∀es,t ≠ .sl es)->(∀c,Rel (K c []) (K' c []))->Rel (J2 g ts ps K) (J2 g' ts ps K')
 |[],[],_,_,_,hK=>hK _
 |[],_::_,_,_,_,_=>hn
 |_::_,[],_,_,_,_=>hn
 |t::ts,p::ps,K,K',ht,hK=>by
  show Rel (Kl g t p _) (Kl g' t p _)
  have:∀{g:Nat->Option (List PV)} {S:Type} {L:PV->List Nat->Option S},Kl g t p L=Tk t p fun c=>L c []:=by
   intro g S L;cases t with
   |sl es=>exact absurd rfl (ht _ (by simp) es)
   |_=>rfl
  rw[this,this];exact Kq hn fun c=>Ut hn (fun t h=>ht t (by simp[h])) fun cs=>hK _
theorem VG (hn:Rel none none){es:Nat}{t:TypeId}{x:PV}{K:Nat->List PV->Option R}{K':Nat->List PV->Option R'}(hx:FL Rel g g' (Al x)) (hK:∀m c,Rel (K m c) (K' m c)):Rel (MG P g es t x K) (MG P g' es t x K'):=by
 unfold MG;split
 ·exact Au hn fun _=>Ek hn fun _=>hK _ _
 ·exact Lz hn hx hK
 ·exact hn
theorem YO (hn:Rel none none){t:TypeId}{x:PV}{K:Nat->Option R}{K':Nat->Option R'}(hK:∀n,Rel (K n) (K' n)):Rel (QS P t x K) (QS P t x K'):=by
 unfold QS;split
 ·exact Ej hn fun _ _ _=>Au hn fun _=>hK _
 ·exact hn
theorem II (hn:Rel none none){d:Nat}{t tx:TypeId}{x:PV}{K:PV->List (Nat × Bk)->Option R} {K':PV->List (Nat × Bk)->Option R'} (hx:FL Rel g g' (Al x)) (hK:∀v nw,Rel (K v nw) (K' v nw)):Rel (Om P g d t tx x K) (Om P g' d t tx x K'):=by
 unfold Om;split
 ·exact Au hn fun _=>VG hn hx fun _ _=>Au hn fun _=>hK _ _
 ·exact hn
theorem Wp (hn:Rel none none){C:Fk}{call:A7}{K:PV->List Nat->List (Nat × Bk)->Option R} {K':PV->List Nat->List (Nat × Bk)->Option R'}
  (Hk:∀x∈o.op.operands.toList,Bu tm x=Bu tm' x)
  (hfg:F7 P o.op=true->∀x∈o.op.operands.toList,∀i∈Bq (Bu tm' x),(f i=f' i∧g i=g' i)∨(f i=none∧g i=none∧∀b,Rel none b))
  (hK:∀v fz nw,(F7 P o.op=false->fz=[]∧∀q∈nw,o.dst=some q.1)->(∀i∈fz,g i≠none)->Rel (K v fz nw) (K' v fz nw)):
  Rel (Yr C P N call tm f g o K) (Yr C P N call tm' f' g' o K'):=by
 have h0:∀v,Rel (K v [] []) (K' v [] []):=fun v=>hK v [] [] (fun _=>⟨rfl,by simp⟩) (by simp)
 have hf:F7 P o.op=true->∀x∈o.op.operands.toList,FL Rel f f' (Bq (Bu tm' x)):=fun h x hx i hi=>(hfg h x hx i hi).imp (·.1) fun h=>⟨h.1,h.2.2⟩
 have hg:F7 P o.op=true->∀x∈o.op.operands.toList,FL Rel g g' (Bq (Bu tm' x)):=fun h x hx i hi=>(hfg h x hx i hi).imp (·.2) fun h=>⟨h.2.1,h.2.2⟩
 unfold Yr;generalize hop:o.op=op at *
 split
 ·exact Wy hn (Hk _ (by simp[Op.operands])) h0
 ·exact Wy hn (Hk _ (by simp[Op.operands])) h0
 ·rename_i c x y;rw[Hk c (by simp[Op.operands]),Hk x (by simp[Op.operands]),Hk y (by simp[Op.operands])]
  exact Ff hn fun _=>Vw (h0 _) (h0 _)
 ·exact Cv hn fun d hd=>Nb hn fun _=>hK _ _ _ (fun _=>⟨rfl,by simp[hd]⟩) (by simp)
 ·rename_i t x;rw[Hk x (by simp[Op.operands])]
  refine Cv hn fun d hd=>Au hn fun _=>?_
  cases Ni P t
  ·exact J9 hn fun _=>hK _ _ _ (fun _=>⟨rfl,by simp[hd]⟩) (by simp)
  ·exact Lv hn fun _=>hK _ _ _ (fun _=>⟨rfl,by simp[hd]⟩) (by simp)
 ·rename_i t ps
  have:(ps.toList.map fun q=>(q.1,Bu tm q.2))=ps.toList.map fun q=>(q.1,Bu tm' q.2):=by
   apply List.map_congr_left;intro q hq;rw[Hk q.2 (by simp only[Op.operands];exact List.mem_map_of_mem hq)]
  rw[this];exact Au hn fun _=>Nb hn fun _=>Ty hn fun _=>J9 hn fun _=>h0 _
 ·rename_i t n ps
  have:(ps.toList.map fun q=>(q.1,Bu tm q.2))=ps.toList.map fun q=>(q.1,Bu tm' q.2):=by
   apply List.map_congr_left;intro q hq;rw[Hk q.2 (by simp only[Op.operands];exact List.mem_map_of_mem hq)]
  rw[this];refine Cv hn fun d hd=>?_
  split
  ·rename_i e hu;cases JA:Hh P [e]
   ·refine Au hn fun _=>Rx hn fun z hz=>Ty hn fun cs=>Ut hn ?_ fun cs'=>hK _ _ _ (fun _=>⟨rfl,by simp[hd]⟩) (by simp)
    intro c hc es he;obtain⟨l,hl,hc⟩:=List.mem_flatten.1 hc;rw[List.eq_of_mem_replicate hl] at hc;subst he
    have:Hh P [e]=true:=by
     unfold Hh;simp only[List.any_cons,List.any_nil,Bool.or_false,Bool.or_eq_true];exact .inr (List.any_eq_true.2 ⟨_,hc,rfl⟩)
    rw[this] at JA;cases JA
   refine Au hn fun _=>Rx hn fun z hz=>Xh (S:=fun i=>∃x∈(Op.buildSlice t n ps).operands.toList,i∈Bq (Bu tm' x)) hn ?_ ?_ fun cs Vq=>?_
   ·intro c hc i hi;obtain⟨l,hl,hc⟩:=List.mem_flatten.1 hc;rw[List.eq_of_mem_replicate hl] at hc;rw[hz c hc] at hi;simp at hi
   ·intro q hq i hi;obtain⟨q',En,rfl⟩:=List.mem_map.1 hq;exact⟨q'.2,by simp only[Op.operands];exact List.mem_map_of_mem En,Em hi⟩
   ·refine Od hn (fun i hi=>?_) fun cs' m hm=>hK _ _ _ (fun h=>by simp[F7,hu,JA] at h) hm
    obtain⟨c,hc,hi⟩:=List.mem_flatMap.1 hi;obtain⟨x,hx,hxi⟩:=Vq c hc i hi;exact hg (by simp[F7,hu,JA]) x hx i hxi
  ·exact hn
 ·rename_i t x;rw[Hk x (by simp[Op.operands])]
  exact BD hn (fun i hi=>hfg (by simp[F7]) x (by simp[Op.operands]) i (Hq hi)) h0
 ·rename_i x;rw[Hk x (by simp[Op.operands])]
  exact Sv hn h0
 ·rename_i op' t x y _;rw[Hk x (by simp[Op.operands]),Hk y (by simp[Op.operands])]
  exact HG hn h0
 ·rename_i op' t x;rw[Hk x (by simp[Op.operands])]
  exact Ac6 hn h0
 ·rename_i src dst x;rw[Hk x (by simp[Op.operands])]
  exact TC hn (fun hds i hi=>hg (by simp[F7,hds]) x (by simp[Op.operands]) i (Hq hi)) fun v b hb=>Cv hn fun d hd=>hK _ _ _ (fun _=>⟨rfl,fun q hq=>by rw[hd,hb q hq,hd];rfl⟩) (by simp)
 ·rename_i t x y;rw[Hk x (by simp[Op.operands]),Hk y (by simp[Op.operands])]
  refine Cv hn fun d hd=>?_
  split
  ·exact Dl hn fun _ _=>Dl hn fun _ _=>Au hn fun _=>Nb hn fun _=>hK _ _ _ (fun _=>⟨rfl,by simp[hd]⟩) (by simp)
  ·exact hn
 ·rename_i t x lo hi mx;split
  ·rw[Hk x (by simp[Op.operands])]
   have h1:lo.map (Bu tm)=lo.map (Bu tm'):=by
    cases lo with
    |none=>rfl
    |some y=>simp only[Option.map_some];rw[Hk y (by simp[Op.operands])]
   have h2:hi.map (Bu tm)=hi.map (Bu tm'):=by
    cases hi with
    |none=>rfl
    |some y=>simp only[Option.map_some];rw[Hk y (by simp[Op.operands])]
   rw[h1,h2];exact MO hn (fun ⟨n,e,he⟩ i hi=>hf (by simp[F7,he]) x (by simp[Op.operands]) i (Hq hi)) h0
  ·rename_i m;rw[Hk x (by simp[Op.operands])]
   have h1:lo.map (Bu tm)=lo.map (Bu tm'):=by
    cases lo with
    |none=>rfl
    |some y=>simp only[Option.map_some];rw[Hk y (by simp[Op.operands])]
   have h2:hi.map (Bu tm)=hi.map (Bu tm'):=by
    cases hi with
    |none=>rfl
    |some y=>simp only[Option.map_some];rw[Hk y (by simp[Op.operands])]
   rw[h1,h2,Hk m (by simp[Op.operands])]
   exact Cv hn fun d hd=>HF hn fun c=>hK _ _ _ (fun _=>⟨rfl,by simp[hd]⟩) (by simp)
 ·rename_i t x fl;rw[Hk x (by simp[Op.operands])]
  exact Cv hn fun _ _=>Au hn fun _=>Sv hn h0
 ·rename_i t x fl;rw[Hk x (by simp[Op.operands])]
  exact Cv hn fun _ _=>Au hn fun _=>G7 hn fun _ _=>J9 hn fun _=>Rr hn h0
 ·rename_i t x i;rw[Hk x (by simp[Op.operands]),Hk i (by simp[Op.operands])]
  exact Dl hn fun _ _=>Wo hn h0
 ·rename_i t x i;rw[Hk x (by simp[Op.operands]),Hk i (by simp[Op.operands])]
  refine Dl hn fun _ _=>?_
  split
  ·exact Ek hn fun _=>Au hn fun _=>Cv hn fun _ _=>h0 _
  ·exact G7 hn fun _ _=>Au hn fun _=>J9 hn fun _=>Rr hn h0
  ·exact hn
 ·rename_i t x k ok;rw[Hk x (by simp[Op.operands]),Hk k (by simp[Op.operands])]
  split
  ·refine Au hn fun _=>?_
   split
   ·exact Ek hn fun _=>Cv hn fun _ _=>ON hn (fun _ _=>Au hn fun _=>h0 _) (fun _=>Au hn fun _=>h0 _)
   ·exact hn
  ·exact hn
 ·rename_i x i;rw[Hk x (by simp[Op.operands])]
  split
  ·exact Cv hn fun _ _=>h0 _
  ·exact hn
 ·rename_i c
  have Hr:∀x∈c.args.toList,x∈(Op.call c).operands.toList:=by
   intro x hx;simp only[Op.operands,Call.operands,Array.toList_append,List.mem_append];exact .inr hx
  have rc:∀fn,F7 P (.call c)=true->Rel (Wd C P N call tm g o c fn K) (Wd C P N call tm' g' o c fn K'):=by
   intro fn KJ;unfold Wd;have:c.args.toList.map (Bu tm)=c.args.toList.map (Bu tm'):=List.map_congr_left fun x hx=>Hk x (Hr x hx)
   rw[this];refine AJ hn (fun i hi=>?_) fun vs m hm=>AW hn fun rv ro=>Ec hn (Au hn fun _=>Sx hn fun ws bs Zu=>Au hn fun _=>hK _ _ _ (fun h=>by rw[KJ] at h;cases h) (fun i hi=>?_))
   ·obtain⟨p,hp,hi⟩:=List.mem_flatMap.1 hi;obtain⟨x,hx,rfl⟩:=List.mem_map.1 hp;exact hg KJ x (Hr x hx) i (Em hi)
   ·have KG:i∈m:=by
     cases hq:Hh P (Kc P o.type)<;>rw[hq] at hi
     ·simp at hi
     ·exact hi
    exact hm i KG
  split
  ·refine Be hn fun x _ hx=>Be hn fun _ _ _=>?_
   rw[Hk x (Hr x (by rw[hx];simp))]
   exact Aag hn fun _=>h0 _
  ·refine Be hn fun x _ hx=>Be hn fun _ _ _=>?_
   rw[Hk x (Hr x (by rw[hx];simp))]
   exact YO hn fun _=>h0 _
  ·refine Be hn fun x _ hx=>Be hn fun y _ hy=>Ec hn ?_
   subst hy;rw[Hk x (Hr x (by rw[hx];simp)),Hk y (Hr y (by rw[hx];simp))]
   exact VY hn h0
  ·refine Be hn fun x _ hx=>Be hn fun y _ hy=>Ec hn ?_
   subst hy;rw[Hk x (Hr x (by rw[hx];simp)),Hk y (Hr y (by rw[hx];simp))]
   exact XL hn h0
  ·rename_i hc;have KJ:F7 P (.call c)=true:=by simp[F7,hc]
   refine Au hn fun _=>Cv hn fun d hd=>Be hn fun _ _ hb=>Be hn fun x _ hx=>Ec hn (Be hn fun _ _ _=>Be hn fun _ _ _=>?_)
   have SV:x∈c.args.toList:=by rw[hb,hx];simp
   rw[Hk x (Hr x SV)];exact II hn (fun i hi=>hg KJ x (Hr x SV) i (Hq hi)) fun v nw=>hK _ _ _ (fun h=>by rw[KJ] at h;cases h) (by simp)
  ·rename_i fn hc;have KJ:F7 P (.call c)=true:=by simp[F7,hc]
   exact rc fn KJ
  ·rename_i t hc;have KJ:F7 P (.call c)=true:=by simp[F7,hc]
   have ht:=Hk (.tmp t) (by simp[Op.operands,Call.operands,hc])
   change tm t=tm' t at ht;rw[ht];exact Abm hn fun fn=>rc fn KJ
  ·exact hn
 ·exact hn
variable {hp:Nat->Option Bk}
end
open Go.RowKit
abbrev Ng:=PV × List Nat × List (Nat × Bk)
def Fn (ops:Array Oper)(o:Oper)(tm:Nat->PV):Option Bool:=
 match o.guard with
 |none=>some true
 |some (j,want)=>
  match (ops[j]?).bind (·.dst) with
  |none=>none
  |some d=>
   match tm d with
   |.sc (.bool b)=>some (b==want)
   |.sc (.tuple _)=>some false
   |_=>none
section
variable {R:Type} {r:R} {C:Fk} {P:Program} {N:Nat} {call:A7} {ops:Array Oper} {o x:Oper} {s:St} {K:St->Option R}
theorem DW:Da C P N call ops o s K=match Fn ops o s.tm with
  |none=>none
  |some true=>GM C P N call o s K
  |some false=>Bl (E4 N o.dst) (K ⟨Bh s.tm o.dst (.sc undef),s.hp⟩):=by
 unfold Da Fn;cases o.guard with
 |none=>rfl
 |some q=>
  obtain⟨j,want⟩:=q;cases hd:(ops[j]?).bind (·.dst) with
  |none=>simp[hd]
  |some d=>
   simp only[hd];cases ht:s.tm d with
   |sc v=>
    cases v with
    |bool b=>
     cases b<;>cases want<;>simp only[Bi,cond_true,cond_false,Rj s.tm ht]<;>rfl
    |_=>rfl
   |_=>rfl
def RV (C:Fk)(P:Program)(N:Nat)(call:A7)(o:Oper)(s:St):Option Ng:=
 Yr C P N call s.tm (rd s.hp) (Hb s.hp) o fun v fz nw=>some (v,fz,nw)
theorem Acr {K:PV->List Nat->List (Nat × Bk)->Option R}:Yr C P N call s.tm (rd s.hp) (Hb s.hp) o K=(RV C P N call o s).bind fun q=>K q.1 q.2.1 q.2.2:=by
 refine Wp (Rel:=fun (a:Option R) (b:Option Ng)=>a=b.bind fun q=>K q.1 q.2.1 q.2.2) (K:=K) (K':=fun v fz nw=>some (v,fz,nw)) rfl (fun _ _=>rfl) (fun _ _ _ _ _=>.inl ⟨rfl,rfl⟩) fun v fz nw _ _=>rfl
theorem NN {q:Ng}(h:RV C P N call o s=some q):(F7 P o.op=false->q.2.1=[]∧∀p∈q.2.2,o.dst=some p.1)∧∀i∈q.2.1,Hb s.hp i≠none:=by
 have:=Wp (C:=C) (P:=P) (N:=N) (call:=call) (o:=o) (tm:=s.tm) (tm':=s.tm) (f:=rd s.hp) (f':=rd s.hp) (g:=Hb s.hp) (g':=Hb s.hp)
  (Rel:=fun (a:Option Ng)(_:Option Ng)=>∀q,a=some q->(F7 P o.op=false->q.2.1=[]∧∀p∈q.2.2,o.dst=some p.1)∧∀i∈q.2.1,Hb s.hp i≠none)
  (K:=fun v fz nw=>some (v,fz,nw)) (K':=fun v fz nw=>some (v,fz,nw)) (fun _ h=>by cases h) (fun _ _=>rfl) (fun _ _ _ _ _=>.inl ⟨rfl,rfl⟩) (fun v fz nw h1 h2 q hq=>by cases hq;exact⟨h1,h2⟩)
 exact this q h
def gE (C:Fk)(P:Program)(N:Nat)(call:A7)(ops:Array Oper)(o:Oper)(s:St):Option Ng:=
 match Fn ops o s.tm with
 |none=>none
 |some true=>bif Mc C P o.op then none else RV C P N call o s
 |some false=>some (.sc undef,[],[])
def Fj (C:Fk)(P:Program)(ops:Array Oper)(o:Oper)(tm:Nat->PV):Bool:=Mc C P o.op&&(Fn ops o tm==some true)
theorem Hy (h:Fj C P ops o s.tm=false):Da C P N call ops o s K=(gE C P N call ops o s).bind fun q=>Tl N s o.dst q.1 q.2.1 q.2.2 K:=by
 rw[DW];unfold gE;unfold Fj at h;cases hv:Fn ops o s.tm with
 |none=>rfl
 |some b=>
  rw[hv] at h;cases b with
  |false=>
   show Bl _ _=Tl N s o.dst (.sc undef) [] [] K;unfold Tl;have h1:Bn s.hp []=true:=rfl;have h2:Am (Ae s.hp []) []=s.hp:=rfl;rw[h1,h2,Bool.and_true]
  |true=>
   have hm:Mc C P o.op=false:=by simpa using h
   simp only[GM,hm,cond_false];exact Acr
theorem Gs (h:Fj C P ops o s.tm=true):Da C P N call ops o s K=Oy C P N call s o K:=by
 rw[DW];unfold Fj at h;simp only[Bool.and_eq_true,beq_iff_eq] at h;rw[h.2];simp only[GM,h.1,cond_true]
theorem Nd {q:Ng}(h:gE C P N call ops o s=some q):(F7 P o.op=false->q.2.1=[]∧∀p∈q.2.2,o.dst=some p.1)∧∀i∈q.2.1,Hb s.hp i≠none:=by
 unfold gE at h;split at h
 ·cases h
 ·cases hm:Mc C P o.op<;>rw[hm] at h
  ·exact NN h
  ·cases h
 ·cases h;exact⟨fun _=>⟨rfl,by simp⟩,by simp⟩
theorem Eg {tm tm':Nat->PV}(h:∀t∈looks ops o,tm t=tm' t):∀y∈o.op.operands.toList,Bu tm y=Bu tm' y:=by
 intro y hy;cases y with
 |tmp t=>
  refine h t ?_;unfold looks ZW;refine List.mem_append.2 (.inl (List.mem_filterMap.2 ⟨.tmp t,hy,rfl⟩))
 |const v=>cases v<;>rfl
 |func f=>rfl
 |«global» g=>rfl
theorem H8 {tm tm':Nat->PV}(h:∀t∈looks ops o,tm t=tm' t):Fn ops o tm=Fn ops o tm':=by
 unfold Fn;cases hg:o.guard with
 |none=>rfl
 |some q=>
  obtain⟨j,want⟩:=q;cases hd:(ops[j]?).bind (·.dst) with
  |none=>simp[hd]
  |some d=>
   have:tm d=tm' d:=h d (by
    unfold looks;rw[hg];refine List.mem_append.2 (.inr ?_);simp only[hd];simp)
   simp only[hd,this]
theorem Rv {s':St}{q:Ng}(ht:∀t∈looks ops o,s.tm t=s'.tm t)
  (hm:F7 P o.op=true->∀y∈o.op.operands.toList,∀i∈Bq (Bu s'.tm y),(rd s.hp i=rd s'.hp i∧Hb s.hp i=Hb s'.hp i)∨(rd s.hp i=none∧Hb s.hp i=none))
  (h:gE C P N call ops o s=some q):gE C P N call ops o s'=some q:=by
 unfold gE at h ⊢;rw[←H8 ht];split at h
 ·cases h
 ·cases hM:Mc C P o.op<;>rw[hM] at h
  ·have:=Wp (C:=C) (P:=P) (N:=N) (call:=call) (o:=o) (tm:=s.tm) (tm':=s'.tm) (f:=rd s.hp) (f':=rd s'.hp) (g:=Hb s.hp) (g':=Hb s'.hp)
    (Rel:=fun (a b:Option Ng)=>a=some q->b=some q)
    (K:=fun v fz nw=>some (v,fz,nw)) (K':=fun v fz nw=>some (v,fz,nw)) (fun h=>h) (Eg ht)
    (fun Hn y hy i hi=>(hm Hn y hy i hi).imp id fun h=>⟨h.1,h.2,fun _ h=>by cases h⟩) (fun v fz nw _ _ h=>h)
   exact this h
  ·cases h
 ·exact h
end
open Go.RowKit
theorem Lk:∀{nw:List (Nat × Bk)} {hp Ck:Nat->Option Bk},Bn hp nw=true->(∀i b,(i,b)∈nw->Ck i=none)->Bn Ck nw=true
 |[],_,_,_,_=>rfl
 |(i,b)::nw,hp,Ck,h,h'=>by
  simp only[Bn,Bool.and_eq_true,Option.isNone_iff_eq_none] at h ⊢;exact⟨⟨h' i b (by simp),h.1.2⟩,Lk h.2 fun j c hj=>h' j c (by simp[hj])⟩
section
variable {hp:Nat->Option Bk} {fz:List Nat} {nw:List (Nat × Bk)}
theorem Ew (ha:Bn hp nw=true){i:Nat}(hi:hp i≠none):Am (Ae hp fz) nw i=if i∈fz then (hp i).map Nk else hp i:=by
 obtain⟨h1,h2⟩:=Bg ha;rw[(Dr h2).2 i (fun bx hb=>hi (h1 i bx hb)),Br]
theorem Gy (ha:Bn hp nw=true){i:Nat}{b:Bk}(hi:(i,b)∈nw):Am (Ae hp fz) nw i=some b:=
 (Dr (Bg ha).2).1 i b hi
theorem Jx (ha:Bn hp nw=true){i:Nat}(hi:hp i=none)(hn:∀b,(i,b) ∉ nw):Am (Ae hp fz) nw i=none:=by
 rw[(Dr (Bg ha).2).2 i hn,Br,hi];simp
theorem J4 (ha:Bn hp nw=true){i:Nat}(hi:hp i≠none):Am (Ae hp fz) nw i≠none:=by
 rw[Ew ha hi];cases h:hp i with
 |none=>exact absurd h hi
 |some b=>split<;>simp
theorem Abt (b:Option Bk):(match b.map Nk with|some (.st c)=>some c|some (.ar _ c)=>some c|_=>none)=(match b with|some (.st c)=>some c|some (.ar _ c)=>some c|_=>none):=by
 cases b with
 |none=>rfl
 |some b=>cases b<;>rfl
theorem UV (b:Option Bk):(match b.map Nk with|some (.ar _ c)=>some c|_=>none)=(match b with|some (.ar _ c)=>some c|_=>none):=by
 cases b with
 |none=>rfl
 |some b=>cases b<;>rfl
theorem HT (ha:Bn hp nw=true){i:Nat}(hi:hp i≠none):rd (Am (Ae hp fz) nw) i=rd hp i:=by
 unfold rd;rw[Ew ha hi];by_cases h:i∈fz
 ·rw[if_pos h];exact Abt _
 ·rw[if_neg h]
theorem Z9 (ha:Bn hp nw=true){i:Nat}(hi:hp i≠none):Hb (Am (Ae hp fz) nw) i=Hb hp i:=by
 unfold Hb;rw[Ew ha hi];by_cases h:i∈fz
 ·rw[if_pos h];exact UV _
 ·rw[if_neg h]
theorem QI {i:Nat}(hi:hp i=none):rd hp i=none:=by unfold rd;rw[hi]
theorem Ia {i:Nat}(hi:hp i=none):Hb hp i=none:=by unfold Hb;rw[hi]
theorem Amz (b:Option Bk):(b.map Nk).map Nk=b.map Nk:=by
 cases b with
 |none=>rfl
 |some b=>cases b<;>rfl
theorem NA {fx fo:List Nat}{nx no:List (Nat × Bk)} (hx:Bn hp nx=true)(ho:Bn (Am (Ae hp fx) nx) no=true) (FZ:Bn hp no=true)
  (Nz:Bn (Am (Ae hp fo) no) nx=true) (h1:∀i∈fx,hp i≠none)(h2:∀i∈fo,hp i≠none):
  Am (Ae (Am (Ae hp fx) nx) fo) no=Am (Ae (Am (Ae hp fo) no) fx) nx:=by
 funext i
 by_cases hi:hp i=none
 ·by_cases CQ:∃b,(i,b)∈no
  ·obtain⟨b,hb⟩:=CQ
   have hnx:∀b',(i,b') ∉ nx:=fun b' Gh=>by
    have:=(Bg ho).1 i b hb;rw[Gy hx Gh] at this;cases this
   rw[Gy ho hb,Ew Nz (by rw[Gy FZ hb];simp),Gy FZ hb,if_neg (fun h=>h1 i h hi)]
  ·have CQ:∀b,(i,b) ∉ no:=fun b hb=>CQ ⟨b,hb⟩
   by_cases hnx:∃b,(i,b)∈nx
   ·obtain⟨b,hb⟩:=hnx;rw[Gy Nz hb,Ew ho (by rw[Gy hx hb];simp),Gy hx hb,if_neg (fun h=>h2 i h hi)]
   ·have hnx:∀b,(i,b) ∉ nx:=fun b hb=>hnx ⟨b,hb⟩
    rw[Jx ho (Jx hx hi hnx) CQ,Jx Nz (Jx FZ hi CQ) hnx]
 ·rw[Ew ho (J4 hx hi),Ew hx hi,Ew Nz (J4 FZ hi),Ew FZ hi];split<;>split<;>first|rfl|rw[Amz]
end
section
variable {R:Type} {r:R} {C:Fk} {P:Program} {N:Nat} {call:A7} {ops:Array Oper} {o x:Oper} {s:St} {K:St->Option R}
structure R5 (C:Fk) (P:Program) (ops:Array Oper) (x o:Oper):Prop where
 xo:∀d,x.dst=some d->d ∉ looks ops o
 ne:∀d,x.dst=some d->o.dst≠some d
 ox:∀d,o.dst=some d->d ∉ looks ops x
 mx:Mc C P x.op=true->F7 P o.op=false
 mo:Mc C P o.op=true->F7 P x.op=false
theorem L7 {l:List Nat}{d:Nat}(h:l.any (Nat.beq d)=false):d ∉ l:=by
 intro hm;have:l.any (Nat.beq d)=true:=List.any_eq_true.2 ⟨d,hm,Nat.beq_refl d⟩;rw[this] at h;cases h
theorem VV (h:Xf C P ops x o=false):R5 C P ops x o:=by
 unfold Xf at h;simp only[Bool.or_eq_false_iff,Bool.and_eq_false_iff] at h;obtain⟨⟨⟨h1,h2⟩,h3⟩,h4⟩:=h;refine⟨fun d hd=>?_,fun d hd he=>?_,fun d hd=>?_,fun hm=>?_,fun hm=>?_⟩
 ·simp only[hd,Bool.or_eq_false_iff] at h1;exact L7 h1.1
 ·simp only[hd,he,Bool.or_eq_false_iff] at h1;rw[Nat.beq_refl] at h1;cases h1.2
 ·simp only[hd] at h2;exact L7 h2
 ·rw[hm] at h3;rcases h3 with h|h
  ·cases h
  ·exact h
 ·rw[hm] at h4;rcases h4 with h|h
  ·cases h
  ·exact h
theorem Dx {tm:Nat->PV}{d:Option Tmp}{v:PV}{l:List Nat}(h:∀i,d=some i->i ∉ l):∀t∈l,Bh tm d v t=tm t:=by
 intro t ht;cases d with
 |none=>rfl
 |some d=>exact Ah _ _ (by rintro rfl;exact h _ rfl ht)
theorem H3 {tm:Nat->PV}{d e:Option Tmp}{u v:PV}(h:∀i,d=some i->e≠some i):Bh (Bh tm d u) e v=Bh (Bh tm e v) d u:=by
 cases d with
 |none=>rfl
 |some d=>
  cases e with
  |none=>rfl
  |some e=>exact HJ _ _ _ (by rintro rfl;exact h _ rfl rfl)
def KH (C:Fk)(P:Program)(o:Oper)(s:St):Prop:=(∀y∈o.op.operands.toList,∀i∈Bq (Bu s.tm y),s.hp i≠none) ∧
 (Mc C P o.op=true->J7 o.op=false->∀y∈o.op.operands.toList,∀i∈Bq (Bu s.tm y),∀c,s.hp i=some (.st c)->∀p∈c,∀k∈Al p,s.hp k≠none)
theorem Fu {tm tm':Nat->PV}(h:∀t∈looks ops o,tm t=tm' t):Fj C P ops o tm=Fj C P ops o tm':=by
 unfold Fj;rw[H8 h]
theorem PG (hw:KH C P o s)(xo:∀d,x.dst=some d->d ∉ looks ops o)(ne:∀d,x.dst=some d->o.dst≠some d)(ox:∀d,o.dst=some d->d ∉ looks ops x)(hx:Fj C P ops x s.tm=false)(ho:Fj C P ops o s.tm=false)
  (h:Da C P N call ops x s (fun s1=>Da C P N call ops o s1 K)=some r):Da C P N call ops o s (fun s1=>Da C P N call ops x s1 K)=some r:=by
 rw[Hy hx] at h;cases ex:gE C P N call ops x s with
 |none=>rw[ex] at h;cases h
 |some q=>
 obtain⟨vx,fx,nx⟩:=q;rw[ex] at h;obtain⟨hb,h1⟩:=Ai h;simp only[Bool.and_eq_true] at hb;have t1:∀t∈looks ops o,Bh s.tm x.dst vx t=s.tm t:=Dx xo;change Da C P N call ops o ⟨Bh s.tm x.dst vx,Am (Ae s.hp fx) nx⟩ K=some r at h1;rw[Hy (by rw[Fu t1];exact ho)] at h1
 cases eo:gE C P N call ops o ⟨Bh s.tm x.dst vx,Am (Ae s.hp fx) nx⟩ with
 |none=>rw[eo] at h1;cases h1
 |some q=>
 obtain⟨vo,fo,no⟩:=q;rw[eo] at h1;obtain⟨hc,h2⟩:=Ai h1;change K ⟨Bh (Bh s.tm x.dst vx) o.dst vo,Am (Ae (Am (Ae s.hp fx) nx) fo) no⟩=some r at h2;simp only[Bool.and_eq_true] at hc
 have eo':gE C P N call ops o s=some (vo,fo,no):=by
  refine Rv t1 (fun _ y hy i hi=>?_) eo
  have:=hw.1 y hy i hi;exact .inl ⟨HT hb.2 this,Z9 hb.2 this⟩
 have FZ:Bn s.hp no=true:=Lk hc.2 fun i b hi=>by
  cases hs:s.hp i with
  |none=>rfl
  |some c=>exact absurd ((Bg hc.2).1 i b hi) (J4 hb.2 (by rw[hs];simp))
 rw[Hy ho,eo']
 have Nz:Bn (Am (Ae s.hp fo) no) nx=true:=Lk hb.2 fun i b hi=>by
  refine Jx FZ ((Bg hb.2).1 i b hi) fun c Mi=>?_
  have:=(Bg hc.2).1 i c Mi;rw[Gy hb.2 hi] at this;cases this
 have t2:∀t∈looks ops x,s.tm t=Bh s.tm o.dst vo t:=fun t ht=>(Dx ox t ht).symm
 have ex':gE C P N call ops x ⟨Bh s.tm o.dst vo,Am (Ae s.hp fo) no⟩=some (vx,fx,nx):=by
  refine Rv t2 (fun _ y hy i hi=>?_) ex
  by_cases hs:s.hp i=none
  ·exact .inr ⟨QI hs,Ia hs⟩
  ·exact .inl ⟨(HT FZ hs).symm,(Z9 FZ hs).symm⟩
 show Bl _ _=_;rw[hc.1,FZ];show Da C P N call ops x ⟨Bh s.tm o.dst vo,Am (Ae s.hp fo) no⟩ K=some r;rw[Hy (by rw[←Fu t2];exact hx),ex']
 show Bl _ _=_;rw[hb.1,Nz];rw[←h2];have hfx:∀i∈fx,s.hp i≠none:=fun i hi hs=>(Nd ex).2 i hi (Ia hs)
 have hfo:∀i∈fo,s.hp i≠none:=fun i hi hs=>(Nd eo').2 i hi (Ia hs)
 show K ⟨Bh (Bh s.tm o.dst vo) x.dst vx,Am (Ae (Am (Ae s.hp fo) no) fx) nx⟩=K _;rw[H3 ne,NA hb.2 hc.2 FZ Nz hfx hfo]
end
open Go.RowKit
theorem Sj {C:Fk}{P:Program}{o:Op}(h:Mc C P o=true):F7 P o=true:=by
 unfold Mc at h;split at h
 ·rfl
 ·rename_i c;unfold F7;simp only;split at h<;>rename_i hc
  ·rw[hc]
  ·rw[hc]
  ·cases h
  ·rw[hc]
  ·cases h
 ·cases h
structure Zz (N:Nat) (S:Nat->Prop) (dst:Option Nat) (hp Ca Ck Ee:Nat->Option Bk):Prop where
 keep:∀i,hp i≠none->Ck i≠none
 off:∀i,i<N->dst≠some i->(¬S i∨hp i=none)->Ck i=hp i∧Ee i=Ca i
 same:∀i,hp i=Ca i->Ck i=Ee i
 far:∀i,¬S i->hp i≠none->Ck i=hp i
section
variable {R R':Type} {Rel:Option R->Option R'->Prop} {P:Program} {N:Nat} {tm tm':Nat->PV} {hp Ca:Nat->Option Bk} {f f':Nat->Option (List PV)} {o:Oper}
theorem Z4 (hn:Rel none none){t:CT}{p:PV}{K:PV->List Nat->Option R}{K':PV->List Nat->Option R'}(hf:FL Rel f f' (Al p)) (hK:∀c m,(∀i∈m,f i≠none∧i∈Al p)->Rel (K c m) (K' c m)):Rel (Kl f t p K) (Kl f' t p K'):=by
 unfold Kl;split
 ·split
  ·rename_i id es' off n;cases Nat.beq es' _
   ·exact hn
   ·exact Rq hn hf (by simp[Al]) fun c hc=>Au hn fun _=>hK _ _ (by simp[hc,Al])
  ·exact Ej hn fun _ _ _=>hK _ _ (by simp)
 ·exact Kq hn fun _=>hK _ _ (by simp)
theorem Yd (hn:Rel none none):∀{ts:List CT}{ps:List PV}{K:List PV->List Nat->Option R}{K':List PV->List Nat->Option R'},FL Rel f f' (ps.flatMap Al)->(∀c m,(∀i∈m,f i≠none∧i∈ps.flatMap Al)->Rel (K c m) (K' c m))->Rel (J2 f ts ps K) (J2 f' ts ps K')
 |[],[],_,_,_,hK=>hK _ _ (by simp)
 |[],_::_,_,_,_,_=>hn
 |_::_,[],_,_,_,_=>hn
 |_::_,p::ps,_,_,hf,hK=>Z4 hn (fun i hi=>hf i (by simp only[List.flatMap_cons,List.mem_append];exact .inl hi)) fun _ m hm=>Yd hn (fun i hi=>hf i (by simp only[List.flatMap_cons,List.mem_append];exact .inr hi)) fun _ ms Yk=>hK _ _ fun i hi=>by
   simp only[List.flatMap_cons,List.mem_append];rcases List.mem_append.1 hi with h|h
   ·exact⟨(hm i h).1,.inl (hm i h).2⟩
   ·exact⟨(Yk i h).1,.inr (Yk i h).2⟩
theorem Oh {S:Nat->Prop}{dst:Option Nat}{id:Nat}{b:Bk}{h0 h1:Nat->Option Bk}(hS:S id)(Bf:hp id≠none)(h:Zz N S dst hp Ca h0 h1):Zz N S dst hp Ca (Cg h0 id (some b)) (Cg h1 id (some b)):=by
 refine⟨fun i hi=>?_,fun i hN hd hi=>?_,fun i hi=>?_,fun i hn hi=>?_⟩
 ·by_cases e:i=id
  ·subst e;rw[Ak];simp
  ·rw[Ah _ _ e];exact h.keep i hi
 ·have e:i≠id:=by
   rintro rfl
   rcases hi with hi|hi
   ·exact hi hS
   ·exact Bf hi
  rw[Ah _ _ e,Ah _ _ e];exact h.off i hN hd hi
 ·by_cases e:i=id
  ·subst e;rw[Ak,Ak]
  ·rw[Ah _ _ e,Ah _ _ e];exact h.same i hi
 ·rw[Ah _ _ (by rintro rfl;exact hn hS)];exact h.far i hn hi
theorem FG {S:Nat->Prop}{d:Nat}{b:Bk}{h0 h1:Nat->Option Bk}(hz:hp d=none)(h:Zz N S (some d) hp Ca h0 h1):Zz N S (some d) hp Ca (Cg h0 d (some b)) (Cg h1 d (some b)):=by
 refine⟨fun i hi=>?_,fun i hN hd hi=>?_,fun i hi=>?_,fun i hn hi=>?_⟩
 ·by_cases e:i=d
  ·subst e;rw[Ak];simp
  ·rw[Ah _ _ e];exact h.keep i hi
 ·have e:i≠d:=by rintro rfl;exact hd rfl
  rw[Ah _ _ e,Ah _ _ e];exact h.off i hN hd hi
 ·by_cases e:i=d
  ·subst e;rw[Ak,Ak]
  ·rw[Ah _ _ e,Ah _ _ e];exact h.same i hi
 ·rw[Ah _ _ (by rintro rfl;exact hi hz)];exact h.far i hn hi
theorem Nh (S:Nat->Prop)(dst:Option Nat):Zz N S dst hp Ca hp Ca:=⟨fun _ h=>h,fun _ _ _ _=>⟨rfl,rfl⟩,fun _ h=>h,fun _ _ _=>rfl⟩
theorem KT {S:Nat->Prop}{dst:Option Nat}{m:List Nat}(hm:∀i∈m,hp i≠none∧S i):Zz N S dst hp Ca (Ae hp m) (Ae Ca m):=by
 refine⟨fun i hi=>fun h=>hi (Dm.1 h),fun i hN hd hi=>?_,fun i hi=>?_,fun i hn hi=>?_⟩
 ·have e:i ∉ m:=by
   intro h;rcases hi with hi|hi
   ·exact hi (hm i h).2
   ·exact (hm i h).1 hi
  rw[Br,Br,if_neg e,if_neg e];exact⟨rfl,rfl⟩
 ·rw[Br,Br,hi]
 ·rw[Br,if_neg (fun h=>hn (hm i h).2)]
theorem DO {S:Nat->Prop}(h:∀i,S i->hp i=Ca i∨(hp i=none∧∀b,Rel none b)) {l:List Nat}(hl:∀i∈l,S i):FL Rel (Hb hp) (Hb Ca) l:=by
 intro i hi;rcases h i (hl i hi) with h|⟨h,h'⟩
 ·left;unfold Hb;rw[h]
 ·exact .inr ⟨Ia h,h'⟩
theorem IV (hn:Rel none none){t:TypeId}{a x:PV}{K:St->Option R}{K':St->Option R'}{S:Nat->Prop}(hS:∀i,S i->hp i=Ca i∨(hp i=none∧∀b,Rel none b)) (ha:∀i∈Al a,S i)(hx:∀i∈B5 x,S i)
  (hK:∀Ck Ee,Zz N S none hp Ca Ck Ee->Rel (K ⟨tm,Ck⟩) (K' ⟨tm',Ee⟩)):Rel (Tn P ⟨tm,hp⟩ t a x K) (Tn P ⟨tm',Ca⟩ t a x K'):=by
 unfold Tn;split
 ·rename_i id off;show Rel (match hp id with|some (.st c)=>_|some (.ar false c)=>_|_=>none) (match Ca id with|some (.st c)=>_|some (.ar false c)=>_|_=>none)
  have Bf:S id:=ha id (by simp[Al])
  rcases hS id Bf with h|⟨h,hb⟩
  ·rw[←h];split
   ·rename_i c hc;exact Au hn fun _=>J9 hn fun _=>hK _ _ (Oh Bf (by rw[hc];simp) (Nh _ _))
   ·rename_i c hc;refine Au hn fun _=>Yd hn (DO hS fun i hi=>hx i ?_) fun _ m hm=>Au hn fun _=>hK _ _ (Oh Bf (by rw[hc];simp) (KT fun i hi=>⟨fun h=>(hm i hi).1 (Ia h),hx i ?_⟩))
    ·obtain⟨c,hc,hi⟩:=List.mem_flatMap.1 hi;exact N7 hc hi
    ·obtain⟨c,hc,hi⟩:=List.mem_flatMap.1 (hm i hi).2;exact N7 hc hi
   ·exact hn
  ·rw[h];exact hb _
 ·exact hn
theorem S5 (hn:Rel none none){es:Nat}{t:TypeId}{x:PV}{K:Nat->List PV->Option R}{K':Nat->List PV->Option R'}{S:Nat->Prop}(hS:∀i,S i->hp i=Ca i∨(hp i=none∧∀b,Rel none b)) (hx:∀i∈B5 x,S i)(hK:∀m c,Rel (K m c) (K' m c)):Rel (LD P ⟨tm,hp⟩ es t x K) (LD P ⟨tm',Ca⟩ es t x K'):=by
 unfold LD MG;split
 ·exact Au hn fun _=>Ek hn fun _=>hK _ _
 ·exact Lz hn (DO hS fun i hi=>hx i (Nr hi)) hK
 ·exact hn
theorem R3 (hn:Rel none none){d:Nat}{t tx:TypeId}{b x:PV}{K:St->Option R}{K':St->Option R'}{S:Nat->Prop}(hS:∀i,S i->hp i=Ca i∨(hp i=none∧∀b,Rel none b)) (AH:hp d=Ca d)(hb:∀i∈B5 b,S i)(hx:∀i∈B5 x,S i)
  (hK:∀v Ck Ee,(∀M,Zz M S (some d) hp Ca Ck Ee)->Rel (K ⟨Cg tm d v,Ck⟩) (K' ⟨Cg tm' d v,Ee⟩)):Rel (Kz P N ⟨tm,hp⟩ d t tx b x K) (Kz P N ⟨tm',Ca⟩ d t tx b x K'):=by
 unfold Kz;split
 ·refine Au hn fun _=>?_
  cases Rc P tx
  rotate_left
  ·show Rel (Nm P N ⟨tm,hp⟩ d _ b x K) (Nm P N ⟨tm',Ca⟩ d _ b x K');refine Dl hn fun _ n=>Ej hn fun z _ _=>?_
   show Rel (Bl (z&&Nat.blt d N&&(hp d).isNone&&_&&_&&_) _) (Bl (z&&Nat.blt d N&&(Ca d).isNone&&_&&_&&_) _);rw[←AH];exact Au hn fun hb=>hK _ _ _ (fun M=>FG (by simp only[Bool.and_eq_true,Option.isNone_iff_eq_none] at hb;simp only[hb]) (Nh _ _))
  rw[cond_false,cond_false];refine S5 hn hS hx fun m new=>?_
  split
  ·rename_i id es off n;show Rel (match hp id with|some (.ar false c)=>Bl (Nat.beq es _&&Nat.beq off 0&&Nat.blt d N&&(hp d).isNone&&_&&_&&_&&_) _|_=>none) (match Ca id with|some (.ar false c)=>Bl (Nat.beq es _&&Nat.beq off 0&&Nat.blt d N&&(Ca d).isNone&&_&&_&&_&&_) _|_=>none)
   have Bf:S id:=hb id (by simp[B5,Al])
   rw[←AH];rcases hS id Bf with h|⟨h,hbb⟩
   ·rw[←h];split
    ·rename_i c hc;exact Au hn fun hb=>hK _ _ _ (fun M=>FG (by simp only[Bool.and_eq_true,Option.isNone_iff_eq_none] at hb;simp only[hb]) (Oh Bf (by rw[hc];simp) (Nh _ _)))
    ·exact hn
   ·rw[h];exact hbb _
  ·refine Ej hn fun z _ _=>?_
   show Rel (Bl (z&&Nat.blt d N&&(hp d).isNone&&_&&_&&_) _) (Bl (z&&Nat.blt d N&&(Ca d).isNone&&_&&_&&_) _);rw[←AH];exact Au hn fun hb=>hK _ _ _ (fun M=>FG (by simp only[Bool.and_eq_true,Option.isNone_iff_eq_none] at hb;simp only[hb]) (Nh _ _))
 ·exact hn
theorem MM (hn:Rel none none){d:Option Tmp}{t tx:TypeId}{b x:PV}{K:St->Option R}{K':St->Option R'}{S:Nat->Prop}(hS:∀i,S i->hp i=Ca i∨(hp i=none∧∀b,Rel none b)) (hb:∀i∈B5 b,S i)(hx:∀i∈B5 x,S i)
  (hK:∀v Ck Ee,Zz N S d hp Ca Ck Ee->Rel (K ⟨Bh tm d v,Ck⟩) (K' ⟨Bh tm' d v,Ee⟩)):Rel (AL P N ⟨tm,hp⟩ d t tx b x K) (AL P N ⟨tm',Ca⟩ d t tx b x K'):=by
 unfold AL;split
 ·refine Au hn fun _=>?_
  refine S5 hn hS hx fun m new=>?_
  split
  ·rename_i id es off n;show Rel (match hp id with|some (.ar false c)=>Bl (Nat.beq es _&&_&&_) _|_=>none) (match Ca id with|some (.ar false c)=>Bl (Nat.beq es _&&_&&_) _|_=>none)
   have Bf:S id:=hb id (by simp[B5,Al])
   rcases hS id Bf with h|⟨h,hbb⟩
   ·rw[←h];split
    ·rename_i c hc;exact Au hn fun _=>hK _ _ _ (Oh Bf (by rw[hc];simp) (Nh _ _))
    ·exact hn
   ·rw[h];exact hbb _
  ·exact hn
 ·exact hn
def Aeq (o:Oper)(tm:Nat->PV)(i:Nat):Prop:=∃x∈o.op.operands.toList,i∈Bq (Bu tm x)
def Qq (o:Oper)(tm:Nat->PV)(hp:Nat->Option Bk)(i:Nat):Prop:=Aeq o tm i∨J7 o.op=false∧∃id c,Aeq o tm id∧hp id=some (.st c)∧∃p∈c,i∈Al p
theorem RR (hn:Rel none none){mv:Bool}{t:CT}{p:PV}{K:PV->List Nat->List Nat->Option R}{K':PV->List Nat->List Nat->Option R'}{S:Nat->Prop}(hS:∀i,S i->hp i=Ca i∨(hp i=none∧∀b,Rel none b)) (hp_:∀i∈Al p,S i)
  (hK:∀c m x,(∀i∈m++x,hp i≠none∧S i)->Rel (K c m x) (K' c m x)):Rel (RA mv hp t p K) (RA mv Ca t p K'):=by
 have frz:∀{t:CT} {p:PV},(∀i∈Al p,S i)->Rel (Kl (Hb hp) t p fun c m=>K c m []) (Kl (Hb Ca) t p fun c m=>K' c m []):=fun h=>Z4 hn (DO hS h) fun c m hm=>hK _ _ _ fun i hi=>by
  rw[List.append_nil] at hi;exact⟨fun e=>(hm i hi).1 (Ia e),h i (hm i hi).2⟩
 unfold RA;split
 ·rename_i es;cases mv<;>simp only[cond_true,cond_false]
  ·exact frz hp_
  ·split
   ·rename_i id es' off n;rcases hS id (hp_ id (by simp[Al])) with h|⟨h,hb⟩
    ·rw[←h];split
     ·rename_i c hc;cases (Nat.beq es' es&&Nat.beq off 0)<;>simp only[cond_true,cond_false]
      ·exact frz hp_
      ·exact Au hn fun _=>hK _ _ _ fun i hi=>by
        simp only[List.nil_append,List.mem_singleton] at hi;subst hi;exact⟨by rw[hc];simp,hp_ i (by simp[Al])⟩
     ·exact frz hp_
    ·rw[h]
     have:(Kl (Hb hp) (.sl es) (.view id es' off n) fun c m=>K c m [])=none:=by
      unfold Kl;simp only;cases Nat.beq es' es
      ·rfl
      ·simp only[cond_true,Ia h,Dg]
     show Rel (Kl (Hb hp) (.sl es) (.view id es' off n) fun c m=>K c m []) _
     rw[this];exact hb _
   ·refine Ej hn fun z n c=>?_
    cases z
    ·exact hK _ _ _ (by simp)
    ·exact hK _ _ _ (by simp)
 ·exact Kq hn fun _=>hK _ _ _ (by simp)
theorem Me (hn:Rel none none){mv:Bool}{S:Nat->Prop}(hS:∀i,S i->hp i=Ca i∨(hp i=none∧∀b,Rel none b)):∀{ts:List CT}{ps:List PV}{K:List PV->List Nat->List Nat->Option R}{K':List PV->List Nat->List Nat->Option R'},(∀p∈ps,∀i∈Al p,S i) ->
  (∀c m x,(∀i∈m++x,hp i≠none∧S i)->Rel (K c m x) (K' c m x))->Rel (Us mv hp ts ps K) (Us mv Ca ts ps K')
 |[],[],_,_,_,hK=>hK _ _ _ (by simp)
 |[],_::_,_,_,_,_=>hn
 |_::_,[],_,_,_,_=>hn
 |_::_,p::ps,_,_,hp_,hK=>RR hn hS (hp_ p (by simp)) fun _ m x hm=>Me hn hS (fun q hq=>hp_ q (by simp[hq])) fun _ ms xs Yk=>hK _ _ _ fun i hi=>by
   simp only[List.mem_append] at hi hm Yk;rcases hi with (hi|hi)|(hi|hi)
   ·exact hm i (.inl hi)
   ·exact Yk i (.inl hi)
   ·exact hm i (.inr hi)
   ·exact Yk i (.inr hi)
theorem JF (hn:Rel none none){C:Fk}{f:FuncId}{i:Nat}{t:TypeId}{p:PV}{K:PV->List Nat->List Nat->List Fe->Option R}{K':PV->List Nat->List Nat->List Fe->Option R'}{S:Nat->Prop}(hS:∀i,S i->hp i=Ca i∨(hp i=none∧∀b,Rel none b))
  (hp_:∀i∈Bq p,S i)(hc:∀i∈Bq p,∀c,Ca i=some (.st c)->∀q∈c,∀k∈Al q,S k)
  (hK:∀v m x l,(∀i∈m++x++l.flatMap Fe.ids,hp i≠none∧S i)->Rel (K v m x l) (K' v m x l)):Rel (Tr C P f hp i t p K) (Tr C P f Ca i t p K'):=by
 unfold Tr;split
 ·split
  ·rename_i id off;have Bf:S id:=hp_ id (by simp[Bq,B5,Al])
   rcases hS id Bf with h|⟨h,hb⟩
   ·rw[h];split
    ·rename_i c Y6;refine Au hn fun _=>Me hn hS (fun q hq k hk=>hc id (by simp[Bq,B5,Al]) c Y6 q (List.mem_of_mem_drop (List.mem_of_mem_take hq)) k hk) fun cs m x hm=>hK _ _ _ _ fun k hk=>?_
     rcases List.mem_append.1 hk with hk|hk
     ·exact hm k hk
     ·simp only[List.flatMap_cons,List.flatMap_nil,Fe.ids,List.append_nil,List.mem_singleton] at hk;subst hk;exact⟨by rw[h,Y6];simp,Bf⟩
    ·exact hn
   ·rw[h];exact hb _
  ·exact hn
 ·cases C.lnd f i
  ·cases Bw P t
   ·exact Me hn hS (fun q hq k hk=>by
     simp at hq;subst hq;exact hp_ k (Hq hk)) fun cs m x hm=>Be hn fun _ _ _=>Ec hn (hK _ _ _ _ (by simpa using hm))
   ·refine G7 hn fun cs Vq=>Me hn hS (fun q hq k hk=>hp_ k ?_) fun cs m x hm=>hK _ _ _ _ (by simpa using hm)
    subst Vq;exact List.mem_flatMap.2 ⟨q,hq,hk⟩
  ·refine Cv hn fun e he=>?_
   unfold VE;split
   ·rename_i id es' off n;have Bf:S id:=hp_ id (by simp[Bq,B5,Al])
    rcases hS id Bf with h|⟨h,hb⟩
    ·rw[h];split
     ·rename_i c Y6;refine Au hn fun _=>hK _ _ _ _ fun k hk=>?_
      simp only[List.nil_append,List.flatMap_cons,List.flatMap_nil,Fe.ids,List.append_nil,List.mem_singleton] at hk;subst hk;exact⟨by rw[h,Y6];simp,Bf⟩
     ·exact hn
    ·rw[h];exact hb _
   ·exact Ej hn fun _ _ _=>Au hn fun _=>hK _ _ _ _ (by simp[Fe.ids])
theorem Wx (hn:Rel none none){C:Fk}{f:FuncId}{S:Nat->Prop}(hS:∀i,S i->hp i=Ca i∨(hp i=none∧∀b,Rel none b)):∀{ts:List TypeId}{ps:List PV}{i:Nat}{K:List PV->List Nat->List Nat->List Fe->Option R}{K':List PV->List Nat->List Nat->List Fe->Option R'},
  (∀p∈ps,∀i∈Bq p,S i)->(∀p∈ps,∀i∈Bq p,∀c,Ca i=some (.st c)->∀q∈c,∀k∈Al q,S k) ->
  (∀v m x l,(∀i∈m++x++l.flatMap Fe.ids,hp i≠none∧S i)->Rel (K v m x l) (K' v m x l))->Rel (BC C P f hp i ts ps K) (BC C P f Ca i ts ps K')
 |[],[],_,_,_,_,_,hK=>hK _ _ _ _ (by simp)
 |[],_::_,_,_,_,_,_,_=>hn
 |_::_,[],_,_,_,_,_,_=>hn
 |_::_,p::ps,_,_,_,hp_,hc,hK=>JF hn hS (hp_ p (by simp)) (hc p (by simp)) fun _ m x l hm=>Wx hn hS (fun q hq=>hp_ q (by simp[hq])) (fun q hq=>hc q (by simp[hq])) fun _ ms xs ls Yk=>hK _ _ _ _ fun i hi=>by
   simp only[List.mem_append,List.flatMap_append] at hi hm Yk;rcases hi with ((hi|hi)|(hi|hi))|(hi|hi)
   ·exact hm i (.inl (.inl hi))
   ·exact Yk i (.inl (.inl hi))
   ·exact hm i (.inl (.inr hi))
   ·exact Yk i (.inl (.inr hi))
   ·exact hm i (.inr hi)
   ·exact Yk i (.inr hi)
theorem ZL (hn:Rel none none){t:Nat}{ct:CT}{was p:PV}{K:Nat->PV->List (Nat × Bk)->Option R} {K':Nat->PV->List (Nat × Bk)->Option R'} (hK:∀t c b,(∀q∈b,∃k,q.1=KI N k)->Rel (K t c b) (K' t c b)):Rel (QT N t ct was p K) (QT N t ct was p K'):=by
 unfold QT;split
 ·split
  ·exact QC hn fun _ _=>hK _ _ _ (by intro q hq;simp only[List.mem_singleton] at hq;subst hq;exact⟨t,rfl⟩)
  ·exact Ej hn fun _ _ _=>hK _ _ _ (by simp)
 ·exact Kq hn fun _=>hK _ _ _ (by simp)
theorem AB (hn:Rel none none):∀{cts:List CT}{ws ps:List PV}{t:Nat}{K:Nat->List PV->List (Nat × Bk)->Option R} {K':Nat->List PV->List (Nat × Bk)->Option R'},(∀t c b,(∀q∈b,∃k,q.1=KI N k)->Rel (K t c b) (K' t c b))->Rel (BK N t cts ws ps K) (BK N t cts ws ps K')
 |[],[],_,_,_,_,hK=>Ec hn (hK _ _ _ (by simp))
 |[],_::_,_,_,_,_,_=>hn
 |_::_,[],_,_,_,_,_=>hn
 |_::_,_::_,_,_,_,_,hK=>Be hn fun _ _ _=>ZL hn fun _ _ b hb=>AB hn fun _ _ bs Zu=>hK _ _ _ fun q hq=>by
   rcases List.mem_append.1 hq with h|h
   ·exact hb q h
   ·exact Zu q h
theorem Ox (hn:Rel none none){S:Nat->Prop}{dst:Option Nat}:∀{l:List Fe}{ro:List (List PV)} {t:Nat}{h0 h1:Nat->Option Bk}{K:(Nat->Option Bk)->List (Nat × Bk)->Option R} {K':(Nat->Option Bk)->List (Nat × Bk)->Option R'},
  Zz N S dst hp Ca h0 h1->(∀i∈l.flatMap Fe.ids,hp i≠none∧S i∧hp i=Ca i)->(∀h0' EY b,Zz N S dst hp Ca h0' EY->(∀q∈b,∃k,q.1=KI N k)->Rel (K h0' b) (K' EY b))->Rel (Qp N t l ro h0 K) (Qp N t l ro h1 K')
 |[],_,_,_,_,_,_,hT,_,hK=>Ec hn (hK _ _ _ hT (by simp))
 |.var id off cts ws::l,ro,t,h0,h1,K,K',hT,hl,hK=>by
  unfold Qp;refine Be hn fun cs ro _=>AB hn fun t' cs' bs Zu=>?_
  have Bf:=hl id (by simp[Fe.ids])
  rw[←hT.same id Bf.2.2];split
  ·exact Ox hn (Oh Bf.2.1 Bf.1 hT) (fun i hi=>hl i (by simp only[List.flatMap_cons,List.mem_append];exact .inr hi)) fun h0' EY b hT' hb=>hK _ _ _ hT' fun q hq=>by
    rcases List.mem_append.1 hq with h|h
    ·exact Zu q h
    ·exact hb q h
  ·exact hn
 |.row id::l,ro,t,h0,h1,K,K',hT,hl,hK=>by
  unfold Qp;have Bf:=hl id (by simp[Fe.ids])
  exact Be hn fun cs ro _=>Ox hn (Oh Bf.2.1 Bf.1 hT) (fun i hi=>hl i (by simp only[List.flatMap_cons,List.mem_append];exact .inr hi)) hK
 |.none::l,ro,t,h0,h1,K,K',hT,hl,hK=>by
  unfold Qp;exact Be hn fun cs ro _=>Ox hn hT (fun i hi=>hl i (by simp only[List.flatMap_cons,List.mem_append];exact .inr hi)) hK
theorem IF (h:∀i,N<=i->hp i=Ca i)(hN:0<N):∀k t,FX N hp k t=FX N Ca k t
 |0,_=>rfl
 |k+1,t=>by
  unfold FX;rw[h (KI N t) (by unfold KI;exact Nat.le_mul_of_pos_right _ (by omega)),IF h hN k (t+1)]
theorem AZ {h0 h1:Nat->Option Bk}:∀{nw:List (Nat × Bk)},(∀q∈nw,h0 q.1=h1 q.1)->Bn h0 nw=Bn h1 nw
 |[],_=>rfl
 |(i,b)::nw,h=>by
  unfold Bn;rw[h (i,b) (by simp),AZ (fun q hq=>h q (by simp[hq]))]
theorem Xk {S:Nat->Prop}{dst:Option Nat}{h0 h1:Nat->Option Bk}(hT:Zz N S dst hp Ca h0 h1):∀{nw:List (Nat × Bk)} {g0 g1:Nat->Option Bk},Zz N S dst hp Ca g0 g1->(∀q∈nw,N<=q.1∨dst=some q.1)->(∀q∈nw,hp q.1=none)->Zz N S dst hp Ca (Am g0 nw) (Am g1 nw)
 |[],_,_,h,_,_=>h
 |(i,b)::nw,g0,g1,h,hi,hz=>by
  refine Xk hT (nw:=nw) ⟨fun k hk=>?_,fun k hN hd hk=>?_,fun k hk=>?_,fun k hn hk=>?_⟩ (fun q hq=>hi q (by simp[hq])) (fun q hq=>hz q (by simp[hq]))
  ·by_cases e:k=i
   ·subst e;rw[Ak];simp
   ·rw[Ah _ _ e];exact h.keep k hk
  ·have e:k≠i:=by
    rintro rfl
    rcases hi (k,b) (by simp) with q|q
    ·simp only at q;omega
    ·exact hd q
   rw[Ah _ _ e,Ah _ _ e];exact h.off k hN hd hk
  ·by_cases e:k=i
   ·subst e;rw[Ak,Ak]
   ·rw[Ah _ _ e,Ah _ _ e];exact h.same k hk
  ·rw[Ah _ _ (by rintro rfl;exact hk (hz (k,b) (by simp)))];exact h.far k hn hk
theorem Ai3 {S:Nat->Prop}{dst:Option Nat}{m x:List Nat}(hm:∀i∈m++x,hp i≠none∧S i):Zz N S dst hp Ca (N3 (Ae hp m) x) (N3 (Ae Ca m) x):=by
 refine⟨fun i hi h=>?_,fun i hN hd hi=>?_,fun i hi=>?_,fun i hn hi=>?_⟩
 ·rw[Es] at h;have h1:Ae hp m i≠none:=fun e=>hi (Dm.1 e)
  split at h
  ·cases hq:Ae hp m i with
   |none=>exact h1 hq
   |some b=>rw[hq] at h;cases h
  ·exact h1 h
 ·have e:i ∉ m∧i ∉ x:=by
   refine⟨fun h=>?_,fun h=>?_⟩<;>(rcases hi with hi|hi)
   ·exact hi (hm i (by simp[h])).2
   ·exact (hm i (by simp[h])).1 hi
   ·exact hi (hm i (by simp[h])).2
   ·exact (hm i (by simp[h])).1 hi
  rw[Es,Es,if_neg e.2,if_neg e.2,Br,Br,if_neg e.1,if_neg e.1];exact⟨rfl,rfl⟩
 ·rw[Es,Es,Br,Br,hi]
 ·rw[Es,Br,if_neg (fun h=>hn (hm i (by simp[h])).2),if_neg (fun h=>hn (hm i (by simp[h])).2)]
theorem IR (hn:Rel none none){C:Fk}{call:A7}{f:FuncId}{c:Call}{K:St->Option R}{K':St->Option R'}{S:Nat->Prop}(Hk:c.args.toList.map (Bu tm)=c.args.toList.map (Bu tm')) (hS:∀i,S i->hp i=Ca i∨(hp i=none∧∀b,Rel none b))
  (hp_:∀p∈c.args.toList.map (Bu tm'),∀i∈Bq p,S i) (hc:∀p∈c.args.toList.map (Bu tm'),∀i∈Bq p,∀c,Ca i=some (.st c)->∀q∈c,∀k∈Al q,S k)
  (AH:∀d,o.dst=some d->hp d=Ca d)(hNN:∀i,N<=i->hp i=Ca i)
  (hK:∀v Ck Ee,Zz N S o.dst hp Ca Ck Ee->Rel (K ⟨Bh tm o.dst v,Ck⟩) (K' ⟨Bh tm' o.dst v,Ee⟩)):Rel (S8 C P N call ⟨tm,hp⟩ o f c K) (S8 C P N call ⟨tm',Ca⟩ o f c K'):=by
 unfold S8;simp only[Hk];refine Wx hn hS hp_ hc fun vs m x l hm=>Au hn fun hb=>AW hn fun rv ro=>Sx hn fun ws bs Zu=>Au hn fun _=>?_
 simp only[Bool.and_eq_true] at hb;have hN:0<N:=Nat.lt_of_succ_le (Nat.le_of_ble_eq_true hb.1.2);rw[IF hNN hN];by_cases RG:∃i∈l.flatMap Fe.ids,hp i≠Ca i
 ·obtain⟨i,hi,D8⟩:=RG;obtain⟨h1,h2⟩:=hm i (List.mem_append.2 (.inr hi));rcases hS i h2 with h|⟨h,_⟩
  ·exact absurd h D8
  ·exact absurd h h1
 have hl:∀i∈l.flatMap Fe.ids,hp i≠none∧S i∧hp i=Ca i:=fun i hi=>⟨(hm i (List.mem_append.2 (.inr hi))).1,(hm i (List.mem_append.2 (.inr hi))).2,Classical.byContradiction fun h=>RG ⟨i,hi,h⟩⟩
 have hT0:Zz N S o.dst hp Ca (N3 (Ae hp m) x) (N3 (Ae Ca m) x):=Ai3 fun i hi=>hm i (List.mem_append.2 (.inl hi))
 refine Ox hn hT0 hl fun h0 h1 bs' hT Aym=>?_
 have SC:∀q∈bs++bs',N<=q.1∨o.dst=some q.1:=by
  intro q hq;rcases List.mem_append.1 hq with hq|hq
  ·obtain⟨j,hj⟩:=Zu q hq;cases hd:o.dst with
   |none=>
    rw[hd] at hj;left;rw[hj];exact Nat.le_add_right _ _
   |some d=>
    rw[hd] at hj;change q.1=d+N*j at hj;cases j with
    |zero=>right;rw[hj];simp
    |succ j=>left;rw[hj,Nat.mul_add];omega
  ·obtain⟨k,hk⟩:=Aym q hq;left;rw[hk];unfold KI;exact Nat.le_mul_of_pos_right _ (by omega)
 have Uj:∀q∈bs++bs',h0 q.1=h1 q.1:=by
  intro q hq;refine hT.same q.1 ?_;rcases SC q hq with h|h
  ·exact hNN _ h
  ·exact AH _ h
 rw[AZ Uj]
 exact Au hn fun hb=>hK _ _ _ (Xk hT hT SC fun q hq=>by
  cases hz:hp q.1 with
  |none=>rfl
  |some c=>exact absurd ((Uj q hq).trans ((Bg hb).1 q.1 q.2 hq)) (hT.keep q.1 (by rw[hz];simp)))
theorem H4 (hn:Rel none none){C:Fk}{call:A7}{K:St->Option R}{K':St->Option R'}(Hk:∀x∈o.op.operands.toList,Bu tm x=Bu tm' x)
  (hS:∀i,Qq o tm' Ca i->hp i=Ca i∨(hp i=none∧∀b,Rel none b)) (AH:∀d,o.dst=some d->hp d=Ca d)(hNN:∀i,N<=i->hp i=Ca i)
  (hK:∀v Ck Ee,Zz N (Qq o tm' Ca) o.dst hp Ca Ck Ee->Rel (K ⟨Bh tm o.dst v,Ck⟩) (K' ⟨Bh tm' o.dst v,Ee⟩)):Rel (Oy C P N call ⟨tm,hp⟩ o K) (Oy C P N call ⟨tm',Ca⟩ o K'):=by
 unfold Oy;have hl:∀x∈o.op.operands.toList,∀i∈Bq (Bu tm' x),Qq o tm' Ca i:=fun x hx i hi=>.inl ⟨x,hx,hi⟩
 have M6:J7 o.op=false->∀x∈o.op.operands.toList,∀i∈Bq (Bu tm' x),∀c,Ca i=some (.st c)->∀q∈c,∀k∈Al q,Qq o tm' Ca k:=fun ha x hx i hi c hc q hq k hk=>.inr ⟨ha,i,c,⟨x,hx,hi⟩,hc,q,hq,hk⟩
 generalize hLd:Qq o tm' Ca=S at *
 generalize hop:o.op=op at *
 split
 ·rename_i t x y;simp only[Hk x (by simp[Op.operands]),Hk y (by simp[Op.operands])]
  refine Au hn fun hd=>IV (N:=N) hn hS (fun i hi=>hl x (by simp[Op.operands]) i (Hq hi)) (fun i hi=>hl y (by simp[Op.operands]) i (Em hi)) fun Ck Ee hh=>?_
  have hd':=Option.isNone_iff_eq_none.1 hd;have:=hK .top Ck Ee (by rw[hd'];exact hh)
  rw[hd'] at this;exact this
 ·rename_i c
  have Hr:∀x∈c.args.toList,x∈(Op.call c).operands.toList:=by
   intro x hx;simp only[Op.operands,Call.operands,Array.toList_append,List.mem_append];exact .inr hx
  split
  ·rename_i hc;refine Cv hn fun d hd=>Be hn fun x _ hx=>Be hn fun y _ hy=>Ec hn (Be hn fun _ _ _=>Be hn fun _ _ _=>?_)
   subst hy;have SV:=Hr x (by rw[hx];simp)
   have hym:=Hr y (by rw[hx];simp)
   simp only[Hk x SV,Hk y hym];refine R3 hn hS (AH d hd) (fun i hi=>hl x SV i (Em hi)) (fun i hi=>hl y hym i (Em hi)) fun v Ck Ee hh=>?_
   have:=hK v Ck Ee (by rw[hd];exact hh N)
   rw[hd] at this;exact this
  ·rename_i hc;refine Be hn fun x _ hx=>Be hn fun y _ hy=>Ec hn (Be hn fun _ _ _=>Be hn fun _ _ _=>?_)
   subst hy;have SV:=Hr x (by rw[hx];simp)
   have hym:=Hr y (by rw[hx];simp)
   simp only[Hk x SV,Hk y hym];exact MM hn hS (fun i hi=>hl x SV i (Em hi)) (fun i hi=>hl y hym i (Em hi)) hK
  ·rename_i f hcf;refine IR hn (List.map_congr_left fun x hx=>Hk x (Hr x hx)) hS (fun p hp i hi=>?_) (fun p hp i hi=>?_) AH hNN hK
   ·obtain⟨x,hx,rfl⟩:=List.mem_map.1 hp;exact hl x (Hr x hx) i hi
   ·obtain⟨x,hx,rfl⟩:=List.mem_map.1 hp;exact M6 (by simp only[J7,hcf]) x (Hr x hx) i hi
  ·exact hn
 ·exact hn
theorem Ye (hn:Rel none none){C:Fk}{call:A7}{K:St->Option R}{K':St->Option R'}(Hk:∀x∈o.op.operands.toList,Bu tm x=Bu tm' x)(hK:∀v Ck,(∀i,hp i≠none->Ck i≠none)->Rel (K ⟨Bh tm o.dst v,Ck⟩) (K' ⟨Bh tm' o.dst v,Ck⟩)):Rel (Oy C P N call ⟨tm,hp⟩ o K) (Oy C P N call ⟨tm',hp⟩ o K'):=
 H4 hn Hk (fun _ _=>.inl rfl) (fun _ _=>rfl) (fun _ _=>rfl) fun v Ck Ee hT=>by
  have:Ck=Ee:=funext fun i=>hT.same i rfl
  subst this;exact hK v Ck hT.keep
end
section
variable {R:Type} {r:R} {C:Fk} {P:Program} {N:Nat} {call:A7} {ops:Array Oper} {o x:Oper} {s:St} {K:St->Option R}
theorem DK {tm:Nat->PV}{hp Ck:Nat->Option Bk}{tm':Nat->PV}{q:Ng}(hm:F7 P o.op=false)(ht:∀t∈looks ops o,tm t=tm' t)(h:gE C P N call ops o ⟨tm,hp⟩=some q):gE C P N call ops o ⟨tm',Ck⟩=some q:=
 Rv (s:=⟨tm,hp⟩) (s':=⟨tm',Ck⟩) ht (fun h=>by rw[hm] at h;cases h) h
theorem Tv {tm:Nat->PV}{hp:Nat->Option Bk}(hm:F7 P o.op=false)(h:Da C P N call ops o ⟨tm,hp⟩ K=some r):
  ∃v nw,gE C P N call ops o ⟨tm,hp⟩=some (v,[],nw)∧E4 N o.dst=true∧Bn hp nw=true∧(∀p∈nw,o.dst=some p.1)∧K ⟨Bh tm o.dst v,Am hp nw⟩=some r:=by
 have hM:Mc C P o.op=false:=by
  cases hh:Mc C P o.op
  ·rfl
  ·rw[Sj hh] at hm;cases hm
 rw[Hy (by simp[Fj,hM])] at h
 cases e:gE C P N call ops o ⟨tm,hp⟩ with
 |none=>rw[e] at h;cases h
 |some q=>
  obtain⟨v,fz,nw⟩:=q;obtain⟨h1,h2⟩:=(Nd e).1 hm;simp only at h1 h2;subst h1;rw[e] at h;obtain⟨hb,h⟩:=Ai h;simp only[Bool.and_eq_true] at hb;exact⟨v,nw,rfl,hb.1,hb.2,h2,h⟩
theorem Wn {tm:Nat->PV}{hp:Nat->Option Bk}{v:PV}{nw:List (Nat × Bk)} (hm:F7 P o.op=false)(e:gE C P N call ops o ⟨tm,hp⟩=some (v,[],nw)) (hd:E4 N o.dst=true)(ha:Bn hp nw=true)(h:K ⟨Bh tm o.dst v,Am hp nw⟩=some r):Da C P N call ops o ⟨tm,hp⟩ K=some r:=by
 have hM:Mc C P o.op=false:=by
  cases hh:Mc C P o.op
  ·rfl
  ·rw[Sj hh] at hm;cases hm
 rw[Hy (by simp[Fj,hM]),e]
 show Bl _ _=_;have ha':Bn hp nw=true:=ha;rw[hd,ha'];exact h
theorem Jn {hp:Nat->Option Bk}{nw:List (Nat × Bk)} (ha:Bn hp nw=true){i:Nat}(hi:∀p∈nw,p.1≠i):Am hp nw i=hp i:=
 (Dr (Bg ha).2).2 i fun b hb=>hi _ hb rfl
theorem YT {hp Ck:Nat->Option Bk}{nw:List (Nat × Bk)} (ha:Bn hp nw=true){g:Nat->Option Bk}(h1:∀i,(∀p∈nw,p.1≠i)->g i=Ck i) (h2:∀i,(∃p∈nw,p.1=i)->g i=Am hp nw i) (ha':Bn Ck nw=true):g=Am Ck nw:=by
 funext i
 by_cases h:∃p∈nw,p.1=i
 ·rw[h2 i h];obtain⟨⟨j,b⟩,hp,rfl⟩:=h;rw[(Dr (Bg ha).2).1 j b hp,(Dr (Bg ha').2).1 j b hp]
 ·have h':∀p∈nw,p.1≠i:=fun p hp e=>h ⟨p,hp,e⟩
  rw[h1 i h',Jn ha' h']
theorem Ab8 (ap:R5 C P ops x o)(hx:Fj C P ops x s.tm=true)
  (h:Da C P N call ops x s (fun s1=>Da C P N call ops o s1 K)=some r):Da C P N call ops o s (fun s1=>Da C P N call ops x s1 K)=some r:=by
 have hm:F7 P o.op=false:=ap.mx (by unfold Fj at hx;simp only[Bool.and_eq_true] at hx;exact hx.1)
 rw[Gs hx] at h;obtain⟨tm,hp⟩:=s;have look:∀v,∀t∈looks ops o,Bh tm x.dst v t=tm t:=fun v=>Dx ap.xo
 have h1:=H4 (P:=P) (N:=N) (o:=x) (tm:=tm) (tm':=tm) (hp:=hp) (Ca:=hp) (K:=fun s1=>Da C P N call ops o s1 K) (K':=fun _=>none)
  (Rel:=fun (a:Option R)(_:Option R)=>a=some r->∃v nw,gE C P N call ops o ⟨tm,hp⟩=some (v,[],nw)∧E4 N o.dst=true∧(∀p∈nw,o.dst=some p.1)∧Bn hp nw=true) (fun h=>by cases h) (fun _ _=>rfl) (fun _ _=>.inl rfl) (fun _ _=>rfl) (fun _ _=>rfl) (fun v Ck _ hT h=>by
   obtain⟨u,nw,hu,hd,ha,hn,_⟩:=Tv hm h;refine⟨u,nw,DK hm (look v) hu,hd,hn,Lk ha fun i b hi=>?_⟩
   cases hh:hp i with
   |none=>rfl
   |some c=>exact absurd ((Bg ha).1 i b hi) (hT.keep i (by rw[hh];simp))) h
 obtain⟨v,nw,hv,hd,hn,ha⟩:=h1;refine Wn hm hv hd ha ?_;have t2:∀t∈looks ops x,tm t=Bh tm o.dst v t:=fun t ht=>(Dx ap.ox t ht).symm
 rw[Gs (by rw[←Fu t2];exact hx)]
 refine H4 (P:=P) (N:=N) (o:=x) (tm:=tm) (tm':=Bh tm o.dst v) (hp:=hp) (Ca:=Am hp nw) (Rel:=fun (a b:Option R)=>a=some r->b=some r) (fun h=>by cases h) (Eg t2) (fun i _=>?_) (fun d hxd=>?_) (fun i hi=>(Jn ha fun p hp e=>by have:=Lh hd (hn p hp);omega).symm) (fun u Ck Ee hT h=>?_) h
 ·by_cases hi:∃p∈nw,p.1=i
  ·obtain⟨⟨j,b⟩,Ca,rfl⟩:=hi;exact .inr ⟨(Bg ha).1 j b Ca,fun _ h=>by cases h⟩
  ·exact .inl (Jn ha fun p hp e=>hi ⟨p,hp,e⟩).symm
 ·refine (Jn ha fun p hp e=>?_).symm
  have:=hn p hp;rw[e] at this;exact ap.ne d hxd this
 ·obtain⟨v',nw',Kr,_,ha',_,h'⟩:=Tv hm h;have he:=DK (Ck:=hp) hm (look u) Kr;rw[hv] at he;simp only[Option.some.injEq,Prod.mk.injEq,true_and] at he;obtain⟨rfl,rfl⟩:=he
  have hh:Ee=Am Ck nw:=by
   refine YT ha (fun i hi=>?_) (fun i hi=>?_) ha'
   ·exact (hT.same i (Jn ha hi).symm).symm
   ·obtain⟨⟨j,b⟩,Ca,rfl⟩:=hi;refine (hT.off j (Lh hd (hn _ Ca)) (fun e=>ap.ne j e (hn _ Ca)) (.inr ((Bg ha).1 j b Ca))).2
  rw[hh,←H3 ap.ne];exact h'
theorem Ado (hw:KH C P o s)(ap:R5 C P ops x o)(ho:Fj C P ops o s.tm=true)
  (h:Da C P N call ops x s (fun s1=>Da C P N call ops o s1 K)=some r):Da C P N call ops o s (fun s1=>Da C P N call ops x s1 K)=some r:=by
 have hm:F7 P x.op=false:=ap.mo (by unfold Fj at ho;simp only[Bool.and_eq_true] at ho;exact ho.1)
 obtain⟨tm,hp⟩:=s;obtain⟨v,nw,hv,hd,ha,hn,h1⟩:=Tv hm h;have t1:∀t∈looks ops o,Bh tm x.dst v t=tm t:=Dx ap.xo;change Da C P N call ops o ⟨Bh tm x.dst v,Am hp nw⟩ K=some r at h1;rw[Gs (by rw[Fu t1];exact ho)] at h1
 rw[Gs ho];have hMo:Mc C P o.op=true:=by unfold Fj at ho;simp only[Bool.and_eq_true] at ho;exact ho.1
 have Aev:∀i,Qq o tm hp i->hp i≠none:=by
  rintro i (⟨y,hy,hi⟩|⟨Ny,id,c,⟨y,hy,hi⟩,hc,p,Ca,hk⟩)
  ·exact hw.1 y hy i hi
  ·exact hw.2 hMo Ny y hy id hi c hc p Ca i hk
 refine H4 (P:=P) (N:=N) (o:=o) (tm:=Bh tm x.dst v) (tm':=tm) (hp:=Am hp nw) (Ca:=hp) (Rel:=fun (a b:Option R)=>a=some r->b=some r) (fun h=>by cases h) (Eg t1) (fun i hi=>?_) (fun d hod=>?_) (fun i hi=>Jn ha fun p hp e=>by have:=Lh hd (hn p hp);omega) (fun u Ck Ee hT h=>?_) h1
 ·refine .inl (Jn ha fun p Ck e=>Aev i hi ?_)
  rw[←e];exact (Bg ha).1 p.1 p.2 Ck
 ·refine Jn ha fun p Ck e=>?_
  have:=hn p Ck;rw[e] at this;exact ap.ne d this hod
 ·have K5:∀p∈nw,Ck p.1=Am hp nw p.1∧Ee p.1=none:=by
   intro p hp2;have CQ:=(Bg ha).1 p.1 p.2 hp2;have h3:=hT.off p.1 (Lh hd (hn p hp2)) (fun e=>ap.ne p.1 (hn p hp2) e) (.inl fun hL=>Aev _ hL CQ)
   exact⟨h3.1,h3.2.trans CQ⟩
  have ha':Bn Ee nw=true:=Lk ha fun i b hi=>(K5 (i,b) hi).2
  refine Wn hm (DK hm (fun t ht=>(Dx ap.ox t ht).symm) hv) hd ha' ?_
  have hh:Ck=Am Ee nw:=by
   refine YT ha (fun i hi=>?_) (fun i hi=>?_) ha'
   ·exact hT.same i (Jn ha hi)
   ·obtain⟨p,hp2,rfl⟩:=hi;exact (K5 p hp2).1
  rw[←H3 ap.ne,←hh];exact h
theorem Ap2 (hw:KH C P o s)(ap:R5 C P ops x o)
  (h:Da C P N call ops x s (fun s1=>Da C P N call ops o s1 K)=some r):Da C P N call ops o s (fun s1=>Da C P N call ops x s1 K)=some r:=by
 cases hx:Fj C P ops x s.tm
 ·cases ho:Fj C P ops o s.tm
  ·exact PG hw ap.xo ap.ne ap.ox hx ho h
  ·exact Ado hw ap ho h
 ·exact Ab8 ap hx h
theorem Hx (h:Nx P o.op=true):Mc C P o.op=false:=by
 unfold Nx at h;split at h
 ·rename_i ho;rw[ho];rfl
 ·rename_i ho;rw[ho];rfl
 ·cases h
def Y9 (P:Program)(ops:Array Oper)(o:Oper)(tm:Nat->PV):Prop:=Nx P o.op=true∨Fn ops o tm=some false
theorem P3 {tm tm':Nat->PV}(h:∀t∈looks ops o,tm t=tm' t)(hl:Y9 P ops o tm):Y9 P ops o tm':=by
 rcases hl with hl|hl
 ·exact .inl hl
 ·exact .inr (by rw[←H8 h];exact hl)
theorem BF {tm:Nat->PV}(hl:Y9 P ops o tm):Fj C P ops o tm=false:=by
 rcases hl with hl|hl
 ·simp[Fj,Hx hl]
 ·simp[Fj,hl]
theorem OW {q:Ng}(hl:Y9 P ops o s.tm)(h:gE C P N call ops o s=some q):q.2.1=[]∧q.2.2=[]:=by
 unfold gE at h;split at h
 ·cases h
 ·rename_i hv
  have hl:Nx P o.op=true:=by
   rcases hl with hl|hl
   ·exact hl
   ·rw[hv] at hl;cases hl
  rw[Hx hl] at h;have h:RV C P N call o s=some q:=h;unfold Nx at hl;split at hl
  ·rename_i t a ho;unfold RV Yr at h;rw[ho] at h
   have:=BD (nz:=C.nz N) (P:=P) (f:=rd s.hp) (f':=rd s.hp) (g:=Hb s.hp) (g':=Hb s.hp) (t:=t) (x:=Bu s.tm a) (Rel:=fun (a b:Option Ng)=>∀q,a=some q->q.2.1=[]∧q.2.2=[])
    (K:=fun v=>some (v,[],[])) (K':=fun v=>some (v,[],[])) (fun _ h=>by cases h) (fun _ _=>.inl ⟨rfl,rfl⟩) (fun v q hq=>by cases hq;exact⟨rfl,rfl⟩)
   exact this q h
  ·rename_i src dst y ho;unfold RV Yr at h;rw[ho] at h;simp only at h;unfold We at h;split at hl
   ·rename_i hd;rw[hd] at h;simp only at h;split at h
    ·obtain⟨_,_,h⟩:=C6 h;obtain⟨_,_,h⟩:=B3 h;cases h;exact⟨rfl,rfl⟩
    ·split at h
     ·exact Lz (f:=Hb s.hp) (f':=Hb s.hp) (K':=fun _ _=>(none:Option Ng)) (Rel:=fun (a _:Option Ng)=>a=some q->q.2.1=[]∧q.2.2=[]) (fun h=>by cases h) (fun _ _=>.inl rfl) (fun n c h=>by
       obtain⟨_,h⟩:=Ai h;obtain⟨_,_,h⟩:=B3 h;obtain⟨_,_,h⟩:=B3 h;cases h;exact⟨rfl,rfl⟩) h
     ·exact Lz (f:=Hb s.hp) (f':=Hb s.hp) (K':=fun _ _=>(none:Option Ng)) (Rel:=fun (a _:Option Ng)=>a=some q->q.2.1=[]∧q.2.2=[]) (fun h=>by cases h) (fun _ _=>.inl rfl) (fun n c h=>by
       obtain⟨_,h⟩:=Ai h;obtain⟨_,_,h⟩:=B3 h;obtain⟨_,_,h⟩:=B3 h;cases h;exact⟨rfl,rfl⟩) h
     ·cases h
    ·cases h
   ·cases hl
  ·cases hl
 ·cases h;exact⟨rfl,rfl⟩
theorem TS {tm tm':Nat->PV}{hp:Nat->Option Bk}(h:∀t∈looks ops o,tm t=tm' t){i:Nat}(hi:Qq o tm hp i):Qq o tm' hp i:=by
 have he:=Eg (ops:=ops) (o:=o) h;rcases hi with⟨y,hy,hi⟩|⟨Ny,id,c,⟨y,hy,hi⟩,hc,q⟩
 ·exact .inl ⟨y,hy,by rw[←he y hy];exact hi⟩
 ·exact .inr ⟨Ny,id,c,⟨y,hy,by rw[←he y hy];exact hi⟩,hc,q⟩
theorem Ae8 {hp Ck:Nat->Option Bk}{i:Nat}(h:Ck i=hp i):rd Ck i=rd hp i∧Hb Ck i=Hb hp i:=by
 unfold rd Hb;rw[h];exact⟨rfl,rfl⟩
theorem T7 {tm:Nat->PV}{hp:Nat->Option Bk}(hl:Y9 P ops o tm)(h:Da C P N call ops o ⟨tm,hp⟩ K=some r):
  ∃v,gE C P N call ops o ⟨tm,hp⟩=some (v,[],[])∧E4 N o.dst=true∧K ⟨Bh tm o.dst v,hp⟩=some r:=by
 rw[Hy (BF hl)] at h;cases e:gE C P N call ops o ⟨tm,hp⟩ with
 |none=>rw[e] at h;cases h
 |some q=>
  obtain⟨v,fz,nw⟩:=q;obtain⟨h1,h2⟩:=OW hl e;simp only at h1 h2;subst h1;subst h2;rw[e] at h;obtain⟨hb,h⟩:=Ai h;simp only[Bool.and_eq_true] at hb;exact⟨v,rfl,hb.1,h⟩
theorem Xv {tm:Nat->PV}{hp:Nat->Option Bk}{v:PV}(hl:Y9 P ops o tm)(e:gE C P N call ops o ⟨tm,hp⟩=some (v,[],[])) (hd:E4 N o.dst=true)(h:K ⟨Bh tm o.dst v,hp⟩=some r):Da C P N call ops o ⟨tm,hp⟩ K=some r:=by
 rw[Hy (BF hl),e];show Bl _ _=_;have ha:Bn hp []=true:=rfl;simp only[hd,ha,Bool.and_self];exact h
theorem Adk (hw:KH C P o s)(xo:∀d,x.dst=some d->d ∉ looks ops o)(ne:∀d,x.dst=some d->o.dst≠some d)(ox:∀d,o.dst=some d->d ∉ looks ops x)(hl:Y9 P ops o s.tm)
  (GJ:∀y∈o.op.operands.toList,∀i∈Bq (Bu s.tm y),¬Qq x s.tm s.hp i) (hx:Fj C P ops x s.tm=true)
  (h:Da C P N call ops x s (fun s1=>Da C P N call ops o s1 K)=some r):Da C P N call ops o s (fun s1=>Da C P N call ops x s1 K)=some r:=by
 rw[Gs hx] at h;obtain⟨tm,hp⟩:=s;have look:∀v,∀t∈looks ops o,Bh tm x.dst v t=tm t:=fun v=>Dx xo
 have back:∀{u:PV} {Ck:Nat->Option Bk} {q:Ng},(∀y∈o.op.operands.toList,∀i∈Bq (Bu tm y),Ck i=hp i)->gE C P N call ops o ⟨Bh tm x.dst u,Ck⟩=some q->gE C P N call ops o ⟨tm,hp⟩=some q:=
  fun hh e=>Rv (s:=⟨Bh tm x.dst _,_⟩) (s':=⟨tm,hp⟩) (look _) (fun _ y hy i hi=>.inl (Ae8 (hh y hy i hi))) e
 have h1:=H4 (P:=P) (N:=N) (o:=x) (tm:=tm) (tm':=tm) (hp:=hp) (Ca:=hp) (K:=fun s1=>Da C P N call ops o s1 K) (K':=fun _=>none)
  (Rel:=fun (a:Option R)(_:Option R)=>a=some r->∃v,gE C P N call ops o ⟨tm,hp⟩=some (v,[],[])∧E4 N o.dst=true) (fun h=>by cases h) (fun _ _=>rfl) (fun _ _=>.inl rfl) (fun _ _=>rfl) (fun _ _=>rfl) (fun v Ck _ hT h=>by
   obtain⟨u,hu,hd,_⟩:=T7 (P3 (fun t ht=>(look v t ht).symm) hl) h
   exact⟨u,back (fun y hy i hi=>hT.far i (GJ y hy i hi) (hw.1 y hy i hi)) hu,hd⟩) h
 obtain⟨v,hv,hd⟩:=h1;refine Xv hl hv hd ?_;have t2:∀t∈looks ops x,tm t=Bh tm o.dst v t:=fun t ht=>(Dx ox t ht).symm
 rw[Gs (by rw[←Fu t2];exact hx)]
 refine H4 (P:=P) (N:=N) (o:=x) (tm:=tm) (tm':=Bh tm o.dst v) (hp:=hp) (Ca:=hp) (Rel:=fun (a b:Option R)=>a=some r->b=some r) (fun h=>by cases h) (Eg t2) (fun _ _=>.inl rfl) (fun _ _=>rfl) (fun _ _=>rfl) (fun u Ck Ee hT h=>?_) h
 have e1:Ck=Ee:=funext fun i=>hT.same i rfl
 subst e1;obtain⟨v',Kr,_,h'⟩:=T7 (P3 (fun t ht=>(look u t ht).symm) hl) h
 have he:=back (fun y hy i hi=>hT.far i (fun hR=>GJ y hy i hi (TS (fun t ht=>(t2 t ht).symm) hR)) (hw.1 y hy i hi)) Kr
 rw[hv] at he;simp only[Option.some.injEq,Prod.mk.injEq,and_true] at he;subst he;rw[←H3 ne];exact h'
theorem Acs (xo:∀d,x.dst=some d->d ∉ looks ops o)(ne:∀d,x.dst=some d->o.dst≠some d)(ox:∀d,o.dst=some d->d ∉ looks ops x)(hl:Y9 P ops x s.tm)
  (GJ:∀y∈x.op.operands.toList,∀i∈Bq (Bu s.tm y),¬Qq o s.tm s.hp i) (ho:Fj C P ops o s.tm=true)
  (h:Da C P N call ops x s (fun s1=>Da C P N call ops o s1 K)=some r):Da C P N call ops o s (fun s1=>Da C P N call ops x s1 K)=some r:=by
 obtain⟨tm,hp⟩:=s;obtain⟨v,hv,hd,h1⟩:=T7 hl h;have t1:∀t∈looks ops o,Bh tm x.dst v t=tm t:=Dx xo;rw[Gs (by rw[Fu t1];exact ho)] at h1
 rw[Gs ho];refine H4 (P:=P) (N:=N) (o:=o) (tm:=Bh tm x.dst v) (tm':=tm) (hp:=hp) (Ca:=hp) (Rel:=fun (a b:Option R)=>a=some r->b=some r) (fun h=>by cases h) (Eg t1) (fun _ _=>.inl rfl) (fun _ _=>rfl) (fun _ _=>rfl) (fun u Ck Ee hT h=>?_) h1
 have e1:Ck=Ee:=funext fun i=>hT.same i rfl
 subst e1;have t2:∀t∈looks ops x,tm t=Bh tm o.dst u t:=fun t ht=>(Dx ox t ht).symm
 refine Xv (P3 t2 hl) (Rv (s:=⟨tm,hp⟩) (s':=⟨Bh tm o.dst u,Ck⟩) t2 (fun _ y hy i hi=>?_) hv) hd ?_
 ·have hi:i∈Bq (Bu tm y):=by rw[Eg t2 y hy];exact hi
  by_cases hn:hp i=none
  ·exact .inr ⟨QI hn,Ia hn⟩
  ·obtain⟨h3,h4⟩:=Ae8 (hT.far i (GJ y hy i hi) hn);exact .inl ⟨h3.symm,h4.symm⟩
 ·rw[←H3 ne];exact h
def Z0 (P:Program)(x:Oper)(s s1:St):Prop:=(∀t,x.dst≠some t->s1.tm t=s.tm t)∧(∀i,s.hp i≠none->s1.hp i≠none)∧(F7 P x.op=false->∀i,s.hp i≠none->s1.hp i=s.hp i)
theorem K1 {tm:Nat->PV}{d:Option Tmp}{v:PV}{t:Nat}(h:d≠some t):Bh tm d v t=tm t:=by
 cases d with
 |none=>rfl
 |some d=>exact Ah _ _ (by rintro rfl;exact h rfl)
theorem Xu {K':St->Option R}(h:Da C P N call ops x s K=some r)(hK:∀s1,Z0 P x s s1->K s1=some r->K' s1=some r):Da C P N call ops x s K'=some r:=by
 cases hx:Fj C P ops x s.tm
 ·rw[Hy hx] at h ⊢;cases ex:gE C P N call ops x s with
  |none=>rw[ex] at h;cases h
  |some q=>
   rw[ex] at h;obtain⟨hb,h1⟩:=Ai h;simp only[Bool.and_eq_true] at hb;show Bl _ _=_;rw[hb.1,hb.2];refine hK _ ⟨fun t ht=>K1 ht,fun i hi=>J4 hb.2 hi,fun hm i hi=>?_⟩ h1
   show Am (Ae s.hp q.2.1) q.2.2 i=s.hp i;rw[Ew hb.2 hi,((Nd ex).1 hm).1];simp
 ·rw[Gs hx] at h ⊢
  exact Ye (P:=P) (N:=N) (o:=x) (tm:=s.tm) (tm':=s.tm) (hp:=s.hp) (Rel:=fun (a b:Option R)=>a=some r->b=some r) (fun h=>by cases h) (fun _ _=>rfl) (fun v Ck hh h=>hK _ ⟨fun t ht=>K1 ht,hh,fun hm=>by
   have hM:Mc C P x.op=true:=by unfold Fj at hx;simp only[Bool.and_eq_true] at hx;exact hx.1
   rw[Sj hM] at hm;cases hm⟩ h) h
theorem KH.keeps {s1:St}(h:KH C P o s)(ap:R5 C P ops x o)(hk:Z0 P x s s1):KH C P o s1:=by
 have hop:∀y∈o.op.operands.toList,Bu s1.tm y=Bu s.tm y:=fun y hy=>Eg (ops:=ops) (o:=o) (fun t ht=>hk.1 t fun hd=>ap.xo t hd ht) y hy
 refine⟨fun y hy i hi=>?_,fun hM hA y hy i hi c hc p hp k hkk=>?_⟩
 ·rw[hop y hy] at hi;exact hk.2.1 i (h.1 y hy i hi)
 ·rw[hop y hy] at hi;have hi0:=h.1 y hy i hi;rw[hk.2.2 (ap.mo hM) i hi0] at hc;exact hk.2.1 k (h.2 hM hA y hy i hi c hc p hp k hkk)
theorem Wm:∀(l:List Oper){s:St}{K:St->Option R},KH C P o s->(∀x∈l,R5 C P ops x o)->Kg C P N call ops l s (fun s1=>Da C P N call ops o s1 K)=some r->Da C P N call ops o s (fun s1=>Kg C P N call ops l s1 K)=some r
 |[],_,_,_,_,h=>h
 |x::l,s,K,hw,ap,h=>by
  refine Ap2 hw (ap x (by simp)) ?_
  refine Xu (K:=fun s1=>Kg C P N call ops l s1 (fun s2=>Da C P N call ops o s2 K)) h fun s1 hk h1=>?_
  exact Wm l (hw.keeps (ap x (by simp)) hk) (fun y hy=>ap y (List.mem_cons_of_mem _ hy)) h1
theorem Nf:∀(l l':List Oper){s:St}{K:St->Option R},Kg C P N call ops (l++l') s K=Kg C P N call ops l s (fun s1=>Kg C P N call ops l' s1 K)
 |[],_,_,_=>rfl
 |x::l,l',s,K=>by
  show Da C P N call ops x s (fun s1=>Kg C P N call ops (l++l') s1 K)=Da C P N call ops x s (fun s1=>Kg C P N call ops l s1 _)
  congr 1
  funext s1
  exact Nf l l'
theorem QU {l l':List Oper}(hw:KH C P o s)(ap:∀x∈l,R5 C P ops x o)(h:Kg C P N call ops (l++o::l') s K=some r):Da C P N call ops o s (fun s1=>Kg C P N call ops (l++l') s1 K)=some r:=by
 rw[Nf] at h;have:=Wm l hw ap h;refine Xu this fun s1 _ h1=>?_
 rw[Nf];exact h1
end
open Go.RowKit
section
variable {R:Type} {r:R} {P:Program} {N:Nat} {w0:World} {X0:Gg} {Y:Nat->Prop} {β β':Bt} {s:St} {a:Act} {w w':World} {o:Oper} {ops:Array Oper} {C:Fk} {call:A7} {K:St->Option R}
theorem Wl (h:Cj N w0 X0 Y β s a w){j d:Nat}(hd:(ops[j]?).bind (·.dst)=some d) {v:Value}(ht:s.tm d=.sc v):yielded ops a.tmps j=match v with | .bool b=>some b|_=>none:=by
 have B2:d<N:=by
  rcases Nat.lt_or_ge d N with h'|h'
  ·exact h'
  ·rw[h.tmo d h'] at ht;cases ht
 have hv:=h.tms d B2;rw[ht] at hv;have hv:=T9 hv;have ZC:d<a.tmps.size:=by rw[h.tsz];exact B2
 have he:a.tmps[d]?=some v:=by
  rw[Array.getElem?_eq_getElem ZC];simp[ZC] at hv;rw[hv]
 unfold yielded;rw[hd];simp only[Option.bind_some,he];cases v<;>rfl
theorem P4 (h:Cj N w0 X0 Y β s a w){G:Qi}(H7:JH P G w0 X0)(Df:∀f args res,call f args=some res->Cx G P f args res){i:Nat}(hi:ops[i]?=some o) (hk:Da C P N call ops o s K=some r):
  ∃s',K s'=some r∧∀(next:Act->World->Prop) (Q:Exit->Act->World->Prop),(∀a' w' β',Cj N w0 X0 Y β' s' a' w'->next a' w')->wpOp P ops Q i next a w:=by
 rw[DW] at hk
 have hw:∀b,Fn ops o s.tm=some b->Region.wanted o (yielded ops a.tmps)=b:=by
  intro b hb;unfold Fn at hb;unfold Region.wanted;cases hg:o.guard with
  |none=>rw[hg] at hb;simpa using hb
  |some q=>
   obtain⟨j,want⟩:=q;rw[hg] at hb;simp only at hb ⊢;cases hd:(ops[j]?).bind (·.dst) with
   |none=>rw[hd] at hb;cases hb
   |some d=>
    rw[hd] at hb;simp only at hb;split at hb
    ·rename_i b' ht;rw[Wl h hd ht];simp at hb;rw[←hb];cases b'<;>cases want<;>rfl
    ·rename_i ht;rw[Wl h hd ht];simp at hb;rw[hb];rfl
    ·cases hb
 split at hk
 ·cases hk
 ·rename_i hv;obtain⟨s',hs',hn⟩:=LX h H7 Df hk;refine⟨s',hs',fun next Q Aaa=>?_⟩
  unfold wpOp;rw[hi];simp only[hw _ hv,if_true];exact .inl (hn next Q Aaa)
 ·rename_i hv;obtain⟨hd,hk⟩:=Ai hk;refine⟨_,hk,fun next Q Aaa=>?_⟩
  unfold wpOp;rw[hi];simp only[hw _ hv];refine Aaa _ _ β (h.put hd (Aq.sc _) (by simp[Bq,B5,Al]))
theorem Cj.known (h:Cj N w0 X0 Y β s a w){d:Nat}(hd:s.tm d=.ub):∃b,Cj N w0 X0 Y β ⟨Cg s.tm d (.sc (.bool b)),s.hp⟩ a w:=by
 have B2:d<N:=by
  rcases Nat.lt_or_ge d N with h'|h'
  ·exact h'
  ·rw[h.tmo d h'] at hd;cases hd
 have hu:=h.tms d B2;rw[hd] at hu;have G5:Aq w (Cu s.hp β Y) .ub (a.tmps.getD d undef):=hu
 obtain⟨b,hv⟩:∃b,a.tmps.getD d undef=.bool b:=by
  generalize a.tmps.getD d undef=x at G5;cases G5 with
  |ub b=>exact⟨b,rfl⟩
 refine⟨b,⟨h.dfr,h.tsz,fun i hi=>?_,fun i hi=>?_,h.box,h.inj,h.blt,fun i hi=>?_,h.wfB,h.ownd,h.rngB,h.pin,h.stp,h.Yx,h.Ylt,h.fr⟩⟩
 ·show Cg s.tm d _ i=_;rw[Ah _ _ (by omega)]
  exact h.tmo i hi
 ·by_cases e:i=d
  ·subst e;show Dt _ _ _ (Cg s.tm i _ i) _;rw[Ak,hv];exact Aq.sc _
  ·show Dt _ _ _ (Cg s.tm d _ i) _;rw[Ah _ _ e];exact h.tms i hi
 ·by_cases e:i=d
  ·subst e;show ∀id∈Bq (Cg s.tm i _ i),_;rw[Ak];simp[Bq,B5,Al]
  ·show ∀id∈Bq (Cg s.tm d _ i),_;rw[Ah _ _ e];exact h.wfT i hi
theorem BM {x y:Option R}(h:AR x y=some r):x=some r∧y=some r:=by
 unfold AR at h;split at h
 ·rename_i e;exact⟨h,e ▸ h⟩
 ·cases h
theorem DT (h:Cj N w0 X0 Y β s a w){F:St->Option R}(hk:LO ops o s F=some r):∃s',F s'=some r∧Cj N w0 X0 Y β s' a w:=by
 unfold LO at hk;split at hk
 ·exact⟨s,hk,h⟩
 ·split at hk
  ·exact⟨s,hk,h⟩
  ·split at hk
   ·rename_i d _ ht;obtain⟨b,hb⟩:=h.known ht;obtain⟨h1,h2⟩:=BM hk;cases b
    ·exact⟨_,h2,hb⟩
    ·exact⟨_,h1,hb⟩
   ·exact⟨s,hk,h⟩
theorem Rm {G:Qi}(H7:JH P G w0 X0)(Df:∀f args res,call f args=some res->Cx G P f args res){Q:Exit->Act->World->Prop}(hQ:∀s' a' w' β',K s'=some r->Cj N w0 X0 Y β' s' a' w'->Q .normal a' w'):
  ∀(l:List Nat) (os:List Oper),l.length=os.length->(∀(k i:Nat),l[k]?=some i->ops[i]?=os[k]?)->∀{s:St} {a:Act} {w:World} {β:Bt},Cj N w0 X0 Y β s a w->EB C P N call ops os s K=some r->wpOps P ops Q l a w
 |[],[],_,_,s,a,w,β,h,hk=>by
  show Q .normal a w;exact hQ s a w β hk h
 |[],_::_,hl,_,_,_,_,_,_,_=>by cases hl
 |_::_,[],hl,_,_,_,_,_,_,_=>by cases hl
 |i::l,o::os,hl,hi,s,a,w,β,h,hk=>by
  rw[wpOps_cons];obtain⟨s1,hk,h⟩:=DT h hk;obtain⟨s',hs',hn⟩:=P4 h H7 Df (by simpa using hi 0 i rfl) hk
  exact hn _ _ fun a' w' β' h'=>Rm H7 Df hQ l os (by simpa using hl) (fun k j hj=>by simpa using hi (k+1) j (by simpa using hj)) h' hs'
theorem Cj.drew (h:Cj N w0 X0 Y β s a w):Cj N w0 X0 Y β s a { w with drawn:=w.drawn+1 }:=by
 have:=h.stepR (d:=none) (v:=.top) (nw:=[]) (val:=undef) (w':={ w with drawn:=w.drawn+1 }) (β':=β) rfl rfl
  ⟨rfl,rfl,rfl,⟨Nat.le_refl _,fun _ _ _=>rfl,fun _ _=>Fz.refl _ _⟩,fun _ _=>rfl,by simp,by simp,by simp,by simp,by simp,.top _,by simp[Bq,B5,Al]⟩
 exact this
theorem EW (h:Cj N w0 X0 Y β s a w){G:Qi}(H7:JH P G w0 X0)(Df:∀f args res,call f args=some res->Cx G P f args res){id:Nat}{Q:Exit->Act->World->Prop}
  (hk:EB C P N call ops ops.toList s K=some r)(hQ:∀s' a' w' β',K s'=some r->Cj N w0 X0 Y β' s' a' w'->Q .normal a' w'):(Code.region id ops false).wp P Q a w:=by
 refine wp_region (Rm H7 Df hQ (List.range ops.size) ops.toList (by simp) (fun k i hi=>?_) h hk)
 rw[List.getElem?_range] at hi
 ·simp at hi;subst hi;simp
 ·rcases Nat.lt_or_ge k ops.size with h'|h'
  ·exact h'
  ·rw[List.getElem?_eq_none (by simpa using h')] at hi;cases hi
def Ji (n:Nat)(listed:Array Bool):List Nat:=(List.range n).filter fun i=> !listed.getD i true
def Ag9 (ops:Array Oper)(listed:Array Bool)(o:Oper):Prop:=∀e∈o.after,Region.binds .any e=true->listed.getD e.on false=true
theorem testBit_or {a b j:Nat}:(a ||| b).testBit j=(a.testBit j||b.testBit j):=Nat.testBit_or a b j
theorem AG {acc:List Nat}{j:Nat}:∀(es:List Edge)(v:Nat),(es.foldl (fun s e=>bif Region.binds .any e then s ||| 2 ^ e.on ||| acc.getD e.on 0 else s) v).testBit j=true ->
  v.testBit j=true∨∃e∈es,Region.binds .any e=true∧(j=e.on∨(acc.getD e.on 0).testBit j=true)
 |[],v,h=>.inl h
 |e::es,v,h=>by
  rcases AG es _ h with h|⟨e',he',h⟩
  ·cases hb:Region.binds .any e<;>simp only[hb] at h
   ·exact .inl h
   ·simp only[cond_true,Nat.testBit_or,Bool.or_eq_true] at h;rcases h with (h|h)|h
    ·exact .inl h
    ·refine .inr ⟨e,by simp,hb,.inl ?_⟩
     rw[Nat.testBit_two_pow] at h;exact (of_decide_eq_true h).symm
    ·exact .inr ⟨e,by simp,hb,.inr h⟩
  ·exact .inr ⟨e',by simp[he'],h⟩
theorem Mo {listed:Array Bool}(hc:∀(j:Nat) oj,ops[j]?=some oj->listed.getD j false=true->Ag9 ops listed oj):
  ∀(rest done:List Oper) (acc:List Nat),ops.toList=done++rest->acc.length=done.length ->
   (∀(k:Nat) o,done[k]?=some o->Ag9 ops listed o->∀j,(acc.getD k 0).testBit j=true->listed.getD j false=true) ->
   ∀(k:Nat) o,ops[k]?=some o->Ag9 ops listed o->∀j,((Gn rest acc).getD k 0).testBit j=true->listed.getD j false=true
 |[],done,acc,he,_,h,k,o,ho,hf,j,hj=>by
  refine h k o ?_ hf j hj;rw[List.append_nil] at he;rw[←he]
  simpa using ho
 |o'::rest,done,acc,he,hl,h,k,o,ho,hf,j,hj=>by
  refine Mo hc rest (done++[o']) _ (by rw[he];simp) (by simp[hl]) ?_ k o ho hf j hj
  intro k o ho hf j hj;rcases Nat.lt_trichotomy k done.length with B2|heq|hgt
  ·rw[List.getElem?_append_left B2] at ho;rw[List.getD_eq_getElem?_getD,List.getElem?_append_left (by omega),←List.getD_eq_getElem?_getD] at hj
   exact h k o ho hf j hj
  ·subst heq;simp at ho;subst ho;rw[←hl] at hj;simp only[List.getD_eq_getElem?_getD,List.getElem?_append_right (Nat.le_refl _),Nat.sub_self,List.getElem?_cons_zero,Option.getD_some] at hj
   have hj:(o'.after.toList.foldl (fun s e=>bif Region.binds .any e then s ||| 2 ^ e.on ||| acc.getD e.on 0 else s) 0).testBit j=true:=by
    simpa only[List.getD_eq_getElem?_getD] using hj
   rcases AG _ _ hj with h0|⟨e,hm,hb,h1⟩
   ·simp at h0
   ·have Yl:=hf e (by simpa using hm) hb
    rcases h1 with h1|h1
    ·rw[h1];exact Yl
    ·cases hd:done[e.on]? with
     |none=>
      have:acc.getD e.on 0=0:=by
       rw[List.getD_eq_getElem?_getD,List.getElem?_eq_none (by rw[hl];exact List.getElem?_eq_none_iff.1 hd)]
       rfl
      rw[this] at h1;simp at h1
     |some oe=>
      have hoe:ops[e.on]?=some oe:=by
       rw[←Array.getElem?_toList,he,List.getElem?_append_left (by
        rcases Nat.lt_or_ge e.on done.length with h'|h'
        ·exact h'
        ·rw[List.getElem?_eq_none h'] at hd;cases hd)]
       exact hd
      exact h e.on oe hd (hc e.on oe hoe Yl) j h1
  ·rw[List.getElem?_eq_none (by simp;omega)] at ho
   cases ho
theorem Ry {bs:List Nat}:∀(l:List Oper)(n:Nat),V0 C P ops bs l n=true->∀(k:Nat) o,l[k]?=some o->∀(j:Nat) x,ops[j]?=some x->j<n+k->Xf C P ops x o=true->(bs.getD (n+k) 0).testBit j=true
 |[],_,_,k,o,ho,_,_,_,_,_=>by simp at ho
 |o'::l,n,h,k,o,ho,j,x,hx,hj,Jp=>by
  simp only[V0,Bool.and_eq_true] at h;cases k with
  |zero=>
   simp at ho;subst ho
   have:=List.all_eq_true.1 h.1 (x,j) (by
    rw[List.mem_zipIdx_iff_getElem?]
    simpa using hx)
   simp only[Jp,Bool.not_true,Bool.or_false,Bool.or_eq_true,Bool.not_eq_true'] at this;rcases this with h'|h'
   ·have:Nat.blt j n=true:=Nat.ble_eq_true_of_le (by omega)
    rw[this] at h';cases h'
   ·exact h'
  |succ k=>
   have:=Ry l (n+1) h.2 k o (by simpa using ho) j x hx (by omega) Jp
   rwa [show n+(k+1)=n+1+k by omega]
theorem He {n i:Nat}{listed:Array Bool}:i∈Ji n listed↔i<n∧listed.getD i true=false:=by
 unfold Ji;simp[List.mem_filter]
theorem Qh {n i:Nat}{listed:Array Bool}(hi:i∈Ji n listed)(Kj:listed.size=n):∃l1 l2,Ji n listed=l1++i::l2∧Ji n (listed.setIfInBounds i true)=l1++l2∧∀j∈l1,j<i:=by
 obtain⟨B2,Hm⟩:=He.1 hi
 have hr:List.range n=List.range i++i::(List.range (n-i-1)).map (i+1 + ·):=by
  conv=>lhs;rw[show n=i+(1+(n-i-1)) by omega]
  rw[List.range_add,List.range_add];simp[Nat.add_assoc]
 refine⟨(List.range i).filter fun i=> !listed.getD i true,((List.range (n-i-1)).map (i+1 + ·)).filter fun i=> !listed.getD i true,?_,?_,fun j hj=>?_⟩
 ·unfold Ji;rw[hr,List.filter_append,List.filter_cons_of_pos (by rw[Hm];rfl)]
 ·unfold Ji;rw[hr,List.filter_append,List.filter_cons_of_neg (by simp[Kj,B2])]
  congr 1
  ·refine List.filter_congr fun j hj=>?_
   rw[getD_set_ne true (by have:=List.mem_range.1 hj;omega)]
  ·refine List.filter_congr fun j hj=>?_
   obtain⟨k,_,rfl⟩:=List.mem_map.1 hj;rw[getD_set_ne true (by omega)]
 ·exact List.mem_range.1 (List.mem_filter.1 hj).1
theorem ZE (h:Cj N w0 X0 Y β s a w)(o:Oper):KH C P o s:=by
 refine⟨fun y _ i hi=>D9 h y i hi,fun _ _ y _ i hi c hc p hp k hk=>h.wfB i c hc p hp k hk⟩
theorem AF (ZB:(ops.toList.zipIdx.all fun q=>q.1.after.toList.all fun e=> !Region.binds .any e||Nat.blt e.on q.2)=true) {listed:Array Bool}(inv:HeadInv .any ops ops.size listed)(hr:Region.ready .any ops listed=[]):Ji ops.size listed=[]:=by
 cases hp:Ji ops.size listed with
 |nil=>rfl
 |cons i l=>
  exfalso;have hi:i∈Ji ops.size listed:=by rw[hp];simp
  obtain⟨B2,Hm⟩:=He.1 hi;obtain⟨l1,l2,h1,_,h3⟩:=Qh hi inv.size
  have Yl:l1=[]:=by
   cases l1 with
   |nil=>rfl
   |cons j l1=>
    rw[hp] at h1;simp at h1;have:=h3 j (by simp)
    omega
  subst Yl
  have A2c:∀j,j<i->listed.getD j false=true:=by
   intro j hj;cases hh:listed.getD j false with
   |true=>rfl
   |false=>
    have:j∈Ji ops.size listed:=He.2 ⟨by omega,getD_in (by rw[inv.size];omega) hh⟩
    have hs:(Ji ops.size listed).Pairwise (· < ·):=List.Pairwise.filter _ List.pairwise_lt_range
    rw[h1] at this hs;simp at this;rcases this with e|e
    ·omega
    ·have:=(List.pairwise_cons.1 hs).1 j e;omega
  have:i∈Region.ready .any ops listed:=by
   refine mem_ready.2 ⟨Hm,ops[i],Array.getElem?_eq_getElem B2,fun e he hb=>A2c _ ?_⟩
   have:=List.all_eq_true.1 ZB (ops[i],i) (by
    rw[List.mem_zipIdx_iff_getElem?];simp[B2])
   have:=List.all_eq_true.1 this e (Array.mem_toList_iff.2 he);simp only[hb,Bool.not_true,Bool.false_or] at this;exact Nat.lt_of_succ_le (Nat.le_of_ble_eq_true this)
  rw[hr] at this;simp at this
theorem DM {G:Qi}(H7:JH P G w0 X0)(Df:∀f args res,call f args=some res->Cx G P f args res)(hok:AO C P ops=true){Q:Exit->Act->World->Prop}(hQ:∀s' a' w' β',K s'=some r->Cj N w0 X0 Y β' s' a' w'->Q .normal a' w'):
  ∀(fuel:Nat) {listed:Array Bool} {s:St} {a:Act} {w:World} {β:Bt},HeadInv .any ops ops.size listed->(Ji ops.size listed).length=fuel->Cj N w0 X0 Y β s a w->Kg C P N call ops ((Ji ops.size listed).filterMap (ops[·]?)) s K=some r->wpAny P .any ops Q fuel listed a w:=by
 unfold AO at hok;simp only[Bool.and_eq_true] at hok;obtain⟨ZB,Ais⟩:=hok;intro fuel
 induction fuel with
 |zero=>
  intro listed s a w β inv hf h hk;have hp:=List.eq_nil_of_length_eq_zero hf;rw[hp] at hk;refine⟨?_,hQ s a w β hk h⟩;cases hr:Region.ready .any ops listed with
  |nil=>rfl
  |cons i l=>
   exfalso;have hi:i∈Region.ready .any ops listed:=by rw[hr];simp
   obtain⟨Hm,o,ho,_⟩:=mem_ready.1 hi;have:i∈Ji ops.size listed:=He.2 ⟨(Array.getElem?_eq_some_iff.1 ho).1,Hm⟩;rw[hp] at this;simp at this
 |succ fuel ih=>
  intro listed s a w β inv hf h hk;refine⟨fun hr=>?_,fun i hi=>?_⟩
  ·rw[AF ZB inv hr] at hf;cases hf
  ·obtain⟨Hm,o,ho,Ko⟩:=mem_ready.1 hi;have B2:i<ops.size:=(Array.getElem?_eq_some_iff.1 ho).1;obtain⟨l1,l2,h1,h2,h3⟩:=Qh (He.2 ⟨B2,Hm⟩) inv.size;rw[h1,List.filterMap_append,List.filterMap_cons_some ho] at hk
   have Ny:∀x∈l1.filterMap (ops[·]?),R5 C P ops x o:=by
    intro x hx;obtain⟨j,hj,hxj⟩:=List.mem_filterMap.1 hx;refine VV ?_;cases Jp:Xf C P ops x o with
    |false=>rfl
    |true=>
     exfalso;have Y7:=Ry ops.toList 0 Ais i o (by simpa using ho) j x hxj (by have:=h3 j hj;omega) Jp
     rw[Nat.zero_add] at Y7;have hjl:=Mo (listed:=listed) (fun j oj hj hl=>inv.closed j oj hj hl) ops.toList [] [] (by simp) rfl (by simp) i o ho Ko j Y7
     have:j∈Ji ops.size listed:=by rw[h1];simp[hj]
     have:=getD_both (He.1 this).2;rw[hjl] at this;cases this
   obtain⟨s',hs',hn⟩:=P4 h H7 Df ho (QU (ZE h o) Ny hk);refine hn _ _ fun a' w' β' h'=>ih (inv.set hi B2) ?_ h' ?_
   ·rw[h2];rw[h1] at hf;simp at hf ⊢;omega
   ·rw[h2,List.filterMap_append];exact hs'
theorem S1 (h:Cj N w0 X0 Y β s a w){G:Qi}(H7:JH P G w0 X0)(Df:∀f args res,call f args=some res->Cx G P f args res)(hm:P.follows .mixedOrders=true)(hok:AO C P ops=true){Q:Exit->Act->World->Prop}
  (hk:Kg C P N call ops ops.toList s K=some r)(hQ:∀s' a' w' β',K s'=some r->Cj N w0 X0 Y β' s' a' w'->Q .normal a' w'):wpAny P .any ops Q ops.size (Array.replicate ops.size false) a { w with drawn:=w.drawn+1 }:=by
 have hp:Ji ops.size (Array.replicate ops.size false)=List.range ops.size:=by
  unfold Ji;refine List.filter_eq_self.2 fun i hi=>?_
  have:=List.mem_range.1 hi;simp[this]
 refine DM (C:=C) H7 Df hok hQ ops.size ⟨by simp,fun j oj _ hl=>(by rw[getD_replicate_false] at hl;cases hl),fun t ht ht'=>by omega⟩ (by rw[hp];simp) h.drew ?_
 rw[hp]
 have:(List.range ops.size).filterMap (ops[·]?)=ops.toList:=by
  refine List.ext_getElem? fun k=>?_
  have:∀(n:Nat),n<=ops.size->(List.range n).filterMap (ops[·]?)=ops.toList.take n:=by
   intro n
   induction n with
   |zero=>intro _;rfl
   |succ n ih=>
    intro hn;rw[List.range_succ,List.filterMap_append,ih (by omega),List.take_add_one]
    congr 1
    have:ops[n]?=some ops[n]:=Array.getElem?_eq_getElem (by omega)
    simp[this]
  rw[this ops.size (Nat.le_refl _)]
  congr 1
  exact List.take_of_length_le (by simp)
 rw[this];exact hk
theorem EN (h:Cj N w0 X0 Y β s a w){G:Qi}(H7:JH P G w0 X0)(Df:∀f args res,call f args=some res->Cx G P f args res)(hm:P.follows .mixedOrders=true)(hok:AO C P ops=true){id:Nat}{Q:Exit->Act->World->Prop}
  (hk:Kg C P N call ops ops.toList s K=some r)(hQ:∀s' a' w' β',K s'=some r->Cj N w0 X0 Y β' s' a' w'->Q .normal a' w'):(Code.region id ops true).wp P Q a w:=
 wp_region_any hm (S1 h H7 Df hm hok hk hQ)
end
end
section
open Go.RowKit
section
variable {R R':Type} {Rel:Option R->Option R'->Prop} {P:Program} {N:Nat} {tm tm':Nat->PV} {hp Ca:Nat->Option Bk} {o:Oper}
theorem TD (hn:Rel none none){C:Fk}{call:A7}{K:St->Option R}{K':St->Option R'}(Ny:J7 o.op=true)(Hk:∀x∈o.op.operands.toList,Bu tm x=Bu tm' x)
  (hS:∀i,Qq o tm' Ca i->hp i=Ca i∨(hp i=none∧∀b,Rel none b)) (AH:∀d,o.dst=some d->hp d=Ca d)
  (hK:∀v Ck Ee,(∀M,Zz M (Qq o tm' Ca) o.dst hp Ca Ck Ee)->Rel (K ⟨Bh tm o.dst v,Ck⟩) (K' ⟨Bh tm' o.dst v,Ee⟩)):Rel (Oy C P N call ⟨tm,hp⟩ o K) (Oy C P N call ⟨tm',Ca⟩ o K'):=by
 unfold Oy;have hl:∀x∈o.op.operands.toList,∀i∈Bq (Bu tm' x),Qq o tm' Ca i:=fun x hx i hi=>.inl ⟨x,hx,hi⟩
 generalize hLd:Qq o tm' Ca=S at *
 generalize hop:o.op=op at *
 unfold J7 at Ny;split at Ny
 ·rename_i c
  have Hr:∀x∈c.args.toList,x∈(Op.call c).operands.toList:=by
   intro x hx;simp only[Op.operands,Call.operands,Array.toList_append,List.mem_append];exact .inr hx
  split at Ny
  ·rename_i hc;simp only[hc];refine Cv hn fun d hd=>Be hn fun x _ hx=>Be hn fun y _ hy=>Ec hn (Be hn fun _ _ _=>Be hn fun _ _ _=>?_)
   subst hy;have SV:=Hr x (by rw[hx];simp)
   have hym:=Hr y (by rw[hx];simp)
   simp only[Hk x SV,Hk y hym];refine R3 hn hS (AH d hd) (fun i hi=>hl x SV i (Em hi)) (fun i hi=>hl y hym i (Em hi)) fun v Ck Ee hh=>?_
   have:=hK v Ck Ee (by rw[hd];exact hh)
   rw[hd] at this;exact this
  ·cases Ny
 ·cases Ny
theorem Ln {C:Fk}{call:A7}(Ny:J7 o.op=true)(Hk:∀x∈o.op.operands.toList,Bu tm x=Bu tm' x)(hS:∀i,Qq o tm' Ca i->hp i=Ca i)(AH:∀d,o.dst=some d->hp d=Ca d){s1:St}
  (h:Oy C P N call ⟨tm,hp⟩ o some=some s1):∃v Ck Ee,s1=⟨Bh tm o.dst v,Ck⟩∧Oy C P N call ⟨tm',Ca⟩ o some=some ⟨Bh tm' o.dst v,Ee⟩∧∀M,Zz M (Qq o tm' Ca) o.dst hp Ca Ck Ee:=by
 have:=TD (P:=P) (N:=N) (C:=C) (call:=call) (o:=o) (tm:=tm) (tm':=tm') (hp:=hp) (Ca:=Ca) (K:=some) (K':=some)
  (Rel:=fun (a b:Option St)=>∀s1,a=some s1->∃v Ck Ee,s1=⟨Bh tm o.dst v,Ck⟩∧b=some ⟨Bh tm' o.dst v,Ee⟩∧∀M,Zz M (Qq o tm' Ca) o.dst hp Ca Ck Ee) (fun _ h=>by cases h) Ny Hk (fun i hi=>.inl (hS i hi)) AH
  (fun v Ck Ee hT s1 h=>by cases h;exact⟨v,Ck,Ee,rfl,rfl,hT⟩)
 exact this s1 h
end
section
variable {R R':Type} {r:R} {r':R'} {C:Fk} {P:Program} {N:Nat} {call:A7} {ops:Array Oper} {o x:Oper} {s s1 s2:St} {K:St->Option R}
theorem N5 {tm:Nat->PV}(h:Fj C P ops o tm=true):Mc C P o.op=true:=by
 unfold Fj at h;simp only[Bool.and_eq_true] at h;exact h.1
theorem DP (h:J7 o.op=true):Mc C P o.op=true:=by
 unfold J7 at h;split at h
 ·rename_i c hc;rw[hc];split at h
  ·rename_i WH;simp only[Mc,WH];exact h
  ·cases h
 ·cases h
theorem Ke (h:Da C P N call ops x s K=some r):∃s1,Da C P N call ops x s some=some s1∧Z0 P x s s1∧(Nx P x.op=true->s1.hp=s.hp)∧K s1=some r:=by
 cases hx:Fj C P ops x s.tm
 ·rw[Hy hx] at h ⊢;cases ex:gE C P N call ops x s with
  |none=>rw[ex] at h;cases h
  |some q=>
   rw[ex] at h;obtain⟨hb,h1⟩:=Ai h;simp only[Bool.and_eq_true] at hb;refine⟨_,?_,⟨fun t ht=>K1 ht,fun i hi=>J4 hb.2 hi,fun hm i hi=>?_⟩,fun hl=>?_,h1⟩
   ·show Bl _ _=_;rw[hb.1,hb.2];rfl
   ·show Am (Ae s.hp q.2.1) q.2.2 i=s.hp i;rw[Ew hb.2 hi,((Nd ex).1 hm).1];simp
   ·show Am (Ae s.hp q.2.1) q.2.2=s.hp;obtain⟨h1,h2⟩:=OW (.inl hl) ex;rw[h1,h2]
    funext i
    show Ae s.hp [] i=_;rw[Br];simp
 ·rw[Gs hx] at h ⊢
  exact Ye (P:=P) (N:=N) (o:=x) (tm:=s.tm) (tm':=s.tm) (hp:=s.hp) (K':=some) (Rel:=fun (a:Option R) (b:Option St)=>a=some r->∃s1,b=some s1∧Z0 P x s s1∧(Nx P x.op=true->s1.hp=s.hp)∧K s1=some r) (fun h=>by cases h) (fun _ _=>rfl) (fun v Ck hh h=>⟨_,rfl,⟨fun t ht=>K1 ht,hh,fun hm=>(by
   rw[Sj (N5 hx)] at hm;cases hm)⟩,fun hl=>(by
   have:=N5 hx;rw[Hx hl] at this;cases this),h⟩) h
theorem Ou {K':St->Option R'}(h:Da C P N call ops x s some=some s1)(hk:K' s1=some r'):Da C P N call ops x s K'=some r':=by
 cases hx:Fj C P ops x s.tm
 ·rw[Hy hx] at h ⊢;cases ex:gE C P N call ops x s with
  |none=>rw[ex] at h;cases h
  |some q=>
   rw[ex] at h;obtain⟨hb,h1⟩:=Ai h;show Bl _ _=_;rw[hb];cases h1;exact hk
 ·rw[Gs hx] at h ⊢;exact Ye (P:=P) (N:=N) (o:=x) (tm:=s.tm) (tm':=s.tm) (hp:=s.hp) (K:=some) (Rel:=fun (a:Option St) (b:Option R')=>a=some s1->b=some r') (fun h=>by cases h) (fun _ _=>rfl) (fun v Ck hh h=>by cases h;exact hk) h
theorem CW {d:Nat}{t tx:TypeId}{b y:PV}(h:Kz P N s d t tx b y K=some r):s.hp d=none:=by
 unfold Kz at h;split at h
 ·obtain⟨_,h⟩:=Ai h;cases hI:Rc P tx
  ·rw[hI,cond_false] at h;refine S5 (P:=P) (tm:=s.tm) (tm':=s.tm) (hp:=s.hp) (Ca:=s.hp) (S:=fun _=>True) (K':=fun _ _=>(none:Option R)) (Rel:=fun (a:Option R) (_:Option R)=>a=some r->s.hp d=none) (fun h=>by cases h) (fun _ _=>.inl rfl) (fun _ _=>trivial) (fun m new h=>?_) h
   split at h
   ·split at h
    ·obtain⟨hb,_⟩:=Ai h;simp only[Bool.and_eq_true,Option.isNone_iff_eq_none] at hb;simp only[hb]
    ·cases h
   ·obtain⟨_,_,_,h,_⟩:=Eh h;obtain⟨hb,_⟩:=Ai h;simp only[Bool.and_eq_true,Option.isNone_iff_eq_none] at hb;simp only[hb]
  ·rw[hI,cond_true] at h;unfold Nm at h;obtain⟨_,_,_,h⟩:=C4 h;obtain⟨_,_,_,h,_⟩:=Eh h;obtain⟨hb,_⟩:=Ai h;simp only[Bool.and_eq_true,Option.isNone_iff_eq_none] at hb;simp only[hb]
 ·cases h
theorem Adb (hw:KH C P o s)(hwx:∀y∈x.op.operands.toList,∀i∈Bq (Bu s.tm y),s.hp i≠none) (xo:∀d,x.dst=some d->d ∉ looks ops o)(ne:∀d,x.dst=some d->o.dst≠some d)(ox:∀d,o.dst=some d->d ∉ looks ops x)
  (Cw:J7 x.op=true)(TE:J7 o.op=true)(GJ:∀i,Qq x s.tm s.hp i->¬Qq o s.tm s.hp i)(hx:Fj C P ops x s.tm=true)(ho:Fj C P ops o s.tm=true)
  (h:Da C P N call ops x s (fun s1=>Da C P N call ops o s1 K)=some r):Da C P N call ops o s (fun s1=>Da C P N call ops x s1 K)=some r:=by
 obtain⟨tm,hp⟩:=s;obtain⟨s1,e1,_,_,h⟩:=Ke h;obtain⟨s2,e2,_,_,h⟩:=Ke h;rw[Gs hx] at e1
 have hSx:∀i,Qq x tm hp i->hp i≠none:=by
  rintro i (⟨y,hy,hi⟩|⟨Ny,_⟩)
  ·exact hwx y hy i hi
  ·rw[Cw] at Ny;cases Ny
 have hSo:∀i,Qq o tm hp i->hp i≠none:=by
  rintro i (⟨y,hy,hi⟩|⟨Ny,_⟩)
  ·exact hw.1 y hy i hi
  ·rw[TE] at Ny;cases Ny
 obtain⟨vx,hpx,Acx,rfl,e1',T1⟩:=Ln Cw (fun _ _=>rfl) (fun _ _=>rfl) (fun _ _=>rfl) e1
 have:Acx=hpx:=by
  rw[e1] at e1';injection e1' with q;injection q with _ q;exact q.symm
 subst this;have t1:∀t∈looks ops o,Bh tm x.dst vx t=tm t:=Dx xo;have t1o:=Eg (ops:=ops) (o:=o) t1;rw[Gs (by rw[Fu t1];exact ho)] at e2
 have hRo:∀i,Qq o (Bh tm x.dst vx) Acx i↔Qq o tm hp i:=by
  intro i;constructor
  ·rintro (⟨y,hy,hi⟩|⟨Ny,_⟩)
   ·exact .inl ⟨y,hy,by rw[←t1o y hy];exact hi⟩
   ·rw[TE] at Ny;cases Ny
  ·rintro (⟨y,hy,hi⟩|⟨Ny,_⟩)
   ·exact .inl ⟨y,hy,by rw[t1o y hy];exact hi⟩
   ·rw[TE] at Ny;cases Ny
 have Aey:∀{s:St} {o:Oper} {s2:St},J7 o.op=true->Oy C P N call s o some=some s2->∀d,o.dst=some d->s.hp d=none:=by
  intro s o s2 TE e d hd;unfold Oy at e;unfold J7 at TE;split at TE
  ·rename_i c hc;rw[hc] at e;simp only at e;split at TE
   ·rename_i WH;rw[WH] at e;simp only[hd,Dg] at e;obtain⟨_,_,_,e⟩:=A5 e;obtain⟨_,_,_,e⟩:=A5 e;obtain⟨_,e⟩:=C7 e;obtain⟨_,_,_,e⟩:=A5 e;obtain⟨_,_,_,e⟩:=A5 e;exact CW e
   ·cases TE
  ·cases TE
 have A1z:∀d,o.dst=some d->hp d=none:=by
  intro d hd;have h0:=Aey TE e2 d hd;cases hh:hp d with
  |none=>rfl
  |some b=>exact absurd h0 ((T1 0).keep d (by rw[hh];simp))
 have Apq:=Aey Cw e1;simp only at Apq;have hoS:∀d,o.dst=some d->¬Qq x tm hp d:=fun d hd hR=>hSx d hR (A1z d hd)
 have hxS:∀d,x.dst=some d->¬Qq o tm hp d:=fun d hd hR=>hSo d hR (Apq d hd)
 obtain⟨vo,A17,hpo,rfl,e3,T2⟩:=Ln (tm':=tm) (Ca:=hp) TE t1o (fun i hi=>(T1 0).far i (fun hR=>GJ i hR hi) (hSo i hi)) (fun d hd=>((T1 (d+1)).off d (by omega) (fun e=>ne d e hd) (.inl (hoS d hd))).1) e2
 obtain⟨vo',As8,GG,e3a,e3b,T3⟩:=Ln (tm':=tm) (Ca:=hp) TE (fun _ _=>rfl) (fun _ _=>rfl) (fun _ _=>rfl) e3
 rw[e3] at e3b
 have A2e:As8=hpo∧GG=hpo:=by
  injection e3a with _ q1;injection e3b with q2;injection q2 with _ q3;exact⟨q1.symm,q3.symm⟩
 obtain⟨rfl,rfl⟩:=A2e;have t2:∀t∈looks ops x,tm t=Bh tm o.dst vo t:=fun t ht=>(Dx ox t ht).symm
 have t2x:=Eg (ops:=ops) (o:=x) t2
 have hRx:∀i,Qq x (Bh tm o.dst vo) GG i↔Qq x tm hp i:=by
  intro i;constructor
  ·rintro (⟨y,hy,hi⟩|⟨Ny,_⟩)
   ·exact .inl ⟨y,hy,by rw[t2x y hy];exact hi⟩
   ·rw[Cw] at Ny;cases Ny
  ·rintro (⟨y,hy,hi⟩|⟨Ny,_⟩)
   ·exact .inl ⟨y,hy,by rw[←t2x y hy];exact hi⟩
   ·rw[Cw] at Ny;cases Ny
 obtain⟨vx2,Awf,Au8,e4a,e4,T4⟩:=Ln (tm':=Bh tm o.dst vo) (Ca:=GG) Cw t2x (fun i hi=>((T3 0).far i (GJ i ((hRx i).1 hi)) (hSx i ((hRx i).1 hi))).symm) (fun d hd=>((T3 (d+1)).off d (by omega) (fun e=>ne d hd e) (.inl (hxS d hd))).1.symm) e1
 have hvx:Bh tm x.dst vx=Bh tm x.dst vx2∧Acx=Awf:=by
  injection e4a with q1 q2;exact⟨q1,q2⟩
 obtain⟨hvx,rfl⟩:=hvx;obtain⟨_,Pc,Jt,e5a,e5b,T5⟩:=Ln (tm':=Bh tm x.dst vx) (Ca:=Acx) TE (fun _ _=>rfl) (fun _ _=>rfl) (fun _ _=>rfl) e2
 have hq:Pc=A17:=by injection e5a with _ q1;exact q1.symm
 subst hq;obtain⟨_,hu1,hu2,e6a,e6b,T6⟩:=Ln (tm':=Bh tm o.dst vo) (Ca:=GG) Cw (fun _ _=>rfl) (fun _ _=>rfl) (fun _ _=>rfl) e4
 have hu:hu1=Au8:=by injection e6a with _ q1;exact q1.symm
 subst hu
 have Hr:Pc=hu1:=by
  funext i
  by_cases hi:Qq o tm hp i∨o.dst=some i
  ·have hxi:¬Qq x tm hp i:=by
    rcases hi with hi|hi
    ·exact fun hR=>GJ i hR hi
    ·exact hoS i hi
   have hdi:x.dst≠some i:=by
    rcases hi with hi|hi
    ·exact fun e=>hxS i e hi
    ·exact fun e=>ne i e hi
   rw[(T2 0).same i ((T1 (i+1)).off i (by omega) hdi (.inl hxi)).1]
   exact ((T6 (i+1)).off i (by omega) hdi (.inl fun hR=>hxi ((hRx i).1 hR))).1.symm
  ·have hoi:¬Qq o tm hp i:=fun e=>hi (.inl e)
   have hdi:o.dst≠some i:=fun e=>hi (.inr e)
   rw[((T5 (i+1)).off i (by omega) hdi (.inl fun hR=>hoi ((hRo i).1 hR))).1]
   exact (T4 0).same i ((T3 (i+1)).off i (by omega) hdi (.inl hoi)).1.symm
 refine Ou (s1:=⟨Bh tm o.dst vo,GG⟩) (by rw[Gs ho];exact e3) ?_
 refine Ou (s1:=⟨Bh (Bh tm o.dst vo) x.dst vx2,hu1⟩) (by rw[Gs (by rw[←Fu t2];exact hx)];exact e4) ?_
 rw[←H3 ne,←hvx,←Hr];exact h
theorem Sc (hM:Mc C P o.op=true){i:Nat}(h:Qq o s.tm s.hp i):i∈I6 C P s o:=by
 unfold I6;rw[hM];cases hA:J7 o.op
 ·simp only[Bool.not_false,Bool.and_self,cond_true,List.mem_append];rcases h with⟨y,hy,hi⟩|⟨_,id,c,⟨y,hy,hi⟩,hc,p,hp,hk⟩
  ·exact .inl (List.mem_flatMap.2 ⟨y,hy,hi⟩)
  ·refine .inr (List.mem_flatMap.2 ⟨id,List.mem_flatMap.2 ⟨y,hy,hi⟩,?_⟩);rw[hc];exact List.mem_flatMap.2 ⟨p,hp,hk⟩
 ·simp only[Bool.not_true,Bool.and_false,cond_false,Bool.or_true,cond_true];rcases h with⟨y,hy,hi⟩|⟨hn,_⟩
  ·exact List.mem_flatMap.2 ⟨y,hy,hi⟩
  ·rw[hA] at hn;cases hn
theorem Vr (hl:Mc C P o.op=true∨Nx P o.op=true){y:Operand}(hy:y∈o.op.operands.toList){i:Nat}(h:i∈Bq (Bu s.tm y)):i∈I6 C P s o:=by
 rcases hl with hM|hl
 ·exact Sc hM (.inl ⟨y,hy,h⟩)
 ·unfold I6;rw[Hx hl,hl];exact List.mem_flatMap.2 ⟨y,hy,h⟩
theorem FQ (ht:∀t∈looks ops o,s1.tm t=s.tm t)(hh:Mc C P o.op=true->J7 o.op=false->∀y∈o.op.operands.toList,∀i∈Bq (Bu s.tm y),s1.hp i=s.hp i):I6 C P s1 o=I6 C P s o:=by
 have he:=Eg (ops:=ops) (o:=o) ht
 have hl:(o.op.operands.toList.flatMap fun y=>Bq (Bu s1.tm y))=o.op.operands.toList.flatMap fun y=>Bq (Bu s.tm y):=by
  have Ajm:∀l:List Operand,(∀y∈l,Bu s1.tm y=Bu s.tm y)->(l.flatMap fun y=>Bq (Bu s1.tm y))=l.flatMap fun y=>Bq (Bu s.tm y):=by
   intro l
   induction l with
   |nil=>intro _;rfl
   |cons a l ih=>intro h;simp only[List.flatMap_cons];rw[h a (by simp),ih fun y hy=>h y (by simp[hy])]
  exact Ajm _ he
 unfold I6;simp only[hl];cases hM:(Mc C P o.op && !J7 o.op)
 ·rfl
 ·simp only[cond_true];simp only[Bool.and_eq_true,Bool.not_eq_true'] at hM
  congr 1
  have Ajm:∀l:List Nat,(∀i∈l,s1.hp i=s.hp i)->(l.flatMap fun i=>match s1.hp i with|some (.st c)=>c.flatMap Al|_=>[])=l.flatMap fun i=>match s.hp i with|some (.st c)=>c.flatMap Al|_=>[]:=by
   intro l
   induction l with
   |nil=>intro _;rfl
   |cons a l ih=>intro h;simp only[List.flatMap_cons];rw[h a (by simp),ih fun y hy=>h y (by simp[hy])]
  exact Ajm _ fun i hi=>by
   obtain⟨y,hy,hi⟩:=List.mem_flatMap.1 hi;exact hh hM.1 hM.2 y hy i hi
theorem Q7 {a b:List Nat}(h:SM a b=true){i:Nat}(ha:i∈a)(hb:i∈b):False:=by
 have:=List.all_eq_true.1 h i ha;have h2:b.any (Nat.beq i)=true:=List.any_eq_true.2 ⟨i,hb,Nat.beq_refl i⟩;rw[h2] at this;cases this
theorem TP {a b:List Nat}(h:SM a b=true):SM b a=true:=by
 refine List.all_eq_true.2 fun i hi=>?_
 cases hc:a.any (Nat.beq i)
 ·rfl
 ·obtain⟨j,hj,e⟩:=List.any_eq_true.1 hc;rw[Nat.eq_of_beq_eq_true e] at hi;exact (Q7 h hj hi).elim
theorem Qc:Ho C P x o=Ho C P o x:=by
 unfold Ho;cases Mc C P x.op<;>cases Mc C P o.op<;>cases Nx P x.op<;>cases Nx P o.op<;>cases J7 x.op<;>cases J7 o.op<;>rfl
structure I1 (C:Fk) (P:Program) (ops:Array Oper) (x o:Oper):Prop where
 xo:∀d,x.dst=some d->d ∉ looks ops o
 ne:∀d,x.dst=some d->o.dst≠some d
 ox:∀d,o.dst=some d->d ∉ looks ops x
 me:Mq C P x o=false∨Ho C P x o=true
theorem TJ (h:WF C P ops x o=false):I1 C P ops x o:=by
 unfold WF at h;simp only[Bool.or_eq_false_iff] at h;obtain⟨h1,h2⟩:=h;have hT:=h1;unfold VD at h1;simp only[Bool.or_eq_false_iff] at h1
 have a1:Xf C P ops x o=false∨Mq C P x o=true:=by
  cases hc:Mq C P x o
  ·left;unfold Xf;unfold Mq at hc;simp only[Bool.or_eq_false_iff] at hc ⊢;exact⟨⟨⟨h1.1,h1.2⟩,hc.1⟩,hc.2⟩
  ·exact .inr rfl
 refine⟨fun d hd=>?_,fun d hd he=>?_,fun d hd=>?_,?_⟩
 ·have:=h1.1;simp only[hd,Bool.or_eq_false_iff] at this;exact L7 this.1
 ·have:=h1.1;simp only[hd,he,Bool.or_eq_false_iff] at this;rw[Nat.beq_refl] at this;cases this.2
 ·have:=h1.2;simp only[hd] at this;exact L7 this
 ·cases hc:Mq C P x o
  ·exact .inl rfl
  ·rw[hc] at h2;right
   simpa using h2
theorem I1.apart (ap:I1 C P ops x o)(h:Mq C P x o=false):R5 C P ops x o:=by
 unfold Mq at h;simp only[Bool.or_eq_false_iff,Bool.and_eq_false_iff] at h;refine⟨ap.xo,ap.ne,ap.ox,fun hm=>?_,fun hm=>?_⟩
 ·rcases h.1 with h|h
  ·rw[hm] at h;cases h
  ·exact h
 ·rcases h.2 with h|h
  ·rw[hm] at h;cases h
  ·exact h
theorem I1.same (ap:I1 C P ops x o)(hk:Z0 P x s s1)(hl:Nx P x.op=true->s1.hp=s.hp)(hM:Mc C P o.op=true)(hA:J7 o.op=false){i:Nat}(hi:s.hp i≠none):s1.hp i=s.hp i:=by
 rcases ap.me with h|h
 ·exact hk.2.2 ((ap.apart h).mo hM) i hi
 ·unfold Ho at h;rw[hA] at h;simp only[Bool.and_false,Bool.or_false,Bool.or_eq_true,Bool.and_eq_true] at h;rcases h with h|h
  ·have:=h.2;rw[Hx (C:=C) (P:=P) this] at hM;cases hM
  ·rw[hl h.2]
theorem KH.keepsS (h:KH C P o s)(ap:I1 C P ops x o)(hk:Z0 P x s s1)(hl:Nx P x.op=true->s1.hp=s.hp):KH C P o s1:=by
 have hop:∀y∈o.op.operands.toList,Bu s1.tm y=Bu s.tm y:=fun y hy=>Eg (ops:=ops) (o:=o) (fun t ht=>hk.1 t fun hd=>ap.xo t hd ht) y hy
 refine⟨fun y hy i hi=>?_,fun hM hA y hy i hi c hc p hp k hkk=>?_⟩
 ·rw[hop y hy] at hi;exact hk.2.1 i (h.1 y hy i hi)
 ·rw[hop y hy] at hi;rw[ap.same hk hl hM hA (h.1 y hy i hi)] at hc;exact hk.2.1 k (h.2 hM hA y hy i hi c hc p hp k hkk)
theorem I1.symm (ap:I1 C P ops x o):I1 C P ops o x:=by
 refine⟨ap.ox,fun d hd he=>ap.ne d he hd,ap.xo,?_⟩
 rcases ap.me with h|h
 ·left;unfold Mq at h ⊢;rw[Bool.or_comm];exact h
 ·right;rw[Qc];exact h
theorem An1 (hw:KH C P o s)(hwx:Ho C P x o=true->∀i∈I6 C P s x,s.hp i≠none)(ap:I1 C P ops x o)(hd:Ho C P x o=true->SM (I6 C P s x) (I6 C P s o)=true)
  (h:Da C P N call ops x s (fun s1=>Da C P N call ops o s1 K)=some r):Da C P N call ops o s (fun s1=>Da C P N call ops x s1 K)=some r:=by
 rcases ap.me with hm|hm
 ·exact Ap2 hw (ap.apart hm) h
 ·have hd:=hd hm;have hwx:=hwx hm;cases hx:Fj C P ops x s.tm
  ·cases ho:Fj C P ops o s.tm
   ·exact PG hw ap.xo ap.ne ap.ox hx ho h
   ·have hMo:=N5 ho
    have hlx:Y9 P ops x s.tm:=by
     cases hl:Nx P x.op
     ·right
      have hMx:Mc C P x.op=true:=by
       unfold Ho at hm;simp only[hl,Bool.and_false,Bool.or_false,Bool.or_eq_true,Bool.and_eq_true] at hm;rcases hm with hm|hm
       ·exact hm.1
       ·exact DP hm.1
      cases hv:Fn ops x s.tm with
      |none=>
       exfalso;rw[Hy hx] at h;unfold gE at h;rw[hv] at h;cases h
      |some b=>
       cases b
       ·rfl
       ·unfold Fj at hx;rw[hMx,hv] at hx;cases hx
     ·exact .inl hl
    refine Acs ap.xo ap.ne ap.ox hlx (fun y hy i hi hR=>?_) ho h
    refine Q7 hd (Vr ?_ hy hi) (Sc hMo hR);unfold Ho at hm;simp only[Bool.or_eq_true,Bool.and_eq_true] at hm;rcases hm with (hm|hm)|hm
    ·exact .inl hm.1
    ·exact .inr hm.2
    ·exact .inl (DP hm.1)
  ·have hMx:=N5 hx;cases ho:Fj C P ops o s.tm
   ·have hlo:Y9 P ops o s.tm:=by
     cases hl:Nx P o.op
     ·right
      have hMo:Mc C P o.op=true:=by
       unfold Ho at hm;simp only[hl,Bool.and_false,Bool.false_or,Bool.or_eq_true,Bool.and_eq_true] at hm;rcases hm with hm|hm
       ·exact hm.1
       ·exact DP hm.2
      cases hv:Fn ops o s.tm with
      |none=>
       exfalso;obtain⟨s1,_,hk,_,h⟩:=Ke h;have hv1:Fn ops o s1.tm=none:=by rw[H8 (fun t ht=>hk.1 t fun hd=>ap.xo t hd ht)];exact hv
       rw[Hy (by unfold Fj;rw[hv1];cases Mc C P o.op<;>rfl)] at h
       unfold gE at h;rw[hv1] at h;cases h
      |some b=>
       cases b
       ·rfl
       ·unfold Fj at ho;rw[hMo,hv] at ho;cases ho
     ·exact .inl hl
    refine Adk hw ap.xo ap.ne ap.ox hlo (fun y hy i hi hR=>?_) hx h
    refine Q7 hd (Sc hMx hR) (Vr ?_ hy hi);unfold Ho at hm;simp only[Bool.or_eq_true,Bool.and_eq_true] at hm;rcases hm with (hm|hm)|hm
    ·exact .inr hm.2
    ·exact .inl hm.1
    ·exact .inl (DP hm.2)
   ·have hMo:=N5 ho;unfold Ho at hm;simp only[Bool.or_eq_true,Bool.and_eq_true] at hm;rcases hm with (hm|hm)|hm
    ·rw[Hx (C:=C) (P:=P) hm.2] at hMo;cases hMo
    ·rw[Hx (C:=C) (P:=P) hm.2] at hMx;cases hMx
    ·exact Adb hw (fun y hy i hi=>hwx i (Vr (.inl hMx) hy hi)) ap.xo ap.ne ap.ox hm.1 hm.2 (fun i h1 h2=>Q7 hd (Sc hMx h1) (Sc hMo h2)) hx ho h
theorem XZ {α:Type}(a b:α)(l:List α)(f:α->Bool):(a::b::l).all f=(b::a::l).all f:=by
 simp only[List.all_cons];cases f a<;>cases f b<;>rfl
theorem Ub {bs:List (List Nat)}:∀(l:List Nat){dn dn':List (Nat × Oper × List Nat)} {s:St}{K:St->Option R},(∀f,dn.all f=dn'.all f)->Gb C P N call ops bs dn l s K=Gb C P N call ops bs dn' l s K
 |[],_,_,_,_,_=>rfl
 |i::l,dn,dn',s,K,h=>by
  unfold Gb;cases ops[i]? with
  |none=>rfl
  |some o=>
   simp only[Dg,h]
   congr 2
   funext s'
   exact Ub l fun f=>by simp only[List.all_cons,h]
theorem V6 {bs:List Nat}{i:Nat}(hi:ops[i]?=some o):(U0 C P ops bs).getD i []=Rp C P ops bs i o:=by
 unfold U0;rw[List.getD_eq_getElem?_getD,List.getElem?_map,List.getElem?_zipIdx,Array.getElem?_toList,hi];simp
theorem L8 {bs:List Nat}{i j:Nat}:j∈Rp C P ops bs i o↔∃x,ops[j]?=some x∧Ho C P x o=true∧(Nat.blt j i&&(bs.getD i 0).testBit j)=false∧(Nat.blt i j&&(bs.getD j 0).testBit i)=false:=by
 unfold Rp;simp only[List.mem_map,List.mem_filter,Bool.and_eq_true,Bool.not_eq_true',Prod.exists];constructor
 ·rintro⟨x,k,⟨hm,⟨h1,h2⟩,h3⟩,rfl⟩
  rw[List.mem_zipIdx_iff_getElem?] at hm;exact⟨x,by simpa using hm,h1,h2,h3⟩
 ·rintro⟨x,hx,h1,h2,h3⟩
  refine⟨x,j,⟨?_,⟨h1,h2⟩,h3⟩,rfl⟩;rw[List.mem_zipIdx_iff_getElem?]
  simpa using hx
theorem Vv {sm:List (List Nat)} {i j:Nat}(h:j∈sm.getD i []):U6 C P sm s i o=I6 C P s o:=by
 unfold U6;split
 ·rename_i e;rw[e] at h;simp at h
 ·rfl
theorem XE {sm:List (List Nat)} {i:Nat}(h:sm.getD i []≠[]->I6 C P s1 o=I6 C P s o):U6 C P sm s1 i o=U6 C P sm s i o:=by
 unfold U6;split
 ·rfl
 ·rename_i e;exact h (by rw[e];simp)
theorem PM {l:List Nat}{j:Nat}:l.any (Nat.beq j)=true↔j∈l:=by
 constructor
 ·intro h;obtain⟨k,hk,e⟩:=List.any_eq_true.1 h;rw[Nat.eq_of_beq_eq_true e];exact hk
 ·intro h;exact List.any_eq_true.2 ⟨j,h,Nat.beq_refl j⟩
theorem Sn {bs:List Nat}{sm:List (List Nat)} (UN:sm=U0 C P ops bs){i:Nat}(hi:ops[i]?=some o) {l':List Nat}:∀(l:List Nat){dn:List (Nat × Oper × List Nat)} {s:St}{K:St->Option R},KH C P o s ->
  (∀j∈l,j<i∧(bs.getD i 0).testBit j=false∧∀x,ops[j]?=some x->I1 C P ops x o)->Gb C P N call ops sm dn (l++i::l') s K=some r ->
  dn.all (Zo C P sm s i o)=true∧Da C P N call ops o s (fun s1=>Gb C P N call ops sm ((i,o,U6 C P sm s i o)::dn) (l++l') s1 K)=some r
 |[],dn,s,K,hw,_,h=>by
  simp only[List.nil_append] at h ⊢;unfold Gb at h;rw[hi] at h;simp only[Dg] at h;obtain⟨hb,h⟩:=Ai h;simp only[Bool.and_eq_true] at hb;exact⟨hb.1,h⟩
 |j::l,dn,s,K,hw,hl,h=>by
  simp only[List.cons_append] at h ⊢;unfold Gb at h;obtain⟨hji,Y7,Ny⟩:=hl j (by simp)
  cases hj:ops[j]? with
  |none=>rw[hj] at h;cases h
  |some x=>
   rw[hj] at h;simp only[Dg] at h;obtain⟨hb,h⟩:=Ai h;simp only[Bool.and_eq_true] at hb;have ap:=Ny x hj
   have hex:∀k∈U6 C P sm s j x,s.hp k≠none:=fun k hk=>by
    have:=List.all_eq_true.1 hb.2 k hk;intro e;rw[e] at this;cases this
   obtain⟨s1,e1,Dn,Yl,h1⟩:=Ke h;obtain⟨ha,h2⟩:=Sn UN hi l (hw.keepsS ap Dn Yl) (fun k hk=>hl k (by simp[hk])) h1
   have Ar4:I6 C P s1 o=I6 C P s o:=FQ (ops:=ops) (fun t ht=>Dn.1 t fun hd=>ap.xo t hd ht) fun hM hA y hy k hk=>ap.same Dn Yl hM hA (hw.1 y hy k hk)
   have Y1:U6 C P sm s1 i o=U6 C P sm s i o:=XE fun _=>Ar4
   rw[List.all_cons,Bool.and_eq_true] at ha
   have An3:Nat.blt i j=false:=by
    cases hh:Nat.blt i j
    ·rfl
    ·have:=Nat.le_of_ble_eq_true hh;omega
   have hmi:Ho C P x o=true->j∈sm.getD i []:=fun hs=>by
    rw[UN,V6 hi];exact L8.2 ⟨x,hj,hs,by rw[Y7,Bool.and_false],by rw[An3,Bool.false_and]⟩
   have hmj:Ho C P x o=true->i∈sm.getD j []:=fun hs=>by
    rw[UN,V6 hj];exact L8.2 ⟨o,hi,by rw[Qc];exact hs,by rw[An3,Bool.false_and],by rw[Y7,Bool.and_false]⟩
   have Ae0:Ho C P x o=true->SM (U6 C P sm s j x) (U6 C P sm s i o)=true:=by
    intro hs;have:=ha.1;unfold Zo at this;rw[PM.2 (hmi hs),Y1] at this
    simpa using this
   have hok:∀q,Zo C P sm s1 i o q=Zo C P sm s i o q:=fun q=>by unfold Zo;rw[Y1]
   have Ko:dn.all (Zo C P sm s i o)=true:=by
    refine List.all_eq_true.2 fun q hq=>?_
    rw[←hok];exact List.all_eq_true.1 ha.2 q hq
   refine⟨Ko,?_⟩;rw[Y1] at h2
   have h3:=An1 hw (fun hs k hk=>hex k (by rw[Vv (hmj hs)];exact hk)) ap (fun hs=>by have:=Ae0 hs;rw[Vv (hmj hs),Vv (hmi hs)] at this;exact this)
    (Ou (K':=fun s1=>Da C P N call ops o s1 (fun s2=>Gb C P N call ops sm ((i,o,U6 C P sm s i o)::(j,x,U6 C P sm s j x)::dn) (l++l') s2 K)) e1 h2)
   obtain⟨s2,e2,D3,M6,h4⟩:=Ke h3;refine Ou e2 ?_
   have Z6:U6 C P sm s2 j x=U6 C P sm s j x:=XE fun D8=>by
    obtain⟨q,hq⟩:=List.exists_mem_of_ne_nil _ D8;refine FQ (ops:=ops) (fun t ht=>D3.1 t fun hd=>ap.ox t hd ht) fun hM hA y hy k hk=>ap.symm.same D3 M6 hM hA (hex k ?_)
    rw[Vv hq];exact Vr (.inl hM) hy hk
   unfold Gb;rw[hj];simp only[Dg]
   have hc:(((i,o,U6 C P sm s i o)::dn).all (Zo C P sm s2 j x)&&(U6 C P sm s2 j x).all fun k=>(s2.hp k).isSome)=true:=by
    simp only[List.all_cons,Bool.and_eq_true];refine⟨⟨?_,?_⟩,?_⟩
    ·unfold Zo;simp only[Z6];cases hs:(sm.getD j []).any (Nat.beq i)
     ·rfl
     ·have hm:=PM.1 hs;rw[UN,V6 hj] at hm;obtain⟨o',FZ,OK,_⟩:=L8.1 hm;rw[hi] at FZ;cases FZ;rw[Qc] at OK;rw[TP (Ae0 OK)];rfl
    ·refine List.all_eq_true.2 fun q hq=>?_
     have:=List.all_eq_true.1 hb.1 q hq;unfold Zo at this ⊢;rw[Z6];exact this
    ·rw[Z6];refine List.all_eq_true.2 fun k hk=>?_
     have:=D3.2.1 k (hex k hk);cases hh:s2.hp k with
     |none=>exact absurd hh this
     |some _=>rfl
   rw[hc,Z6];show Da C P N call ops x s2 _=some r
   have:(fun s'=>Gb C P N call ops sm ((j,x,U6 C P sm s j x)::(i,o,U6 C P sm s i o)::dn) (l++l') s' K)=fun s2=>Gb C P N call ops sm ((i,o,U6 C P sm s i o)::(j,x,U6 C P sm s j x)::dn) (l++l') s2 K:=by
    funext s'
    exact Ub _ fun f=>XZ _ _ _ f
   rw[this];exact h4
end
section
variable {R:Type} {r:R} {P:Program} {N:Nat} {w0:World} {X0:Gg} {Y:Nat->Prop} {β β':Bt} {s:St} {a:Act} {w w':World} {o:Oper} {ops:Array Oper} {C:Fk} {call:A7} {K:St->Option R}
theorem Pw {bs:List Nat}:∀(l:List Oper)(n:Nat),Rk C P ops bs l n=true->∀(k:Nat) o,l[k]?=some o->∀(j:Nat) x,ops[j]?=some x->j<n+k->WF C P ops x o=true->(bs.getD (n+k) 0).testBit j=true
 |[],_,_,k,o,ho,_,_,_,_,_=>by simp at ho
 |o'::l,n,h,k,o,ho,j,x,hx,hj,Jp=>by
  simp only[Rk,Bool.and_eq_true] at h;cases k with
  |zero=>
   simp at ho;subst ho
   have:=List.all_eq_true.1 h.1 (x,j) (by
    rw[List.mem_zipIdx_iff_getElem?]
    simpa using hx)
   simp only[Jp,Bool.not_true,Bool.or_false,Bool.or_eq_true,Bool.not_eq_true'] at this;rcases this with h'|h'
   ·have:Nat.blt j n=true:=Nat.ble_eq_true_of_le (by omega)
    rw[this] at h';cases h'
   ·exact h'
  |succ k=>
   have:=Pw l (n+1) h.2 k o (by simpa using ho) j x hx (by omega) Jp
   rwa [show n+(k+1)=n+1+k by omega]
theorem FB {G:Qi}(H7:JH P G w0 X0)(Df:∀f args res,call f args=some res->Cx G P f args res)(hok:Xw C P ops=true){Q:Exit->Act->World->Prop}(hQ:∀s' a' w' β',K s'=some r->Cj N w0 X0 Y β' s' a' w'->Q .normal a' w'):
  ∀(fuel:Nat) {dn:List (Nat × Oper × List Nat)} {listed:Array Bool} {s:St} {a:Act} {w:World} {β:Bt},HeadInv .any ops ops.size listed->(Ji ops.size listed).length=fuel->Cj N w0 X0 Y β s a w->Gb C P N call ops (U0 C P ops (Gn ops.toList [])) dn (Ji ops.size listed) s K=some r->wpAny P .any ops Q fuel listed a w:=by
 unfold Xw at hok;simp only[Bool.and_eq_true] at hok;obtain⟨ZB,Ais⟩:=hok;intro fuel
 induction fuel with
 |zero=>
  intro dn listed s a w β inv hf h hk;have hp:=List.eq_nil_of_length_eq_zero hf;rw[hp] at hk;refine⟨?_,hQ s a w β hk h⟩;cases hr:Region.ready .any ops listed with
  |nil=>rfl
  |cons i l=>
   exfalso;have hi:i∈Region.ready .any ops listed:=by rw[hr];simp
   obtain⟨Hm,o,ho,_⟩:=mem_ready.1 hi;have:i∈Ji ops.size listed:=He.2 ⟨(Array.getElem?_eq_some_iff.1 ho).1,Hm⟩;rw[hp] at this;simp at this
 |succ fuel ih=>
  intro dn listed s a w β inv hf h hk;refine⟨fun hr=>?_,fun i hi=>?_⟩
  ·rw[AF ZB inv hr] at hf;cases hf
  ·obtain⟨Hm,o,ho,Ko⟩:=mem_ready.1 hi;have B2:i<ops.size:=(Array.getElem?_eq_some_iff.1 ho).1;obtain⟨l1,l2,h1,h2,h3⟩:=Qh (He.2 ⟨B2,Hm⟩) inv.size;rw[h1] at hk
   have hnb:∀j∈l1,((Gn ops.toList []).getD i 0).testBit j=false:=by
    intro j hj;cases Y7:((Gn ops.toList []).getD i 0).testBit j with
    |false=>rfl
    |true=>
     exfalso;have hjl:=Mo (listed:=listed) (fun j oj hj hl=>inv.closed j oj hj hl) ops.toList [] [] (by simp) rfl (by simp) i o ho Ko j Y7
     have:j∈Ji ops.size listed:=by rw[h1];simp[hj]
     have:=getD_both (He.1 this).2;rw[hjl] at this;cases this
   have Ny:∀j∈l1,j<i∧((Gn ops.toList []).getD i 0).testBit j=false∧∀x,ops[j]?=some x->I1 C P ops x o:=by
    intro j hj;refine⟨h3 j hj,hnb j hj,fun x hxj=>TJ ?_⟩
    cases Jp:WF C P ops x o with
    |false=>rfl
    |true=>
     exfalso;have Y7:=Pw ops.toList 0 Ais i o (by simpa using ho) j x hxj (by have:=h3 j hj;omega) Jp
     rw[Nat.zero_add,hnb j hj] at Y7;cases Y7
   obtain⟨s',hs',hn⟩:=P4 h H7 Df ho (Sn rfl ho l1 (ZE h o) Ny hk).2;refine hn _ _ fun a' w' β' h'=>ih (dn:=(i,o,U6 C P (U0 C P ops (Gn ops.toList [])) s i o)::dn) (inv.set hi B2) ?_ h' ?_
   ·rw[h2];rw[h1] at hf;simp at hf ⊢;omega
   ·rw[h2];exact hs'
theorem Vj (h:Cj N w0 X0 Y β s a w){G:Qi}(H7:JH P G w0 X0)(Df:∀f args res,call f args=some res->Cx G P f args res)(hm:P.follows .mixedOrders=true)(hok:Xw C P ops=true){Q:Exit->Act->World->Prop}
  (hk:Gb C P N call ops (U0 C P ops (Gn ops.toList [])) [] (List.range ops.size) s K=some r) (hQ:∀s' a' w' β',K s'=some r->Cj N w0 X0 Y β' s' a' w'->Q .normal a' w'):wpAny P .any ops Q ops.size (Array.replicate ops.size false) a { w with drawn:=w.drawn+1 }:=by
 have hp:Ji ops.size (Array.replicate ops.size false)=List.range ops.size:=by
  unfold Ji;refine List.filter_eq_self.2 fun i hi=>?_
  have:=List.mem_range.1 hi;simp[this]
 refine FB (C:=C) (dn:=[]) H7 Df hok hQ ops.size ⟨by simp,fun j oj _ hl=>(by rw[getD_replicate_false] at hl;cases hl),fun t ht ht'=>by omega⟩ (by rw[hp];simp) h.drew ?_
 rw[hp];exact hk
theorem HW (h:Cj N w0 X0 Y β s a w){G:Qi}(H7:JH P G w0 X0)(Df:∀f args res,call f args=some res->Cx G P f args res)(hm:P.follows .mixedOrders=true)(hok:Xw C P ops=true){id:Nat}{Q:Exit->Act->World->Prop}
  (hk:Gb C P N call ops (U0 C P ops (Gn ops.toList [])) [] (List.range ops.size) s K=some r) (hQ:∀s' a' w' β',K s'=some r->Cj N w0 X0 Y β' s' a' w'->Q .normal a' w'):(Code.region id ops true).wp P Q a w:=
 wp_region_any hm (Vj h H7 Df hm hok hk hQ)
end
open Go.RowKit
section
variable {R:Type} {r:R} {N:Nat} {w0:World} {X0:Gg} {Y:Nat->Prop} {β β':Bt} {s:St} {a:Act} {w w':World}
theorem XA {i:Nat}(hi:i<a.tmps.size):a.put (some i) (a.tmps.getD i undef)=a:=by
 obtain⟨tmps,dfr⟩:=a;change i<tmps.size at hi
 have:tmps.setIfInBounds i (tmps.getD i undef)=tmps:=by
  apply Array.ext_getElem?;intro k;by_cases e:i=k
  ·subst e;simp[hi]
  ·rw[Array.getElem?_setIfInBounds_ne e]
 simp only[Act.put,this]
theorem OJ {A:Nat->Prop}{es:Nat}{v:Value}(h:Aq w A (.lst true es 0 []) v):v=.slice none 0 0:=by
 cases h;rfl
theorem OI {id:Nat}(Bf:s.hp id=none){v:PV}{val:Value}(hv:Dt w (Cu (Am s.hp [(id,.ar false [])]) (Cg β id none) Y) (Cg β id none) v val) (hr:∀i∈Bq v,s.hp i≠none∨i=id):
  CF Y β s w v [(id,.ar false [])] val w (Cg β id none):=by
 refine⟨rfl,rfl,rfl,B1.refl _ _,fun j hj=>Ah _ _ (by rintro rfl;exact hj Bf),?_,?_,?_,?_,?_,hv,?_⟩
 ·intro j bx hm;simp at hm;rw[hm.2];trivial
 ·intro j bx hm;simp at hm;obtain⟨rfl,rfl⟩:=hm;exact .inl ⟨Ak _ _ _,rfl⟩
 ·intro j bx k q hm hq;simp at hm;obtain⟨rfl,rfl⟩:=hm;rw[Ak] at hq;cases hq
 ·intro j bx j' bx' k q q' hm Hn _ _;simp at hm Hn;rw[hm.1,Hn.1]
 ·intro j cells hm;simp at hm
 ·intro j hj;rcases hr j hj with h|rfl
  ·exact .inl h
  ·exact .inr ⟨.ar false [],by simp⟩
theorem Zk (h:Cj N w0 X0 Y β s a w)(i:Nat):∃β',Cj N w0 X0 Y β' (Vy N s i) a w:=by
 unfold Vy;split
 ·rename_i es ht
  have B2:i<N:=by
   rcases Nat.lt_or_ge i N with h'|h'
   ·exact h'
   ·rw[h.tmo i h'] at ht;cases ht
  have hv:=h.tms i B2;rw[ht] at hv;have hv:=OJ hv;have hd:E4 N (some i)=true:=by simp[E4,Nat.blt];omega
  have go:∀j,s.hp j=none->∃β',Cj N w0 X0 Y β' ⟨Cg s.tm i (.view j es 0 0),Cg s.hp j (some (.ar false []))⟩ a w:=by
   intro j hn;have:=h.stepR (d:=some i) hd (by simp[Bn,hn]) (OI (v:=.view j es 0 0) (val:=.slice none 0 0) hn (.inl ⟨Ak _ _ _,rfl,rfl,none,rfl⟩) (by simp[Bq,B5,Al]))
   rw[←hv,XA (by rw[h.tsz];exact B2)] at this
   exact⟨_,this⟩
  cases hn:(s.hp i).isNone
  ·cases WP:(s.hp (i+N*3000)).isNone
   ·exact⟨β,h⟩
   ·exact go _ (by simpa using WP)
  ·exact go _ (by simpa using hn)
 ·exact⟨β,h⟩
theorem Cj.recell (h:Cj N w0 X0 Y β s a w){id:Nat}{c c':List PV}(h0:s.hp id=some (.st c)) (hl:c'.length=c.length)
  (hc:∀(j:Nat) p,c'[j]?=some p->∃q,c[j]?=some q∧(∀v,Bs w (Cu s.hp β Y) β q v->Bs w (Cu s.hp β Y) β p v)∧∀i∈Al p,s.hp i≠none):
  Cj N w0 X0 Y β ⟨s.tm,Cg s.hp id (some (.st c'))⟩ a w:=by
 have Fc:∀i,Ct (Cg s.hp id (some (.st c')) i)↔Ct (s.hp i):=by
  intro i;by_cases e:i=id
  ·subst e;rw[Ak,h0];exact Iff.rfl
  ·rw[Ah _ _ e]
 have hX:EF (Cg s.hp id (some (.st c'))) β=EF s.hp β:=by
  funext b
  apply propext;constructor
  ·rintro⟨i,o,hl,hb⟩;exact⟨i,o,(Fc i).1 hl,hb⟩
  ·rintro⟨i,o,hl,hb⟩;exact⟨i,o,(Fc i).2 hl,hb⟩
 have hA:Cu (Cg s.hp id (some (.st c'))) β Y=Cu s.hp β Y:=by
  funext b;unfold Cu;rw[hX]
 have D8:∀i,s.hp i≠none->Cg s.hp id (some (.st c')) i≠none:=by
  intro i hi;by_cases e:i=id
  ·subst e;rw[Ak];simp
  ·rw[Ah _ _ e];exact hi
 have Ak9:∀i,Cg s.hp id (some (.st c')) i≠none->s.hp i≠none:=by
  intro i hi;by_cases e:i=id
  ·subst e;rw[h0];simp
  ·rw[Ah _ _ e] at hi;exact hi
 refine⟨h.dfr,h.tsz,h.tmo,?_,?_,?_,?_,?_,?_,?_,?_,fun i hi=>⟨D8 _ (h.pin i hi).1,(h.pin i hi).2⟩,?_,?_,h.Ylt,h.fr⟩
 ·intro i hi;show Dt w (Cu (Cg s.hp id _) β Y) β _ _;rw[hA];exact h.tms i hi
 ·intro i b hb;show Mr w (Cu (Cg s.hp id _) β Y) β i b;rw[hA];by_cases e:i=id
  ·subst e;change Cg s.hp i (some (.st c')) i=some b at hb;rw[Ak] at hb;cases hb;obtain⟨b,o,h1,h2,h3⟩:=h.box i _ h0;refine⟨b,o,h1,fun j p hj=>?_,fun j hj=>h3 j (by rw[←hl];exact hj)⟩
   obtain⟨q,hq,hqp,_⟩:=hc j p hj;obtain⟨v,hv,hr⟩:=h2 j q hq;exact⟨v,hv,hqp v hr⟩
  ·change Cg s.hp id (some (.st c')) i=some b at hb;rw[Ah _ _ e] at hb;exact h.box i b hb
 ·intro i i' b o o' hl Hw hb Gh;exact h.inj i i' b o o' ((Fc i).1 hl) ((Fc i').1 Hw) hb Gh
 ·intro i b o hn hb;exact h.blt i b o (Ak9 i hn) hb
 ·intro i hi j hj;exact D8 j (h.wfT i hi j hj)
 ·intro i cells hb p hp j hj;change Cg s.hp id (some (.st c')) i=_ at hb;by_cases e:i=id
  ·subst e;rw[Ak] at hb;cases hb;obtain⟨k,hk⟩:=List.mem_iff_getElem?.1 hp;obtain⟨_,_,_,hr⟩:=hc k p hk;exact D8 j (hr j hj)
  ·rw[Ah _ _ e] at hb;exact D8 j (h.wfB i cells hb p hp j hj)
 ·intro b hb;exact h.ownd b (by rw[←hX];exact hb)
 ·intro i bx b o hb hlb hβ B2 j hj;change Cg s.hp id (some (.st c')) i=some bx at hb;by_cases e:i=id
  ·subst e;rw[Ak] at hb;cases hb;exact h.rngB i _ b o h0 trivial hβ B2 j (by unfold BR at hj ⊢;simp only[hl] at hj;exact hj)
  ·rw[Ah _ _ e] at hb;exact h.rngB i bx b o hb hlb hβ B2 j hj
 ·intro i c1 b o hb hβ B2;change Cg s.hp id (some (.st c')) i=_ at hb;by_cases e:i=id
  ·subst e;exact h.stp i c b o h0 hβ B2
  ·rw[Ah _ _ e] at hb;exact h.stp i c1 b o hb hβ B2
 ·intro b hY hb;exact h.Yx b hY (by rw[←hX];exact hb)
theorem Zc (h:Cj N w0 X0 Y β s a w)(id j:Nat):∃β',Cj N w0 X0 Y β' (EO N id s j) a w:=by
 unfold EO;split
 ·rename_i c h0;split
  ·rename_i es hj;cases hn:(s.hp (id+N*(j+1))).isNone
   ·exact⟨β,h⟩
   ·have hn:s.hp (id+N*(j+1))=none:=by simpa using hn
    have D8:id≠id+N*(j+1):=by
     intro e;rw[←e,h0] at hn;cases hn
    have h1:=h.stepR (d:=none) (v:=.top) (val:=undef) rfl (by simp[Bn,hn]) (OI hn (.top _) (by simp[Bq,B5,Al]))
    change Cj N w0 X0 Y (Cg β (id+N*(j+1)) none) ⟨s.tm,Cg s.hp (id+N*(j+1)) (some (.ar false []))⟩ a w at h1
    have h2:=h1.recell (id:=id) (c:=c) (c':=c.set j (.view (id+N*(j+1)) es 0 0)) (by show Cg _ _ _ _=_;rw[Ah _ _ D8];exact h0) (by simp) (by
     intro k p hp;by_cases e:k=j
     ·subst e
      have B2:k<c.length:=by
       rcases Nat.lt_or_ge k c.length with h'|h'
       ·exact h'
       ·rw[List.getElem?_eq_none h'] at hj;cases hj
      rw[List.getElem?_set_self B2] at hp;cases hp;refine⟨_,hj,fun v hv=>.inl ⟨Ak _ _ _,rfl,rfl,none,OJ hv⟩,fun i hi=>?_⟩
      simp[Al] at hi;subst hi;show Cg _ _ _ _≠none;rw[Ak];simp
     ·rw[List.getElem?_set_ne (fun h=>e h.symm)] at hp
      refine⟨p,hp,fun _ hv=>hv,fun i hi=>?_⟩
      have:=h.wfB id c h0 p (List.mem_of_getElem? hp) i hi;show Cg _ _ _ _≠none;by_cases e':i=id+N*(j+1)
      ·subst e';rw[Ak];simp
      ·rw[Ah _ _ e'];exact this)
    refine⟨Cg β (id+N*(j+1)) none,?_⟩;have e3:Cg (Cg s.hp (id+N*(j+1)) (some (.ar false []))) id (some (.st (c.set j (.view (id+N*(j+1)) es 0 0))))=Cg (Cg s.hp id (some (.st (c.set j (.view (id+N*(j+1)) es 0 0))))) (id+N*(j+1)) (some (.ar false [])):=HJ _ _ _ (fun h=>D8 h.symm)
    change Cj N w0 X0 Y (Cg β (id+N*(j+1)) none) ⟨s.tm,Cg (Cg s.hp (id+N*(j+1)) (some (.ar false []))) id (some (.st (c.set j (.view (id+N*(j+1)) es 0 0))))⟩ a w at h2;rw[e3] at h2;exact h2
  ·exact⟨β,h⟩
 ·exact⟨β,h⟩
theorem Kt {f:St->Nat->St}(hf:∀s β,Cj N w0 X0 Y β s a w->∀i,∃β',Cj N w0 X0 Y β' (f s i) a w):∀(l:List Nat){s:St}{β:Bt},Cj N w0 X0 Y β s a w->∃β',Cj N w0 X0 Y β' (l.foldl f s) a w
 |[],_,β,h=>⟨β,h⟩
 |i::l,s,β,h=>by
  obtain⟨β1,h1⟩:=hf s β h i;exact Kt hf l h1
theorem DG (h:Cj N w0 X0 Y β s a w)(i:Nat):∃β',Cj N w0 X0 Y β' (DA N s i) a w:=by
 unfold DA;split
 ·split
  ·exact Kt (fun s β h i=>Zc h _ i) _ h
  ·exact⟨β,h⟩
 ·exact⟨β,h⟩
theorem AP:∀{m:List (Nat × Nat)},Do (m.map (·.2))=true->∀{i i' j:Nat},(i,j)∈m->(i',j)∈m->i=i'
 |[],_,_,_,_,h,_=>by simp at h
 |(x,y)::m,hn,i,i',j,h,h'=>by
  simp only[List.map_cons,Do,Bool.and_eq_true,Bool.not_eq_true'] at hn
  have hy:∀k,(k,y) ∉ m:=by
   intro k hk;exact L7 hn.1 (List.mem_map.2 ⟨(k,y),hk,rfl⟩)
  rcases List.mem_cons.1 h with e|h
  ·cases e;rcases List.mem_cons.1 h' with e|h'
   ·cases e;rfl
   ·exact absurd h' (hy _)
  ·rcases List.mem_cons.1 h' with e|h'
   ·cases e;exact absurd h (hy _)
   ·exact AP hn.2 h h'
theorem S3:∀{m:List (Nat × Nat)},Do (m.map (·.1))=true->∀{i j j':Nat},(i,j)∈m->(i,j')∈m->j=j'
 |[],_,_,_,_,h,_=>by simp at h
 |(x,y)::m,hn,i,j,j',h,h'=>by
  simp only[List.map_cons,Do,Bool.and_eq_true,Bool.not_eq_true'] at hn
  have hx:∀k,(x,k) ∉ m:=by
   intro k hk;exact L7 hn.1 (List.mem_map.2 ⟨(x,k),hk,rfl⟩)
  rcases List.mem_cons.1 h with e|h
  ·cases e;rcases List.mem_cons.1 h' with e|h'
   ·cases e;rfl
   ·exact absurd h' (hx _)
  ·rcases List.mem_cons.1 h' with e|h'
   ·cases e;exact absurd h (hx _)
   ·exact S3 hn.2 h h'
theorem Jg {i j:Nat}(h:Nat.beq i j=false):i≠j:=by rintro rfl;rw[Nat.beq_refl] at h;cases h
theorem Q6:∀{m:List (Nat × Nat)} {i j:Nat},O8 m i=some j->(i,j)∈m
 |[],_,_,h=>by cases h
 |(x,y)::m,i,j,h=>by
  unfold O8 at h;cases hb:Nat.beq i x<;>rw[hb] at h
  ·exact List.mem_cons_of_mem _ (Q6 h)
  ·have:=Nat.eq_of_beq_eq_true hb;cases h;rw[this];simp
theorem Tm {m:List (Nat × Nat)} {hp:Nat->Option Bk}:∀{l:List (Nat × Nat)} {j:Nat}{b:Bk},Kn (I7 m hp l) j=some b->∃i b0,(i,j)∈l∧hp i=some b0∧b=Acc m b0
 |[],_,_,h=>by cases h
 |(x,y)::l,j,b,h=>by
  unfold I7 at h;cases hx:hp x with
  |none=>
   rw[hx] at h;obtain⟨i,b0,h1,h2⟩:=Tm h;exact⟨i,b0,List.mem_cons_of_mem _ h1,h2⟩
  |some bx=>
   rw[hx] at h;simp only[Kn] at h;cases hb:Nat.beq j y<;>rw[hb] at h
   ·obtain⟨i,b0,h1,h2⟩:=Tm h;exact⟨i,b0,List.mem_cons_of_mem _ h1,h2⟩
   ·have:=Nat.eq_of_beq_eq_true hb;subst this;cases h;exact⟨x,bx,by simp,hx,rfl⟩
theorem Jz {m:List (Nat × Nat)} {hp:Nat->Option Bk}:∀{l:List (Nat × Nat)} {i j:Nat},(i,j)∈l->hp i≠none->Kn (I7 m hp l) j≠none
 |[],_,_,h,_=>by simp at h
 |(x,y)::l,i,j,h,hi=>by
  unfold I7;cases hx:hp x with
  |none=>
   rcases List.mem_cons.1 h with e|h
   ·cases e;exact absurd hx hi
   ·exact Jz h hi
  |some bx=>
   simp only[Kn];cases hb:Nat.beq j y
   ·rcases List.mem_cons.1 h with e|h
    ·cases e;exact absurd rfl (Jg hb)
    ·exact Jz h hi
   ·simp
def Ze (m:List (Nat × Nat)) (j:Nat):Option Nat:=
 match m with
 |[]=>none
 |(x,y)::r=>bif Nat.beq j y then some x else Ze r j
theorem OT:∀{m:List (Nat × Nat)} {i j:Nat},Ze m j=some i->(i,j)∈m
 |[],_,_,h=>by cases h
 |(x,y)::m,i,j,h=>by
  unfold Ze at h;cases hb:Nat.beq j y<;>rw[hb] at h
  ·exact List.mem_cons_of_mem _ (OT h)
  ·have:=Nat.eq_of_beq_eq_true hb;cases h;rw[this];simp
theorem IL:∀{m:List (Nat × Nat)} {i j:Nat},(i,j)∈m->∃k,Ze m j=some k
 |[],_,_,h=>by simp at h
 |(x,y)::m,i,j,h=>by
  unfold Ze;cases hb:Nat.beq j y
  ·rcases List.mem_cons.1 h with e|h
   ·cases e;exact absurd rfl (Jg hb)
   ·exact IL h
  ·exact⟨x,rfl⟩
theorem CR {f:Nat->PV}:∀{l:List Nat}{i:Nat},lk (l.map fun i=>(i,f i)) i=if i∈l then f i else .top
 |[],_=>rfl
 |x::l,i=>by
  simp only[List.map_cons,lk];cases hb:Nat.beq i x
  ·have:=Jg hb;simp only[cond_false,CR,List.mem_cons,this,false_or]
  ·have:=Nat.eq_of_beq_eq_true hb;subst this;simp
theorem AK {m:Nat}:∀{n i:Nat},i∈Iv m n->i<n
 |0,_,h=>by simp[Iv] at h
 |n+1,i,h=>by
  simp only[Iv,List.mem_append] at h;rcases h with h|h
  ·have:=AK h;omega
  ·cases hb:m.testBit n<;>rw[hb] at h
   ·simp at h
   ·simp at h;omega
theorem ES (h:Cj N w0 X0 Y β s a w){m:List (Nat × Nat)} (h1:Do (m.map (·.1))=true) (h2:Do (m.map (·.2))=true) {ls:List Nat}(hls:∀i∈ls,i<N)(hpn:∀i,X0.pn i->(C5 N i,C5 N i)∈m):
  ∃β',Cj N w0 X0 Y β' ⟨lk (ls.map fun i=>(i,RW m (s.tm i))),Kn (I7 m s.hp m)⟩ a w:=by
 refine⟨fun j=>(Ze m j).bind β,?_⟩
 have hβ:∀{i j:Nat},(i,j)∈m->(Ze m j).bind β=β i:=by
  intro i j hm;obtain⟨k,hk⟩:=IL hm;rw[hk];have:=AP h2 (OT hk) hm;subst this;rfl
 have hold:∀{j:Nat} {b:Bk},Kn (I7 m s.hp m) j=some b->∃i b0,(i,j)∈m∧s.hp i=some b0∧b=Acc m b0∧(Ze m j).bind β=β i:=by
  intro j b hb;obtain⟨i,b0,hm,h3,h4⟩:=Tm hb;exact⟨i,b0,hm,h3,h4,hβ hm⟩
 have Fc:∀{j:Nat},Ct (Kn (I7 m s.hp m) j)->∃i,(i,j)∈m∧Ct (s.hp i)∧(Ze m j).bind β=β i:=by
  intro j hl;cases hb:Kn (I7 m s.hp m) j with
  |none=>rw[hb] at hl;exact hl.elim
  |some b=>
   obtain⟨i,b0,hm,h3,rfl,h5⟩:=hold hb;refine⟨i,hm,?_,h5⟩;rw[hb] at hl;rw[h3];cases b0<;>exact hl
 have hX:∀b,EF (Kn (I7 m s.hp m)) (fun j=>(Ze m j).bind β) b->EF s.hp β b:=by
  rintro b ⟨j,o,hl,hb⟩
  obtain⟨i,_,Hw,e⟩:=Fc hl;exact⟨i,o,Hw,by rw[←e];exact hb⟩
 have hA:∀b,Cu (Kn (I7 m s.hp m)) (fun j=>(Ze m j).bind β) Y b->Cu s.hp β Y b:=fun b hb=>hb.imp (hX b) id
 have hC:∀p v,Bs w (Cu s.hp β Y) β p v->Bs w (Cu (Kn (I7 m s.hp m)) (fun j=>(Ze m j).bind β) Y) (fun j=>(Ze m j).bind β) (MI m p) v:=by
  intro p v hp;cases p with
  |view id es off n=>
   show Bs _ _ _ (match O8 m id with|some j=>.view j es off n|none=>.top) v
   cases hj:O8 m id with
   |some j=>
    have e:=hβ (Q6 hj);rcases hp with⟨e1,e2⟩|⟨b,o,x,cap,e1,e2⟩
    ·exact .inl ⟨by show (Ze m j).bind β=none;rw[e];exact e1,e2⟩
    ·exact .inr ⟨b,o,x,cap,by show (Ze m j).bind β=_;rw[e];exact e1,e2⟩
   |none=>exact Aq.top _
  |ptr id off=>
   show Bs _ _ _ (match O8 m id with|some j=>.ptr j off|none=>.top) v
   cases hj:O8 m id with
   |some j=>
    have e:=hβ (Q6 hj);obtain⟨b,o,e1,e2⟩:=hp;exact⟨b,o,by show (Ze m j).bind β=_;rw[e];exact e1,e2⟩
   |none=>exact Aq.top _
  |sc v=>exact Aq.step (B1.refl _ _) (fun b _=>hA b) hp
  |lst z es n c=>exact Aq.step (B1.refl _ _) (fun b _=>hA b) hp
  |iptr c off=>exact Bs.step (p:=.iptr c off) (B1.refl _ _) (fun b _=>hA b) (by simp[Al]) hp
  |_=>exact Aq.top _
 have hV:∀p v,Dt w (Cu s.hp β Y) β p v->Dt w (Cu (Kn (I7 m s.hp m)) (fun j=>(Ze m j).bind β) Y) (fun j=>(Ze m j).bind β) (RW m p) v:=by
  intro p v hp;cases p with
  |agg c=>
   obtain⟨vs,e1,e2⟩:=hp;refine⟨vs,e1,Bc.of_at (by simp;exact e2.len) fun i q u hq hu=>?_⟩
   rw[List.getElem?_map] at hq;cases hc:c[i]? with
   |none=>rw[hc] at hq;cases hq
   |some q0=>
    rw[hc] at hq;cases hq;exact hC _ _ (e2.at_ hc hu)
  |view id es off n=>
   have:=hC (.view id es off n) v hp;change Bs _ _ _ (match O8 m id with|some j=>.view j es off n|none=>.top) v at this
   show Dt _ _ _ (match O8 m id with|some j=>.view j es off n|none=>.top) v
   cases hj:O8 m id<;>rw[hj] at this<;>exact this
  |ptr id off=>
   have:=hC (.ptr id off) v hp;change Bs _ _ _ (match O8 m id with|some j=>.ptr j off|none=>.top) v at this
   show Dt _ _ _ (match O8 m id with|some j=>.ptr j off|none=>.top) v
   cases hj:O8 m id<;>rw[hj] at this<;>exact this
  |sc v'=>exact hC (.sc v') v hp
  |lst z es n c=>exact hC (.lst z es n c) v hp
  |iptr c off=>exact hC (.iptr c off) v hp
  |_=>exact Aq.top _
 have hrC:∀p i,i∈Al (MI m p)->∃k∈Al p,(k,i)∈m:=by
  intro p i hi;cases p with
  |view id es off n=>
   change i∈Al (match O8 m id with|some j=>.view j es off n|none=>.top) at hi
   cases hj:O8 m id<;>rw[hj] at hi
   ·simp[Al] at hi
   ·simp[Al] at hi;subst hi;exact⟨id,by simp[Al],Q6 hj⟩
  |ptr id off=>
   change i∈Al (match O8 m id with|some j=>.ptr j off|none=>.top) at hi
   cases hj:O8 m id<;>rw[hj] at hi
   ·simp[Al] at hi
   ·simp[Al] at hi;subst hi;exact⟨id,by simp[Al],Q6 hj⟩
  |_=>simp[MI,Al] at hi
 have hrV:∀p i,i∈Bq (RW m p)->∃k∈Bq p,(k,i)∈m:=by
  intro p i hi;cases p with
  |agg c=>
   simp only[RW,Bq,B5,List.mem_flatMap,List.mem_map] at hi;obtain⟨_,⟨q,hq,rfl⟩,hi⟩:=hi;obtain⟨k,hk,hm⟩:=hrC q i hi;exact⟨k,by simp only[Bq,B5,List.mem_flatMap];exact⟨q,hq,hk⟩,hm⟩
  |view id es off n=>
   refine (hrC (.view id es off n) i ?_).imp fun k hk=>hk
   change i∈Bq (match O8 m id with|some j=>.view j es off n|none=>.top) at hi
   show i∈Al (match O8 m id with|some j=>.view j es off n|none=>.top)
   cases hj:O8 m id<;>rw[hj] at hi<;>exact hi
  |ptr id off=>
   refine (hrC (.ptr id off) i ?_).imp fun k hk=>hk
   change i∈Bq (match O8 m id with|some j=>.ptr j off|none=>.top) at hi
   show i∈Al (match O8 m id with|some j=>.ptr j off|none=>.top)
   cases hj:O8 m id<;>rw[hj] at hi<;>exact hi
  |_=>simp[RW,MI,Bq,B5,Al] at hi
 refine⟨h.dfr,h.tsz,?_,?_,?_,?_,?_,?_,?_,?_,?_,?_,?_,?_,h.Ylt,h.fr⟩
 ·intro i hi;show lk _ i=_;rw[CR,if_neg (fun hm=>by have:=hls i hm;omega)]
 ·intro i hi;show Dt w _ _ (lk _ i) _;rw[CR];split
  ·exact hV _ _ (h.tms i hi)
  ·exact Aq.top _
 ·intro j b hb;obtain⟨i,b0,hm,h3,rfl,e⟩:=hold hb;have Ir:=h.box i b0 h3;cases b0 with
  |st c=>
   obtain⟨b,o,e1,e2,e3⟩:=Ir;refine⟨b,o,by show (Ze m j).bind β=_;rw[e];exact e1,fun k p hp=>?_,fun k hk=>e3 k (by simpa using hk)⟩
   rw[List.getElem?_map] at hp;cases hc:c[k]? with
   |none=>rw[hc] at hp;cases hp
   |some q=>
    rw[hc] at hp;cases hp;obtain⟨v,hv,hr⟩:=e2 k q hc;exact⟨v,hv,hC _ _ hr⟩
  |ar fz c=>
   have:=Mr.step' hA Ir;show Mr _ _ _ _ (.ar fz c);rcases this with⟨e1,e2⟩|⟨b,o,e1,e2⟩
   ·exact .inl ⟨by show (Ze m j).bind β=_;rw[e];exact e1,e2⟩
   ·exact .inr ⟨b,o,by show (Ze m j).bind β=_;rw[e];exact e1,e2⟩
  |mv=>exact trivial
 ·intro j j' b o o' hl Hw hb Gh;obtain⟨i,hm,Yl,e⟩:=Fc hl;obtain⟨i',Hn,Az2,e'⟩:=Fc Hw;have:=h.inj i i' b o o' Yl Az2 (by rw[←e];exact hb) (by rw[←e'];exact Gh)
  subst this;exact S3 h1 hm Hn
 ·intro j b o hn hb;cases hj:Kn (I7 m s.hp m) j with
  |none=>exact absurd hj hn
  |some bx=>
   obtain⟨i,b0,_,h3,_,e⟩:=hold hj;exact h.blt i b o (by rw[h3];simp) (by rw[←e];exact hb)
 ·intro i hi j hj;change j∈Bq (lk _ i) at hj;rw[CR] at hj;split at hj
  ·obtain⟨k,hk,hm⟩:=hrV _ j hj;exact Jz hm (h.wfT i hi k hk)
  ·simp[Bq,B5,Al] at hj
 ·intro j cells hb p hp k hk;obtain⟨i,b0,_,h3,h4,_⟩:=hold hb;cases b0 with
  |st c=>
   cases h4;obtain⟨q,hq,rfl⟩:=List.mem_map.1 hp;obtain⟨k',Iy,hm⟩:=hrC q k hk;exact Jz hm (h.wfB i c h3 q hq k' Iy)
  |ar fz c=>cases h4
  |mv=>cases h4
 ·intro b hb;exact h.ownd b (hX b hb)
 ·intro j bx b o hb hlb hβ1 B2 k hk;obtain⟨i,b0,_,h3,h4,e⟩:=hold hb;subst h4;refine h.rngB i b0 b o h3 ?_ (by rw[←e];exact hβ1) B2 k ?_
  ·cases b0<;>exact hlb
  ·cases b0 with
   |st c=>simpa [BR,Acc] using hk
   |ar fz c=>exact hk
   |mv=>exact hk
 ·intro i hi;exact⟨Jz (hpn i hi) (h.pin i hi).1,(hβ (hpn i hi)).trans (h.pin i hi).2⟩
 ·intro j c b o hb hβ1 B2;obtain⟨i,b0,hm,h3,h4,e⟩:=hold hb;cases b0 with
  |st c0=>
   obtain⟨k,rfl,hk⟩:=h.stp i c0 b o h3 (by rw[←e];exact hβ1) B2
   exact⟨k,S3 h1 hm (hpn k hk),hk⟩
  |ar fz c0=>cases h4
  |mv=>cases h4
 ·intro b hY hb;exact h.Yx b hY (hX b hb)
theorem Oo {m:List (Nat × Nat)} {q:Nat × Nat}{o n:Nat}(h:q∈m):q∈BP m o n:=by
 unfold BP;split
 ·exact h
 ·exact List.mem_append.2 (.inl h)
theorem H9 {q:Nat × Nat}{new:Nat}:∀{c:List PV}{j:Nat}{m:List (Nat × Nat)},q∈m->q∈Mp N new c j m
 |[],_,_,h=>h
 |p::c,j,m,h=>by
  unfold Mp;split
  ·rename_i e;cases e
  ·rename_i e;cases e;exact H9 (Oo h)
  ·rename_i e;cases e;exact H9 h
theorem FV {q:Nat × Nat}{m:List (Nat × Nat)} {i:Nat}(h:q∈m):q∈V2 N s m i:=by
 unfold V2;split
 ·exact Oo h
 ·split
  ·exact h
  ·split
   ·exact H9 (Oo h)
   ·exact Oo h
 ·exact H9 h
 ·exact h
theorem Sh {q:Nat × Nat}:∀{l:List Nat}{m:List (Nat × Nat)},q∈m->q∈l.foldl (V2 N s) m
 |[],_,h=>h
 |_::l,_,h=>Sh (l:=l) (FV h)
theorem Mb {q:Nat × Nat}{m:List (Nat × Nat)} (h:q∈m):∀k,q∈Nq N s.hp k m
 |0=>h
 |k+1=>by
  unfold Nq;split
  ·exact H9 (Mb h k)
  ·exact Mb h k
theorem BI:∀{k i:Nat},i<k->s.hp (C5 N i)≠none->(C5 N i,C5 N i)∈JJ N s.hp k
 |0,_,h,_=>by omega
 |k+1,i,h,hn=>by
  unfold JJ;by_cases e:i=k
  ·subst e
   have:(s.hp (C5 N i)).isSome=true:=by
    cases hq:s.hp (C5 N i) with
    |none=>exact absurd hq hn
    |some b=>rfl
   rw[this];simp
  ·have:=BI (k:=k) (i:=i) (by omega) hn
   cases (s.hp (C5 N k)).isSome
   ·exact this
   ·exact List.mem_append.2 (.inl this)
theorem Ul (h:Cj N w0 X0 Y β s a w){L:Nat}{q:Bool}{K:St->Option R}(hk:OL N (Iv L N) q s K=some r):∃β' s',K s'=some r∧Cj N w0 X0 Y β' s' a w:=by
 unfold OL at hk;obtain⟨hb,Dn⟩:=Ai hk;simp only[Bool.and_eq_true] at hb
 obtain⟨β2,h2⟩:∃β2,Cj N w0 X0 Y β2 (bif q then s else (Iv L N).foldl (DA N) ((Iv L N).foldl (Vy N) s)) a w:=by
  cases q
  ·obtain⟨β1,h1⟩:=Kt (fun s β h i=>Zk h i) (Iv L N) h
   obtain⟨β2,h2⟩:=Kt (fun s β h i=>DG h i) (Iv L N) h1
   exact⟨β2,h2⟩
  ·exact⟨β,h⟩
 obtain⟨β3,h3⟩:=ES h2 hb.1 hb.2 (ls:=Iv L N) (fun i hi=>AK hi) (fun i hi=>Sh (Mb (BI (X0.p8 i hi) (h2.pin i hi).1) 8))
 exact⟨β3,_,Dn,h3⟩
theorem Ns (h:Cj N w0 X0 Y β s a w){L:Nat}{K:St->Option R}(hk:Si N L s K=some r):∃β' s',K s'=some r∧Cj N w0 X0 Y β' s' a w:=Ul h hk
theorem GN (h:Cj N w0 X0 Y β s a w){L:Nat}{K:St->Option R}(hk:QA N L s K=some r):∃β' s',K s'=some r∧Cj N w0 X0 Y β' s' a w:=Ul h hk
end
open Go.RowKit
section
variable {R:Type} {r:R} {P:Program} {N:Nat} {w0:World} {X0:Gg} {Y:Nat->Prop} {C:Fk} {call:A7}
theorem Z8 {n:Nat}{F:St->Option R}{s:St}(h:Wv n F s=some r):F s=some r:=by
 unfold Wv at h;split at h
 ·cases h
 ·exact h
theorem GV {β:Bt}{s:St}{a:Act}{w:World}(h:Cj N w0 X0 Y β s a w){c:Operand}{kt kf:St->Option R}(hk:XS s c kt kf=some r):(a.eval c=.bool true∧kt s=some r)∨(a.eval c=.bool false∧kf s=some r):=by
 unfold XS at hk;split at hk
 ·rename_i d;split at hk
  ·rename_i b ht;have hv:a.eval (.tmp d)=.bool b:=B0 h (x:=.tmp d) ht;cases b
   ·change kf ⟨Cg s.tm d (.sc (.bool false)),s.hp⟩=some r at hk;rw[Rj s.tm ht] at hk;exact .inr ⟨hv,hk⟩
   ·change kt ⟨Cg s.tm d (.sc (.bool true)),s.hp⟩=some r at hk;rw[Rj s.tm ht] at hk;exact .inl ⟨hv,hk⟩
  ·rename_i ht;have hu:=Cm h (.tmp d);change Dt _ _ _ (s.tm d) _ at hu;rw[ht] at hu;have G5:Aq w _ .ub (a.eval (.tmp d)):=hu
   obtain⟨b,hv⟩:∃b,a.eval (.tmp d)=.bool b:=by
    generalize a.eval (.tmp d)=x at G5;cases G5 with
    |ub b=>exact⟨b,rfl⟩
   obtain⟨h1,h2⟩:=BM hk;cases b
   ·exact .inr ⟨hv,h2⟩
   ·exact .inl ⟨hv,h1⟩
  ·cases hk
 ·exact .inl ⟨rfl,hk⟩
 ·exact .inr ⟨rfl,hk⟩
 ·cases hk
theorem Yb {c:Code}{Q:Exit->Act->World->Prop}{F:(St->Option R)->St->Option R} {nm:St->(St->Option R)->Option R}
  (Zs:∀{β s a w} {K:St->Option R},Cj N w0 X0 Y β s a w->nm s K=some r->∃β' s',K s'=some r∧Cj N w0 X0 Y β' s' a w)
  (hF:∀{β s a w} {K:St->Option R}{Q':Act->World->Prop},Cj N w0 X0 Y β s a w->F K s=some r->(∀s' a' w' β',K s'=some r->Cj N w0 X0 Y β' s' a' w'->Q' a' w')->c.wp P (Exit.then Q' Q) a w):
  ∀(n:Nat) {β s a w},Cj N w0 X0 Y β s a w->YI F nm n s=some r->Code.rounds P c Q n a w
 |0,_,_,_,_,_,hk=>by cases hk
 |n+1,β,s,a,w,h,hk=>by
  rw[rounds_succ];refine hF h hk fun s' a' w' β' Iy h'=>?_
  obtain⟨β1,s1,Dn,h1⟩:=Zs h' Iy;exact Yb Zs hF n h1 Dn
theorem LA {G:Qi}(H7:JH P G w0 X0)(Df:∀f args res,call f args=some res->Cx G P f args res)(hm:P.follows .mixedOrders=true){fu:Nat}:
  ∀(c:Code) {ln:Nat} {lx:Nat->Nat} {lr:Nat} {kn:St->Option R} {kx:Nat->St->Option R} {kr:St->Option R} {β:Bt} {s:St} {a:Act} {w:World} {Q:Exit->Act->World->Prop},Cj N w0 X0 Y β s a w ->
   K4 C P fu N call c ln lx lr kn kx kr s=some r->(∀s' a' w' β',kn s'=some r->Cj N w0 X0 Y β' s' a' w'->Q .normal a' w') ->
   (∀id s' a' w' β',kx id s'=some r->Cj N w0 X0 Y β' s' a' w'->Q (.exit id) a' w')->(∀s' a' w' β',kr s'=some r->Cj N w0 X0 Y β' s' a' w'->Q .ret a' w')->c.wp P Q a w:=by
 intro c
 induction c with
 |skip=>intro ln lx lr kn kx kr β s a w Q h hk hn hx hr;exact wp_skip (hn s a w β hk h)
 |region id ops draw=>
  intro ln lx lr kn kx kr β s a w Q h hk hn hx hr;unfold K4 at hk;cases draw
  ·simp only[GK,Bool.false_and,cond_false] at hk;exact EW h H7 Df hk hn
  ·simp only[GK,Afy,Bool.true_and,cond_true] at hk;cases hb:AO C P ops<;>rw[hb] at hk
   ·obtain⟨Gh,Dn⟩:=Ai (show Bl _ _=some r from hk)
    exact HW h H7 Df hm Gh Dn hn
   ·exact EN h H7 Df hm hb hk hn
 |seq c1 c2 ih1 ih2=>
  intro ln lx lr kn kx kr β s a w Q h hk hn hx hr;unfold K4 at hk
  refine wp_seq (ih1 h hk (fun s' a' w' β' Iy h'=>by
    cases hc:VP P c1 c2
    ·rw[hc] at Iy;exact ih2 h' Iy hn hx hr
    ·rw[hc] at Iy;cases hq:Vz c1 c2
     ·rw[hq] at Iy;obtain⟨β1,s1,Dn,h1⟩:=Ns h' (show Si _ _ _ _=some r from Iy)
      exact ih2 h1 (Z8 Dn) hn hx hr
     ·rw[hq] at Iy;obtain⟨β1,s1,Dn,h1⟩:=GN h' (show QA _ _ _ _=some r from Iy)
      exact ih2 h1 (Z8 Dn) hn hx hr) (fun id s' a' w' β' Iy h'=>hx id s' a' w' β' Iy h') (fun s' a' w' β' Iy h'=>hr s' a' w' β' Iy h'))
 |cond c c1 c2 ih1 ih2=>
  intro ln lx lr kn kx kr β s a w Q h hk hn hx hr;unfold K4 at hk;rcases GV h hk with⟨hc,Dn⟩|⟨hc,Dn⟩
  ·exact wp_cond_true hc (ih1 h Dn hn hx hr)
  ·exact wp_cond_false hc (ih2 h Dn hn hx hr)
 |block id c ih=>
  intro ln lx lr kn kx kr β s a w Q h hk hn hx hr;unfold K4 at hk;refine wp_block (ih h hk (fun s' a' w' β' Iy h'=>hn s' a' w' β' Iy h') (fun j s' a' w' β' Iy h'=>?_) (fun s' a' w' β' Iy h'=>hr s' a' w' β' Iy h'))
  show (if j=id then _ else _)
  by_cases e:j=id
  ·subst e;rw[if_pos rfl];rw[Nat.beq_refl] at Iy;exact hn s' a' w' β' Iy h'
  ·rw[if_neg e]
   have:Nat.beq j id=false:=by
    cases hb:Nat.beq j id
    ·rfl
    ·exact absurd (Nat.eq_of_beq_eq_true hb) e
   rw[this] at Iy;exact hx j s' a' w' β' Iy h'
 |loop c ih=>
  intro ln lx lr kn kx kr β s a w Q h hk hn hx hr;unfold K4 at hk;obtain⟨β1,s1,Dn,h1⟩:=Ns h hk;refine wp_loop_rounds fu (Yb (fun h hk=>Ns h hk) (fun h hk hQ=>?_) fu h1 Dn)
  exact ih h hk hQ (fun id s' a' w' β' Iy h'=>hx id s' a' w' β' Iy h') (fun s' a' w' β' Iy h'=>hr s' a' w' β' Iy h')
 |«exit» id=>intro ln lx lr kn kx kr β s a w Q h hk hn hx hr;exact wp_exit (hx id s a w β hk h)
 |ret=>intro ln lx lr kn kx kr β s a w Q h hk hn hx hr;exact wp_ret (hr s a w β hk h)
 |_=>intro ln lx lr kn kx kr β s a w Q h hk hn hx hr;cases hk
end
open Go.RowKit
theorem Jl:∀{l:List (Nat × Bk)} {i:Nat}{b:Bk},Kn l i=some b->(i,b)∈l
 |[],_,_,h=>by cases h
 |(j,c)::l,i,b,h=>by
  unfold Kn at h;cases hb:Nat.beq i j<;>rw[hb] at h
  ·exact List.mem_cons_of_mem _ (Jl h)
  ·have:=Nat.eq_of_beq_eq_true hb;cases h;rw[this];simp
theorem DY:∀{l:List (Nat × Bk)},(l.map (·.1)).Nodup->∀{i b},(i,b)∈l->Kn l i=some b
 |[],_,_,_,h=>by cases h
 |(j,c)::l,hn,i,b,h=>by
  simp only[List.map_cons,List.nodup_cons] at hn;unfold Kn;rcases List.mem_cons.1 h with e|h
  ·cases e;simp only[Nat.beq_refl,cond_true]
  ·have:Nat.beq i j=false:=by
    cases hb:Nat.beq i j
    ·rfl
    ·exact absurd (Nat.eq_of_beq_eq_true hb ▸ List.mem_map.2 ⟨_,h,rfl⟩) hn.1
   simp only[this,cond_false];exact DY hn.2 h
section
variable {R:Type} {r:R} {P:Program} {N:Nat} {w0:World} {X0:Gg} {Y:Nat->Prop} {β β':Bt} {s:St} {a:Act} {w w':World} {A:Nat->Prop}
theorem ZP {id:Nat}{t:CT}{p:PV}{K:PV->List (Nat × Bk)->Option R} (hk:Aac id t p K=some r):
  (∃c,K c []=some r∧Ps c∧∀w A q u,E6 w A q p u->Aq w A c u)∨∃es n cc,p=.own es n cc∧K (.view id es 0 n) [(id,.ar false cc)]=some r:=by
 have tree:∀t',(Tk t' p fun c=>K c [])=some r->∃c,K c []=some r∧Ps c∧∀w A q u,E6 w A q p u->Aq w A c u:=by
  intro t' hk;obtain⟨c,hk,hT,Wz,hv⟩:=Jf hk;refine⟨c,hk,hT,fun w A q u h=>(hv w A (fun _=>none) u ?_).1⟩
  cases p<;>first|exact h|exact Wz.elim
 unfold Aac at hk;cases t with
 |sl es=>
  dsimp only at hk;split at hk
  ·rename_i es' n c;cases hb:Nat.beq es' es<;>rw[hb] at hk
   ·cases hk
   ·have:=Nat.eq_of_beq_eq_true hb;subst this;exact .inr ⟨_,_,_,rfl,hk⟩
  ·exact .inl (tree (.sl es) hk)
 |int k=>exact .inl (tree _ hk)
 |bool=>exact .inl (tree _ hk)
 |str=>exact .inl (tree _ hk)
 |any=>exact .inl (tree _ hk)
theorem Lf:∀{ts:List CT}{id:Nat}{ps:List PV}{K:List PV->List (Nat × Bk)->Option R},Ue N id ts ps K=some r ->
  ∃cs bs,∃qs:List (Nat × Nat),K cs bs=some r∧cs.length=ps.length∧ps.length=ts.length∧bs.map (·.1)=qs.map (·.1)∧(∀q∈qs,∀q'∈qs,q.2=q'.2->q.1=q'.1) ∧
   (∀i bx,(i,bx)∈bs->∃c,bx=.ar false c)∧(∀c∈cs,Zy c)∧(∀c∈cs,∀i∈Al c,∃bx,(i,bx)∈bs) ∧
   ∀(w:World) (A:Nat->Prop) (own β':Bt) (j0:Nat) (us:List Value),(∀q∈qs,β' q.1=own (j0+q.2))->D2 w A own j0 ps us->Bc (Bs w A β') cs us∧∀i bx,(i,bx)∈bs->Mr w A β' i bx
 |[],id,ps,K,hk=>by
  obtain⟨rfl,hk⟩:=C7 hk;refine⟨[],[],[],hk,rfl,rfl,rfl,by simp,by simp,by simp,by simp,fun w A own β' j0 us _ h=>⟨?_,by simp⟩⟩
  cases us with
  |nil=>trivial
  |cons u us=>exact h.elim
 |t::ts,id,ps,K,hk=>by
  unfold Ue at hk;obtain⟨p,ps',Va,Dn⟩:=A5 hk;subst Va;rcases ZP Dn with⟨c,D3,hT,hv⟩|⟨es,n,cc,rfl,D3⟩
  ·obtain⟨cs,bs,qs,Iq,hl,M6,hb,Jt,Eb,hF,Gl,M3⟩:=Lf D3;refine⟨c::cs,bs,qs.map (fun q=>(q.1,q.2+1)),Iq,by simp[hl],by simp[M6],by rw[hb];simp,?_,Eb,?_,?_,fun w A own β' j0 us hβ ho=>?_⟩
   ·intro q hq q' En e;obtain⟨q0,O3,rfl⟩:=List.mem_map.1 hq;obtain⟨q1,Hf,rfl⟩:=List.mem_map.1 En;exact Jt q0 O3 q1 Hf (by simp only at e;omega)
   ·intro y hy;rcases List.mem_cons.1 hy with rfl|hy
    ·exact Ma hT
    ·exact hF y hy
   ·intro y hy i hi;rcases List.mem_cons.1 hy with rfl|hy
    ·rw[F5 hT] at hi;cases hi
    ·exact Gl y hy i hi
   ·cases us with
    |nil=>exact ho.elim
    |cons u us=>
     obtain⟨h1,h2⟩:=M3 w A own β' (j0+1) us (fun q hq=>by rw[hβ _ (List.mem_map_of_mem hq)];congr 1;simp only;omega) ho.2
     exact⟨⟨ZI (hv w A _ u ho.1),h1⟩,h2⟩
  ·obtain⟨cs,bs,qs,Iq,hl,M6,hb,Jt,Eb,hF,Gl,M3⟩:=Lf D3;refine⟨_::cs,(id,.ar false cc)::bs,(id,0)::qs.map (fun q=>(q.1,q.2+1)),Iq,by simp[hl],by simp[M6],by simp only[List.map_cons,hb];simp,?_,?_,?_,?_,fun w A own β' j0 us hβ ho=>?_⟩
   ·intro q hq q' En e;rcases List.mem_cons.1 hq with rfl|hq
    ·rcases List.mem_cons.1 En with rfl|En
     ·rfl
     ·obtain⟨q0,O3,rfl⟩:=List.mem_map.1 En;simp only at e;omega
    ·obtain⟨q0,O3,rfl⟩:=List.mem_map.1 hq;rcases List.mem_cons.1 En with rfl|En
     ·simp only at e;omega
     ·obtain⟨q1,Hf,rfl⟩:=List.mem_map.1 En;exact Jt q0 O3 q1 Hf (by simp only at e;omega)
   ·intro i bx hm;rcases List.mem_cons.1 hm with e|hm
    ·cases e;exact⟨cc,rfl⟩
    ·exact Eb i bx hm
   ·intro y hy;rcases List.mem_cons.1 hy with rfl|hy
    ·trivial
    ·exact hF y hy
   ·intro y hy i hi;rcases List.mem_cons.1 hy with rfl|hy
    ·simp only[Al,List.mem_singleton] at hi;subst hi;exact⟨_,List.mem_cons_self⟩
    ·obtain⟨bx,Ir⟩:=Gl y hy i hi;exact⟨bx,List.mem_cons_of_mem _ Ir⟩
   ·cases us with
    |nil=>exact ho.elim
    |cons u us=>
     obtain⟨h1,h2⟩:=M3 w A own β' (j0+1) us (fun q hq=>by rw[hβ _ (List.mem_cons_of_mem _ (List.mem_map_of_mem hq))];congr 1;simp only;omega) ho.2
     have h0:=hβ (id,0) List.mem_cons_self;simp only[Nat.add_zero] at h0;refine⟨⟨?_,h1⟩,fun i bx hm=>?_⟩
     ·rcases ho.1 with⟨h3,rfl,_,h5⟩|⟨b,ob,cap,h3,h4,h5,h6,h7,_⟩
      ·exact .inl ⟨h0.trans h3,rfl,rfl,h5⟩
      ·exact .inr ⟨b,ob,ob,cap,h0.trans h3,h4,.inl rfl,h5,h6,h7⟩
     ·rcases List.mem_cons.1 hm with e|hm
      ·cases e;exact R8 ho.1 h0
      ·exact h2 i bx hm
theorem Ab9 {i:Nat}{t:TypeId}{p:PV}{K:PV->List (Nat × Bk)->Option R} (hk:inK P N i t p K=some r):
  ∃v bs,∃qs:List (Nat × Nat),K v bs=some r∧bs.map (·.1)=qs.map (·.1)∧(∀q∈qs,∀q'∈qs,q.2=q'.2->q.1=q'.1)∧(Su p=true->(C5 N i,0)∈qs∧i<8) ∧
   (∀id bx,(id,bx)∈bs->Ct (some bx)∧∀c,bx=.st c->id=C5 N i∧Su p=true)∧(∀id∈Bq v,∃bx,(id,bx)∈bs)∧Ti bs ∧
   ∀(w:World) (A:Nat->Prop) (bt β':Bt) (u:Value),(∀q∈qs,β' q.1=bt q.2)->JT w A bt p u->Dt w A β' v u∧(∀id bx,(id,bx)∈bs->Mr w A β' id bx) ∧
    ∀id bx b o,(id,bx)∈bs->β' id=some (b,o)->∀j,BR bx o j->Ajs bt p b j:=by
 have owns:∀{bs:List (Nat × Bk)} {qs:List (Nat × Nat)},bs.map (·.1)=qs.map (·.1)->(∀i bx,(i,bx)∈bs->∃c,bx=.ar false c)->∀{bt β':Bt},(∀q∈qs,β' q.1=bt (1+q.2))->∀id bx b o,(id,bx)∈bs->β' id=some (b,o)->∀j,BR bx o j->∃k o',bt (k+1)=some (b,o')∧o'<=j:=by
  intro bs qs hb Eb bt β' hβ id bx b o hm CU j hj;have:id∈qs.map (·.1):=by rw[←hb];exact List.mem_map.2 ⟨_,hm,rfl⟩
  obtain⟨q,hq,rfl⟩:=List.mem_map.1 this;obtain⟨c,rfl⟩:=Eb _ _ hm;rw[hβ q hq,Nat.add_comm] at CU;exact⟨q.2,o,CU,hj⟩
 have nost:∀{bs:List (Nat × Bk)},(∀i bx,(i,bx)∈bs->∃c,bx=.ar false c)->Ti bs:=by
  intro bs Eb id cells hm;obtain⟨c,e⟩:=Eb id _ hm;cases e
 unfold inK at hk;split at hk
 ·rename_i e he;obtain⟨ps,rfl,Dn⟩:=BW hk;obtain⟨hi8,D3⟩:=Ai Dn;have hi8:i<8:=Nat.lt_of_succ_le (Nat.le_of_ble_eq_true hi8);obtain⟨cs,bs,qs,Iq,hl,M6,hb,Jt,Eb,hF,Gl,hv⟩:=Lf D3;refine⟨_,_,(C5 N i,0)::qs.map (fun q=>(q.1,q.2+1)),Iq,by simp only[List.map_cons,hb];simp,?_,fun _=>⟨List.mem_cons_self,hi8⟩,?_,?_,?_,fun w A bt β' u hβ hp=>?_⟩
  ·intro q hq q' En e;rcases List.mem_cons.1 hq with rfl|hq
   ·rcases List.mem_cons.1 En with rfl|En
    ·rfl
    ·obtain⟨q0,O3,rfl⟩:=List.mem_map.1 En;simp only at e;omega
   ·obtain⟨q0,O3,rfl⟩:=List.mem_map.1 hq;rcases List.mem_cons.1 En with rfl|En
    ·simp only at e;omega
    ·obtain⟨q1,Hf,rfl⟩:=List.mem_map.1 En;exact Jt q0 O3 q1 Hf (by simp only at e;omega)
  ·intro id bx hm;rcases List.mem_cons.1 hm with e|hm
   ·cases e;exact⟨trivial,fun _ _=>⟨rfl,rfl⟩⟩
   ·obtain⟨c,rfl⟩:=Eb id bx hm;exact⟨trivial,fun _ e=>by cases e⟩
  ·intro id Bf;simp only[Bq,B5,Al,List.mem_singleton] at Bf;subst Bf;exact⟨_,List.mem_cons_self⟩
  ·intro id cells hm c hc k hk;rcases List.mem_cons.1 hm with e|hm
   ·cases e;obtain⟨bx,Ir⟩:=Gl c hc k hk;exact⟨bx,List.mem_cons_of_mem _ Ir⟩
   ·obtain⟨c,e⟩:=Eb id _ hm;cases e
  ·obtain⟨b,o,h1,rfl,_,vs,h3,h4,h5⟩:=hp;have h0:=hβ (C5 N i,0) List.mem_cons_self;simp only at h0;have hβ1:∀q∈qs,β' q.1=bt (1+q.2):=fun q hq=>by rw[hβ _ (List.mem_cons_of_mem _ (List.mem_map_of_mem hq)),Nat.add_comm]
   obtain⟨h6,h7⟩:=hv w A bt β' 1 vs hβ1 h3;refine⟨⟨b,o,h0.trans h1,by simp⟩,fun id bx hm=>?_,fun id bx b' o' hm Gh j hj=>?_⟩
   ·rcases List.mem_cons.1 hm with e|hm
    ·cases e;refine⟨b,o,h0.trans h1,fun k c hk=>?_,fun k hk=>h5 k (by omega)⟩
     obtain⟨v,hv,FP⟩:=h6.get hk;exact⟨v,h4 k v hv,FP⟩
    ·exact h7 id bx hm
   ·rcases List.mem_cons.1 hm with e|hm
    ·cases e;rw[h0] at Gh;have hj:o'<=j∧j<o'+cs.length:=hj;exact .inr ⟨o',ps,Gh,hj.1,.inl ⟨rfl,by omega⟩⟩
    ·exact .inl (owns hb Eb hβ1 id bx b' o' hm Gh j hj)
 ·split at hk
  ·rename_i ps;obtain⟨e,he,Dn⟩:=B3 hk;obtain⟨hi8,D3⟩:=Ai Dn;have hi8:i<8:=Nat.lt_of_succ_le (Nat.le_of_ble_eq_true hi8);obtain⟨q,qr,hq,Iq⟩:=A5 D3;subst hq;obtain⟨T8,O7⟩:=C7 Iq;subst T8;unfold FM at O7;split at O7
   ·rename_i es' n c;cases hb:Nat.beq es' (A6 P e)<;>rw[hb] at O7
    ·cases O7
    ·have Pf:=Nat.eq_of_beq_eq_true hb;subst Pf;refine⟨_,_,[(C5 N i,0)],O7,rfl,by simp,fun _=>⟨by simp,hi8⟩,?_,?_,?_,fun w A bt β' u hβ hp=>?_⟩
     ·intro id bx hm;simp only[List.mem_singleton] at hm;cases hm;exact⟨trivial,fun _ e=>by cases e⟩
     ·intro id Bf;simp only[Bq,B5,Al,List.mem_singleton] at Bf;subst Bf;exact⟨_,List.mem_cons_self⟩
     ·intro id cells hm;simp only[List.mem_singleton] at hm;cases hm
     ·obtain⟨es,n',c',h1,h2⟩:=hp;cases h1;have h0:=hβ (C5 N i,0) List.mem_cons_self;simp only at h0;refine⟨?_,fun id bx hm=>?_,fun id bx b' o' hm Gh j hj=>?_⟩
      ·rcases h2 with⟨h3,rfl,_,h5⟩|⟨b,ob,cap,h3,h4,h5,h6,h7,_⟩
       ·exact .inl ⟨h0.trans h3,rfl,rfl,h5⟩
       ·exact .inr ⟨b,ob,ob,cap,h0.trans h3,h4,.inl rfl,h5,h6,h7⟩
      ·simp only[List.mem_singleton] at hm;cases hm;exact R8 h2 h0
      ·simp only[List.mem_singleton] at hm;cases hm;rw[h0] at Gh;exact .inr ⟨o',_,Gh,hj,.inr rfl⟩
   ·cases O7
  ·rename_i LP;cases Ep:Bw P t<;>rw[Ep] at hk
   ·simp only[cond_false] at hk;obtain⟨cs,bs,qs,Iq,hl,M6,hb,Jt,Eb,hF,Gl,hv⟩:=Lf hk;obtain⟨c,cs',Vq,O7⟩:=A5 Iq;subst Vq;obtain⟨T8,NS⟩:=C7 O7;subst T8;have hFc:=hF c (by simp)
    have ZO:Su p=false∨∃ps,p=.pbox ps:=by
     cases p<;>first|exact .inl rfl|exact .inr ⟨_,rfl⟩|exact absurd rfl (LP _)
    have hpb:∀ps,p ≠ .pbox ps:=by
     rintro ps rfl
     cases FJ:Gi P t with
     |nil=>rw[FJ] at M6;simp at M6
     |cons t' ts=>
      rw[FJ] at hk;unfold Ue Aac at hk;obtain⟨q,qs1,hq,Dn⟩:=A5 hk;cases hq;cases t'<;>simp[Tk,Pz,Aw,Ap,Ax,SK] at Dn
    have hpa:∀ps,p ≠ .agg ps:=by
     rintro ps rfl
     cases FJ:Gi P t with
     |nil=>rw[FJ] at M6;simp at M6
     |cons t' ts=>
      rw[FJ] at hk;unfold Ue Aac at hk;obtain⟨q,qs1,hq,Dn⟩:=A5 hk;cases hq;cases t'<;>simp[Tk,Pz,Aw,Ap,Ax,SK] at Dn
    have ZO:Su p=false:=ZO.elim id (fun ⟨ps,e⟩=>absurd e (hpb ps))
    have Pm:Bq c=Al c:=by cases c<;>first|rfl|exact hFc.elim
    refine⟨c,bs,qs.map (fun q=>(q.1,q.2+1)),NS,by rw[hb];simp,?_,(fun h=>by rw[ZO] at h;cases h),?_,fun id Bf=>Gl c (by simp) id (by rw[←Pm];exact Bf),nost Eb,fun w A bt β' u hβ hp=>?_⟩
    ·intro q hq q' En e;obtain⟨q0,O3,rfl⟩:=List.mem_map.1 hq;obtain⟨q1,Hf,rfl⟩:=List.mem_map.1 En;exact Jt q0 O3 q1 Hf (by simp only at e;omega)
    ·intro id bx hm;obtain⟨c,rfl⟩:=Eb id bx hm;exact⟨trivial,fun _ e=>by cases e⟩
    ·have Ck:E6 w A (bt 1) p u:=by cases p<;>first|exact hp.2|exact absurd rfl (hpa _)|exact absurd rfl (hpb _)|exact absurd rfl (LP _)
     have hβ1:∀q∈qs,β' q.1=bt (1+q.2):=fun q hq=>by rw[hβ _ (List.mem_map_of_mem hq),Nat.add_comm]
     obtain⟨h6,h7⟩:=hv w A bt β' 1 [u] hβ1 ⟨Ck,trivial⟩;refine⟨?_,h7,fun id bx b' o' hm Gh j hj=>.inl (owns hb Eb hβ1 id bx b' o' hm Gh j hj)⟩
     have h8:=h6.1;cases c<;>first|exact h8|exact hFc.elim
   ·simp only[cond_true] at hk;obtain⟨ps,Gf,Dn⟩:=F2 hk;subst Gf;obtain⟨cs,bs,qs,Iq,hl,M6,hb,Jt,Eb,hF,Gl,hv⟩:=Lf Dn;refine⟨_,bs,qs.map (fun q=>(q.1,q.2+1)),Iq,by rw[hb];simp,?_,(fun h=>by cases h),?_,fun id Bf=>?_,nost Eb,fun w A bt β' u hβ hp=>?_⟩
    ·intro q hq q' En e;obtain⟨q0,O3,rfl⟩:=List.mem_map.1 hq;obtain⟨q1,Hf,rfl⟩:=List.mem_map.1 En;exact Jt q0 O3 q1 Hf (by simp only at e;omega)
    ·intro id bx hm;obtain⟨c,rfl⟩:=Eb id bx hm;exact⟨trivial,fun _ e=>by cases e⟩
    ·obtain⟨c,hc,hi⟩:=List.mem_flatMap.1 (show id∈cs.flatMap Al from Bf)
     exact Gl c hc id hi
    ·obtain⟨vs,h1,_,h3⟩:=hp;have hβ1:∀q∈qs,β' q.1=bt (1+q.2):=fun q hq=>by rw[hβ _ (List.mem_map_of_mem hq),Nat.add_comm]
     obtain⟨h6,h7⟩:=hv w A bt β' 1 vs hβ1 h3;exact⟨⟨vs,h1,h6⟩,h7,fun id bx b' o' hm Gh j hj=>.inl (owns hb Eb hβ1 id bx b' o' hm Gh j hj)⟩
theorem HN:∀{ts:List TypeId}{i:Nat}{ps:List PV}{K:List (Nat × PV)->List (Nat × Bk)->Option R},YE P N i ts ps K=some r ->
  ∃tms bs,∃qs:List (Nat × Nat × Nat),K tms bs=some r∧bs.map (·.1)=qs.map (·.1)∧(∀q∈qs,i<=q.2.1)∧(∀q∈qs,∀q'∈qs,q.2=q'.2->q.1=q'.1) ∧
   (∀k p,ps[k]?=some p->Su p=true->(C5 N (i+k),i+k,0)∈qs∧i+k<8)∧(∀id bx,(id,bx)∈bs->Ct (some bx)∧∀c,bx=.st c->∃k p,ps[k]?=some p∧Su p=true∧id=C5 N (i+k)) ∧
   (∀j,∀id∈Bq (lk tms j),∃bx,(id,bx)∈bs)∧Ti bs ∧
   ∀(w:World) (A:Nat->Prop) (bt:Ss) (β':Bt) (us:List Value),(∀q∈qs,β' q.1=bt q.2.1 q.2.2)->Ie w A bt i ps us ->
    (∀j,(∃u,i<=j∧us[j-i]?=some u∧Dt w A β' (lk tms j) u)∨(lk tms j=.top∧(i<=j->us[j-i]?=none)))∧(∀id bx,(id,bx)∈bs->Mr w A β' id bx) ∧
    ∀id bx b o,(id,bx)∈bs->β' id=some (b,o)->∀j,BR bx o j->∃k p,ps[k]?=some p∧Ajs (bt (i+k)) p b j
 |[],i,ps,K,hk=>by
  obtain⟨Va,hk⟩:=C7 hk;subst Va;refine⟨[],[],[],hk,rfl,by simp,by simp,by simp,by simp,(fun j id Bf=>by cases Bf),(by intro i cells hm;cases hm),fun w A bt β' us _ h=>?_⟩
  cases us with
  |nil=>exact⟨fun j=>.inr ⟨rfl,fun _=>by simp⟩,by simp,by simp⟩
  |cons u us=>exact h.elim
 |t::ts,i,ps,K,hk=>by
  unfold YE at hk;obtain⟨p,ps',Va,Dn⟩:=A5 hk;subst Va;obtain⟨v,bs,qs,D3,hb,hqi,Yt,Ir,hr,MJ,hv⟩:=Ab9 Dn;obtain⟨tms,bs',qs',Iq,Gh,Ah3,As0,Ape,Aw6,hr',Ayg,Kr⟩:=HN D3;refine⟨(i,v)::tms,bs++bs',qs.map (fun q=>(q.1,i,q.2))++qs',Iq,by simp only[List.map_append,hb,Gh];simp,?_,?_,?_,?_,?_,?_,fun w A bt β' us hβ hp=>?_⟩
  ·intro q hq;rcases List.mem_append.1 hq with hq|hq
   ·obtain⟨q0,O3,rfl⟩:=List.mem_map.1 hq;exact Nat.le_refl _
   ·have:=Ah3 q hq;omega
  ·intro q hq q' En e;rcases List.mem_append.1 hq with hq|hq
   ·obtain⟨q0,O3,rfl⟩:=List.mem_map.1 hq;rcases List.mem_append.1 En with En|En
    ·obtain⟨q1,Hf,rfl⟩:=List.mem_map.1 En;simp only[Prod.mk.injEq,true_and] at e;exact hqi q0 O3 q1 Hf e
    ·have:=Ah3 q' En;rw[←e] at this;simp only at this;omega
   ·have h5:=Ah3 q hq;rcases List.mem_append.1 En with En|En
    ·obtain⟨q1,Hf,rfl⟩:=List.mem_map.1 En;rw[e] at h5;simp only at h5;omega
    ·exact As0 q hq q' En e
  ·intro k p' Iy hL;cases k with
   |zero=>
    simp only[List.getElem?_cons_zero,Option.some.injEq] at Iy;subst Iy;obtain⟨h1,h2⟩:=Yt hL;exact⟨List.mem_append.2 (.inl (List.mem_map.2 ⟨_,h1,rfl⟩)),h2⟩
   |succ k=>
    obtain⟨h1,h2⟩:=Ape k p' (by simpa using Iy) hL
    rw[show i+1+k=i+(k+1) by omega] at h1 h2
    exact⟨List.mem_append.2 (.inr h1),h2⟩
  ·intro id bx hm;rcases List.mem_append.1 hm with hm|hm
   ·obtain⟨h1,h2⟩:=Ir id bx hm;exact⟨h1,fun c hc=>⟨0,p,rfl,(h2 c hc).2,(h2 c hc).1⟩⟩
   ·obtain⟨h1,h2⟩:=Aw6 id bx hm;refine⟨h1,fun c hc=>?_⟩
    obtain⟨k,p',h3,h4,h5⟩:=h2 c hc;exact⟨k+1,p',by simpa using h3,h4,by rw[h5,show i+1+k=i+(k+1) by omega]⟩
  ·intro j id Bf;unfold lk at Bf;cases hbq:Nat.beq j i<;>rw[hbq] at Bf
   ·obtain⟨bx,h1⟩:=hr' j id Bf;exact⟨bx,List.mem_append.2 (.inr h1)⟩
   ·obtain⟨bx,h1⟩:=hr id Bf;exact⟨bx,List.mem_append.2 (.inl h1)⟩
  ·intro id cells hm c hc k hk;rcases List.mem_append.1 hm with hm|hm
   ·obtain⟨bx,h1⟩:=MJ id cells hm c hc k hk;exact⟨bx,List.mem_append.2 (.inl h1)⟩
   ·obtain⟨bx,h1⟩:=Ayg id cells hm c hc k hk;exact⟨bx,List.mem_append.2 (.inr h1)⟩
  ·cases us with
   |nil=>exact hp.elim
   |cons u us=>
    obtain⟨h1,h2,h3⟩:=hv w A (bt i) β' u (fun q hq=>hβ _ (List.mem_append.2 (.inl (List.mem_map_of_mem hq)))) hp.1
    obtain⟨EY,h2',h3'⟩:=Kr w A bt β' us (fun q hq=>hβ q (List.mem_append.2 (.inr hq))) hp.2
    refine⟨fun j=>?_,fun id bx hm=>?_,fun id bx b o hm CU j hj=>?_⟩
    ·unfold lk;cases hbq:Nat.beq j i
     ·have D8:=Jg hbq;simp only[cond_false];rcases EY j with⟨u',h4,h5,h6⟩|⟨h4,h5⟩
      ·refine .inl ⟨u',by omega,?_,h6⟩
       rw[show j-i=(j-(i+1))+1 by omega]
       simpa using h5
      ·refine .inr ⟨h4,fun hij=>?_⟩
       rw[show j-i=(j-(i+1))+1 by omega]
       simpa using h5 (by omega)
     ·have:=Nat.eq_of_beq_eq_true hbq;subst this;exact .inl ⟨u,Nat.le_refl _,by simp,h1⟩
    ·rcases List.mem_append.1 hm with hm|hm
     ·exact h2 id bx hm
     ·exact h2' id bx hm
    ·rcases List.mem_append.1 hm with hm|hm
     ·exact⟨0,p,rfl,h3 id bx b o hm CU j hj⟩
     ·obtain⟨k,p',h4,h5⟩:=h3' id bx b o hm CU j hj;exact⟨k+1,p',by simpa using h4,by rw[show i+(k+1)=i+1+k by omega];exact h5⟩
def MF (bt:Ss)(args:List PV)(h8:∀k p,args[k]?=some p->Su p=true->k<8):Gg:=
 ⟨RN bt,Wu bt args,fun i=>∃p,args[i]?=some p∧Su p=true,fun i=>bt i 0,fun i ⟨p,h1,h2⟩=>h8 i p h1 h2⟩
theorem SI {ts:List TypeId}{args:List PV}{us:List Value}{bt:Ss}{K:List (Nat × PV)->List (Nat × Bk)->Option R} (Xe:Ins w Y bt args us)(hk:YE P N 0 ts args K=some r):
  ∃tms bs,K tms bs=some r∧(Bn (fun _=>none) bs=true->us.length<=N->∃(h8:∀k p,args[k]?=some p->Su p=true->k<8),∃β0,
   Cj N w (MF bt args h8) Y β0 ⟨lk tms,Kn bs⟩ { tmps:=us.toArray++Array.replicate (N-us.toArray.size) undef,defers:=[] } w):=by
 obtain⟨tms,bs,qs,Dn,hb,O3,hqi,Yt,Ir,hr,MJ,hv⟩:=HN hk;refine⟨tms,bs,Dn,fun K8 hN=>?_⟩
 have LC:=Mj K8
 have h8:∀k p,args[k]?=some p->Su p=true->k<8:=fun k p h1 h2=>by
  have:=(Yt k p h1 h2).2;omega
 have Y3:(qs.map (·.1)).Nodup:=by rw[←hb];exact LC
 obtain⟨β0,hβ0⟩:∃β0:Bt,∀q∈qs,β0 q.1=bt q.2.1 q.2.2:=by
  have:∀(l:List (Nat × Nat × Nat)),(l.map (·.1)).Nodup->∃β0:Bt,∀q∈l,β0 q.1=bt q.2.1 q.2.2:=by
   intro l
   induction l with
   |nil=>intro _;exact⟨fun _=>none,by simp⟩
   |cons q l ih=>
    intro hn;simp only[List.map_cons,List.nodup_cons] at hn;obtain⟨b1,h1⟩:=ih hn.2;refine⟨Cg b1 q.1 (bt q.2.1 q.2.2),fun q' En=>?_⟩
    rcases List.mem_cons.1 En with rfl|En
    ·exact Ak _ _ _
    ·have D8:q'.1≠q.1:=fun e=>hn.1 (by rw[←e];exact List.mem_map.2 ⟨q',En,rfl⟩)
     rw[Ah _ _ D8];exact h1 q' En
  exact this qs Y3
 refine⟨h8,β0,?_⟩;obtain⟨hs,FK,hL⟩:=hv w _ bt β0 us hβ0 Xe.args
 have hqm:∀id bx,(id,bx)∈bs->∃ik,(id,ik)∈qs∧β0 id=bt ik.1 ik.2:=by
  intro id bx hm;have:id∈qs.map (·.1):=by rw[←hb];exact List.mem_map.2 ⟨_,hm,rfl⟩
  obtain⟨q,hq,rfl⟩:=List.mem_map.1 this;exact⟨q.2,hq,hβ0 q hq⟩
 have hX:∀b,EF (Kn bs) β0 b->RN bt b:=by
  rintro b ⟨id,o,hl,hβ⟩
  cases hq:Kn bs id with
  |none=>rw[hq] at hl;exact hl.elim
  |some bx=>
   obtain⟨ik,_,h2⟩:=hqm id bx (Jl hq);rw[h2] at hβ;exact⟨_,_,_,hβ⟩
 have hA:∀b,Cu (Kn bs) β0 Y b->RN bt b∨Y b:=fun b hb=>hb.imp (hX b) id
 have Aa6:∀{p:PV} {u:Value},Dt w (fun b=>RN bt b∨Y b) β0 p u->Dt w (Cu (Kn bs) β0 Y) β0 p u:=fun h=>h.step (B1.refl _ _) (fun b _=>hA b) (fun _ _=>rfl)
 refine⟨rfl,by simp;omega,fun i hi=>?_,fun i hi=>?_,?_,?_,?_,fun i hi id Bf=>?_,?_,fun b hb=>.inl (hX b hb),?_,?_,?_,fun b hY hXb=>Xe.Yx b hY (hX b hXb),Xe.Ylt,⟨rfl,rfl,rfl,B1.refl _ _,fun _ _ _ _=>⟨rfl,rfl⟩⟩⟩
 ·rcases hs i with⟨u,_,h,_⟩|⟨h,_⟩
  ·rw[Nat.sub_zero,List.getElem?_eq_none (by omega)] at h;cases h
  ·exact h
 ·rcases hs i with⟨u,_,h,hv⟩|⟨h,h'⟩
  ·rw[Nat.sub_zero] at h
   have B2:i<us.length:=by
    rcases Nat.lt_or_ge i us.length with h'|h'
    ·exact h'
    ·rw[List.getElem?_eq_none h'] at h;cases h
   have:(us.toArray++Array.replicate (N-us.toArray.size) undef).getD i undef=u:=by
    rw[Array.getD_eq_getD_getElem?,Array.getElem?_append_left (by simpa using B2)]
    simp[h]
   show Dt w _ _ _ ((us.toArray++Array.replicate (N-us.toArray.size) undef).getD i undef);rw[this];exact Aa6 hv
  ·show Dt w _ _ (lk tms i) _;rw[h];exact Aq.top _
 ·intro id bx hq;exact (FK id bx (Jl hq)).step' hA
 ·intro id id' b o o' hl Hw hβ hβ';cases hq:Kn bs id with
  |none=>change Ct (Kn bs id) at hl;rw[hq] at hl;exact hl.elim
  |some bx=>
   cases En:Kn bs id' with
   |none=>change Ct (Kn bs id') at Hw;rw[En] at Hw;exact Hw.elim
   |some bx'=>
    obtain⟨ik,h1,h2⟩:=hqm id bx (Jl hq);obtain⟨ik',EY,h2'⟩:=hqm id' bx' (Jl En);rw[h2] at hβ;rw[h2'] at hβ';obtain⟨h3,h4⟩:=Xe.inj _ _ _ _ b o o' hβ hβ';exact hqi _ h1 _ EY (Prod.ext h3 h4)
 ·intro id b o hn hβ;cases hq:Kn bs id with
  |none=>exact absurd hq hn
  |some bx=>
   obtain⟨ik,h1,h2⟩:=hqm id bx (Jl hq);rw[h2] at hβ;exact Xe.lt b ⟨_,_,_,hβ⟩
 ·obtain⟨bx,hm⟩:=hr i id Bf;show Kn bs id≠none;rw[DY LC hm];simp
 ·intro id cells hq c hc k hk;obtain⟨bx,hm⟩:=MJ id cells (Jl hq) c hc k hk;show Kn bs k≠none;rw[DY LC hm];simp
 ·intro id bx b o hq hl hβ _ j hj;obtain⟨k,p,h1,h2⟩:=hL id bx b o (Jl hq) hβ j hj;rw[Nat.zero_add] at h2;exact⟨k,p,h1,h2⟩
 ·rintro i ⟨p,h1,h2⟩
  have h3:=(Yt i p h1 h2).1;rw[Nat.zero_add] at h3;refine⟨?_,hβ0 _ h3⟩;have:C5 N i∈bs.map (·.1):=by rw[hb];exact List.mem_map.2 ⟨_,h3,rfl⟩
  obtain⟨⟨id,bx⟩,hm,e⟩:=List.mem_map.1 this;show Kn bs (C5 N i)≠none;rw[←e,DY LC hm];simp
 ·intro id c b o hq _ _;obtain⟨k,p,h1,h2,h3⟩:=(Ir id _ (Jl hq)).2 c rfl;rw[Nat.zero_add] at h3;exact⟨k,h3,p,h1,h2⟩
end
open Go.RowKit
def Ig (β:Bt)(l:List (Option Nat)) (j:Nat):Option (Nat × Nat):=((l[j]?).bind id).bind β
section
variable {R:Type} {r:R} {P:Program} {N:Nat} {w0:World} {X0:Gg} {Y:Nat->Prop} {β β':Bt} {s:St} {a:Act} {w w':World} {A:Nat->Prop}
def VO (s:St)(l:List (Option Nat)):Prop:=∀id,some id∈l->Ct (s.hp id)
def I9 (s:St)(z:List Nat):Prop:=∀id∈z,∃f c,s.hp id=some (.ar f c)
theorem AE (h : Cj N w0 X0 Y β s a w) {shr : Bool} {t : CT} {p : PV} {K : PV -> List Nat -> List Nat -> Option R} (hk : PH shr s.hp t p K = some r) :
    ∃ c q z, K c (Option.toList q) z = some r ∧ (∀ x, c ≠ .agg x ∧ c ≠ .pbox x) ∧ Zy p ∧ (∀ id, q = some id -> ∃ c, s.hp id = some (.ar false c)) ∧ I9 s z ∧
      ∀ (fz : List Nat) A u, (∀ i ∈ z, i ∈ fz) -> I9 s fz -> (∀ b, A b -> Cu (Ae s.hp fz) β Y b) -> Bs w (Cu s.hp β Y) β p u -> E6 w A (q.bind β) c u := by
  have notree : ∀ {c : PV}, Ps c -> ∀ x, c ≠ .agg x ∧ c ≠ .pbox x := fun hT x => ⟨Sd hT x, by rintro rfl; exact hT⟩
  unfold PH at hk
  cases shr <;> simp only[cond_true, cond_false] at hk
  · have tree : ∀ t', (∀ es, t' ≠ .sl es) -> (Tk t' p fun c => K c [] []) = some r -> ∃ c q z, K c (Option.toList q) z = some r ∧ (∀ x, c ≠ .agg x ∧ c ≠ .pbox x) ∧ Zy p ∧ (∀ id, q = some id -> ∃ c, s.hp id = some (.ar false c)) ∧ I9 s z ∧
        ∀ (fz : List Nat) A u, (∀ i ∈ z, i ∈ fz) -> I9 s fz -> (∀ b, A b -> Cu (Ae s.hp fz) β Y b) -> Bs w (Cu s.hp β Y) β p u -> E6 w A (q.bind β) c u := by
      intro t' D8 hk
      obtain⟨c, Dn, hT, Wz, hv⟩ := Jf hk
      refine⟨c, none, [], Dn, notree hT, Ma Wz, by simp, (by intro i hi; cases hi), fun fz A u _ _ hA hc => Hv hT ?_⟩
      exact (hv w _ β u hc).1.step (B1.refl _ _) (fun b _ hb => Jw (hA b hb))
    unfold Afd at hk
    cases t with
    | sl es =>
      dsimp only at hk
      split at hk
      · rename_i id es' off n
        cases hb : (Nat.beq es' es && Nat.beq off 0) <;> rw[hb] at hk
        · cases hk
        · simp only[Bool.and_eq_true] at hb
          have he := Nat.eq_of_beq_eq_true hb.1
          have ho := Nat.eq_of_beq_eq_true hb.2
          subst he ho
          simp only[cond_true] at hk
          split at hk
          · rename_i c h0
            obtain⟨hl, Dn⟩ := Ai hk
            refine⟨_, some id, [], Dn, by simp, trivial, fun i hi => by cases hi; exact⟨c, h0⟩, (by intro i hi; cases hi), fun fz A u _ _ hA hc => ?_⟩
            rcases hc with⟨h1, _, rfl, h4⟩ | ⟨b, o, x, cap, h1, h2, hx, h3, h4, h5⟩
            · exact .inl ⟨h1, rfl, by simp, h4⟩
            · have hx : x = o := by rcases hx with e | ⟨_, e⟩ <;> omega
              subst hx
              rcases h.box id _ h0 with⟨h6, _⟩ | ⟨b', o', h6, h7, h8, _⟩
              · rw[h1] at h6; cases h6
              · rw[h1] at h6
                cases h6
                refine .inr ⟨b, x, cap, h1, h2, h3, h4, h5, fun j q hq => ?_, fun j hj M8 => h8 rfl j hj M8⟩
                rw[List.getElem?_take] at hq
                split at hq
                · obtain⟨v, hv, h9, ht⟩ := h7 j q hq
                  exact⟨v, hv, h9, ht.step (B1.refl _ _) (fun b _ hb => Jw (hA b hb))⟩
                · cases hq
          · cases hk
      · obtain⟨z, n, c, Dn, hp⟩ := Eh hk
        obtain⟨hz, D3⟩ := Ai Dn
        subst hz
        have hpF : Zy p := by rcases hp with e | ⟨e, _⟩ <;> (rw[e]; trivial)
        refine⟨_, none, [], D3, by simp, hpF, by simp, (by intro i hi; cases hi), fun fz A u _ _ _ hc => ?_⟩
        have hu : u = .slice none 0 0 := by
          rcases hp with rfl | ⟨rfl, _⟩
          · cases hc; rfl
          · exact Aq.val hc
        exact .inl ⟨rfl, rfl, rfl, none, hu⟩
    | int k => exact tree _ (by simp) hk
    | bool => exact tree _ (by simp) hk
    | str => exact tree _ (by simp) hk
    | any => exact tree _ (by simp) hk
  · obtain⟨c, m, Dn, hT, hF, hm, hv⟩ := Yp h hk
    exact⟨c, none, m, Dn, notree hT, hF, by simp, hm, fun fz A u h1 h2 hA hc => Hv hT ((hv fz h1 h2 u hc).1.step (B1.refl _ _) (fun b _ hb => hA b hb))⟩
structure Vk (s:St) (β:Bt) (Y:Nat->Prop) (w:World) (cs:List PV) (l:List (Option Nat)) (z:List Nat) (ps:List PV):Prop where
 len:l.length=cs.length
 pl:cs.length=ps.length
 na:∀c∈cs,∀x,c ≠ .agg x∧c ≠ .pbox x
 fr:∀p∈ps,Zy p
 own:∀id,some id∈l->∃c,s.hp id=some (.ar false c)
 row:I9 s z
 sem:∀(fz:List Nat) A us,(∀i∈z,i∈fz)->I9 s fz->(∀b,A b->Cu (Ae s.hp fz) β Y b)->Bc (Bs w (Cu s.hp β Y) β) ps us->∀own j0,(∀j,j<l.length->own (j0+j)=Ig β l j)->D2 w A own j0 cs us
theorem Vk.nil:Vk s β Y w [] [] [] []:=⟨rfl,rfl,by simp,by simp,by simp,(by intro i hi;cases hi),fun fz A us _ _ _ hu own j0 _=>by
 cases us with
 |nil=>trivial
 |cons u us=>exact hu.elim⟩
theorem Vk.cons {c p:PV}{q:Option Nat}{z zs:List Nat}{cs ps:List PV}{l:List (Option Nat)} (Tq:∀x,c ≠ .agg x∧c ≠ .pbox x)(hF:Zy p)(hq:∀id,q=some id->∃c,s.hp id=some (.ar false c)) (hz:I9 s z)
  (hv:∀(fz:List Nat) A u,(∀i∈z,i∈fz)->I9 s fz->(∀b,A b->Cu (Ae s.hp fz) β Y b)->Bs w (Cu s.hp β Y) β p u->E6 w A (q.bind β) c u) (H:Vk s β Y w cs l zs ps):Vk s β Y w (c::cs) (q::l) (z++zs) (p::ps):=by
 refine⟨by simp[H.len],by simp[H.pl],?_,?_,?_,?_,fun fz A us KF K0 hA hu own j0 E2=>?_⟩
 ·intro x hx;rcases List.mem_cons.1 hx with rfl|hx
  ·exact Tq
  ·exact H.na x hx
 ·intro x hx;rcases List.mem_cons.1 hx with rfl|hx
  ·exact hF
  ·exact H.fr x hx
 ·intro id Bf;rcases List.mem_cons.1 Bf with e|Bf
  ·exact hq id e.symm
  ·exact H.own id Bf
 ·intro i hi;rcases List.mem_append.1 hi with hi|hi
  ·exact hz i hi
  ·exact H.row i hi
 ·cases us with
  |nil=>exact hu.elim
  |cons u us=>
   have h0:=E2 0 (by simp)
   rw[Nat.add_zero] at h0;refine⟨?_,H.sem fz A us (fun i hi=>KF i (by simp[hi])) K0 hA hu.2 own (j0+1) fun j hj=>?_⟩
   ·rw[h0];exact hv fz A u (fun i hi=>KF i (by simp[hi])) K0 hA hu.1
   ·have:=E2 (j+1) (by simp;omega)
    rw[show j0+1+j=j0+(j+1) by omega,this]
    simp[Ig]
theorem Mh (h:Cj N w0 X0 Y β s a w){shr:Bool}:∀{ts:List CT}{ps:List PV}{K:List PV->List Nat->List Nat->Option R},S6 shr s.hp ts ps K=some r ->
  ∃cs l z,K cs (l.filterMap id) z=some r∧Vk s β Y w cs l z ps
 |[],[],K,hk=>⟨[],[],[],hk,Vk.nil⟩
 |[],_::_,K,hk=>by cases hk
 |_::_,[],K,hk=>by cases hk
 |t::ts,p::ps,K,hk=>by
  unfold S6 at hk;obtain⟨c,q,z,Dn,Tq,hF,hq,hz,hv⟩:=AE h hk;obtain⟨cs,l,zs,D3,H⟩:=Mh h Dn;refine⟨c::cs,q::l,z++zs,?_,Vk.cons Tq hF hq hz hv H⟩;cases q<;>exact D3
theorem Uz (h:Cj N w0 X0 Y β s a w):∀{ts:List CT}{ws ps:List PV}{K:List PV->List Nat->List Nat->Option R},Vx s.hp ts ws ps K=some r ->
  ∃cs l z,K cs (l.filterMap id) z=some r∧cs.length=ws.length∧Vk s β Y w cs l z ps
 |[],[],[],K,hk=>⟨[],[],[],hk,rfl,Vk.nil⟩
 |[],_::_,_,K,hk=>by cases hk
 |[],[],_::_,K,hk=>by cases hk
 |_::_,[],_,K,hk=>by cases hk
 |_::_,_::_,[],K,hk=>by cases hk
 |t::ts,x::ws,p::ps,K,hk=>by
  unfold Vx at hk;obtain⟨c,q,z,Dn,Tq,hF,hq,hz,hv⟩:=AE h hk;obtain⟨cs,l,zs,D3,hl,H⟩:=Uz h Dn;refine⟨c::cs,q::l,z++zs,?_,by simp[hl],Vk.cons Tq hF hq hz hv H⟩
  cases q<;>exact D3
theorem NC {own:Bt}{zz j:Nat}{p:PV}{u:Value}(hp:∀x,p ≠ .agg x∧p ≠ .pbox x)(h:D2 w A own j [p] [u]):Ad4 w A own zz j p u:=by
 cases p<;>first|exact h.1|exact absurd rfl (hp _).1|exact absurd rfl (hp _).2
theorem PZ (h:Cj N w0 X0 Y β s a w){id b o:Nat}{c cs:List PV}{l:List (Option Nat)} {z:List Nat}(h0:s.hp id=some (.st c)) (hβ:β id=some (b,o)) (H:Vk s β Y w cs l z c){fz:List Nat}{A:Nat->Prop}(h1:∀i∈z,i∈fz)(h2:I9 s fz)(hA:∀b,A b->Cu (Ae s.hp fz) β Y b)
  {own:Bt} {j0:Nat} (E2:∀j,j<l.length->own (j0+j)=Ig β l j):WN w A own j0 b o cs:=by
 obtain⟨b',o',Eb,Gl,Qr⟩:=h.box id _ h0;rw[hβ] at Eb;cases Eb;refine⟨c.mapIdx (fun j _=>(w.cell? ⟨b,o+j,none⟩).getD undef),H.sem fz A _ h1 h2 hA ?_ own j0 E2,?_,fun k hk=>Qr k (by have:=H.pl;omega)⟩
 ·refine Bc.of_at (by simp) fun j p v hp hv=>?_
  obtain⟨u,hu,FP⟩:=Gl j p hp;rw[List.getElem?_mapIdx,hp,Option.map_some,hu] at hv;simp at hv;subst hv;exact FP
 ·intro k v ST;rw[List.getElem?_mapIdx] at ST;cases hp:c[k]? with
  |none=>rw[hp] at ST;cases ST
  |some p=>
   obtain⟨u,hu,FP⟩:=Gl k p hp;rw[hp,Option.map_some,hu] at ST;simp at ST;subst ST;exact hu
theorem SH (h:Cj N w0 X0 Y β s a w){shr:Bool}{t:TypeId}{p:PV}{u:Value}(hp:Dt w (Cu s.hp β Y) β p u) {K:PV->List Nat->List Nat->Option R}(hk:WX P shr s.hp t p K=some r):
  ∃v l z,K v (l.filterMap id) z=some r∧l.length=QQ v∧VO s l∧I9 s z ∧
   ∀(fz:List Nat) A zz,(∀i∈z,i∈fz)->I9 s fz->(∀b,A b->Cu (Ae s.hp fz) β Y b)->(∀id c b o,some id∈l->s.hp id=some (.st c)->β id=some (b,o)->zz<=b) ->
    ∀own j0,(∀j,j<l.length->own (j0+j)=Ig β l j)->Ad4 w A own zz j0 v u:=by
 unfold WX at hk;split at hk
 ·rename_i e he;split at hk
  ·rename_i id off;split at hk
   ·rename_i c h0;obtain⟨hof,Dn⟩:=Ai hk;have hof:=Nat.eq_of_beq_eq_true hof;subst hof;obtain⟨cs,l,z,D3,H⟩:=Mh h Dn;obtain⟨b,o,hβ,hu⟩:=hp;refine⟨.pbox cs,some id::l,z,D3,by simp only[QQ,List.length_cons,H.len];omega,?_,H.row,fun fz A zz h1 h2 hA hz own j0 E2=>?_⟩
    ·intro i hi;rcases List.mem_cons.1 hi with e|hi
     ·cases e;rw[h0];trivial
     ·obtain⟨c',Mi⟩:=H.own i hi;rw[Mi];trivial
    ·have h3:=E2 0 (by simp)
     rw[Nat.add_zero] at h3;refine⟨b,o,by rw[h3];exact hβ,hz id c b o (by simp) h0 hβ,by rw[hu,Nat.add_zero],PZ h h0 hβ H h1 h2 hA fun j hj=>?_⟩
     have:=E2 (j+1) (by simp;omega)
     rw[show j0+1+j=j0+(j+1) by omega,this]
     simp[Ig]
   ·cases hk
  ·cases hk
 ·cases Ep:Bw P t<;>rw[Ep] at hk<;>simp only[cond_true,cond_false] at hk
  ·obtain⟨cs,l,z,Dn,H⟩:=Mh h hk;obtain⟨c,cs',Vq,D3⟩:=A5 Dn;subst Vq;obtain⟨T8,Iq⟩:=C7 D3;subst T8;have Tq:=H.na c (by simp)
   have Y6:QQ c=1:=by cases c<;>first|rfl|exact absurd rfl (Tq _).1|exact absurd rfl (Tq _).2
   have hF:=H.fr p (by simp)
   refine⟨c,l,z,Iq,by rw[Y6];exact H.len,fun i hi=>?_,H.row,fun fz A zz h1 h2 hA _ own j0 E2=>NC Tq (H.sem fz A [u] h1 h2 hA ⟨?_,trivial⟩ own j0 E2)⟩
   ·obtain⟨c',Mi⟩:=H.own i hi;rw[Mi];trivial
   ·cases p<;>first|exact hp|exact hF.elim
  ·obtain⟨ps,Va,Dn⟩:=F2 hk;subst Va;obtain⟨cs,l,z,D3,H⟩:=Mh h Dn;obtain⟨vs,hu,M3⟩:=hp;refine⟨.agg cs,l,z,D3,H.len,fun i hi=>?_,H.row,fun fz A zz h1 h2 hA _ own j0 E2=>⟨vs,hu,H.sem fz A vs h1 h2 hA M3 own j0 E2⟩⟩
   obtain⟨c',Mi⟩:=H.own i hi;rw[Mi];trivial
def EE (P:Program)(tmps:Array Value)(w:World)(rv:ResultVar)(u:Value):Prop:=
  (match rv with
   |.tmp t=>(pure (tmps.getD t undef):Sem Value)
   |.cell a t=>do loadVar t (←asAddr (tmps.getD a undef))).run P w=.ok u w
theorem US (h:Cj N w0 X0 Y β s a w)(t:Nat):Dt w (Cu s.hp β Y) β (s.tm t) (a.tmps.getD t undef):=by
 rcases Nat.lt_or_ge t N with h'|h'
 ·exact h.tms t h'
 ·rw[h.tmo t h'];exact Aq.top _
theorem SE (h:Cj N w0 X0 Y β s a w){rv:ResultVar}{K:PV->Option R}(hk:VL P s rv K=some r):∃p u,K p=some r∧EE P a.tmps w rv u∧Dt w (Cu s.hp β Y) β p u:=by
 unfold VL at hk;split at hk
 ·rename_i t;exact⟨_,_,hk,rfl,US h t⟩
 ·rename_i x t;obtain⟨v,ad,val,Dn,Cw,hl,hv,_⟩:=JC h (US h x) hk;refine⟨v,val,Dn,?_,hv⟩;unfold EE;simp[Cw,asAddr,hl]
theorem Qb {l l':List (Option Nat)} {j:Nat}(h:j<l.length):Ig β (l++l') j=Ig β l j:=by
 unfold Ig;rw[List.getElem?_append_left h]
theorem Qs {l l':List (Option Nat)} {j:Nat}:Ig β (l++l') (l.length+j)=Ig β l' j:=by
 unfold Ig;rw[List.getElem?_append_right (by omega),Nat.add_sub_cancel_left]
theorem X7 (h:Cj N w0 X0 Y β s a w){shr:Bool}:∀{rs:List ResultVar}{ts:List TypeId}{K:List PV->List Nat->List Nat->Option R},CZ P shr s rs ts K=some r ->
  ∃vs l z us,K vs (l.filterMap id) z=some r∧Bc (EE P a.tmps w) rs us∧l.length=Iz vs∧VO s l∧I9 s z ∧
   ∀(fz:List Nat) A zz,(∀i∈z,i∈fz)->I9 s fz->(∀b,A b->Cu (Ae s.hp fz) β Y b)->(∀id c b o,some id∈l->s.hp id=some (.st c)->β id=some (b,o)->zz<=b) ->
    ∀own j0,(∀j,j<l.length->own (j0+j)=Ig β l j)->Z7 w A own zz j0 vs us
 |[],[],K,hk=>⟨[],[],[],[],hk,trivial,rfl,(by intro id Bf;cases Bf),(by intro id Bf;cases Bf),fun _ _ _ _ _ _ _ _ _ _=>trivial⟩
 |[],_::_,K,hk=>by cases hk
 |_::_,[],K,hk=>by cases hk
 |rv::rs,t::ts,K,hk=>by
  unfold CZ at hk;obtain⟨p,u,Dn,hu,hp⟩:=SE h hk;obtain⟨v,l,z,D3,hl,hL,hz,hv⟩:=SH h hp Dn;obtain⟨vs,l',z',us,Iq,UP,Hw,TN,RY,M3⟩:=X7 h D3;refine⟨v::vs,l++l',z++z',u::us,?_,⟨hu,UP⟩,by simp only[List.length_append,Iz,List.map_cons,List.sum_cons,hl];rw[Hw];rfl,?_,?_,fun fz A zz h1 h2 hA Ey own j0 E2=>⟨?_,?_⟩⟩
  ·rw[List.filterMap_append];exact Iq
  ·intro id Bf;rcases List.mem_append.1 Bf with Bf|Bf
   ·exact hL id Bf
   ·exact TN id Bf
  ·intro id Bf;rcases List.mem_append.1 Bf with Bf|Bf
   ·exact hz id Bf
   ·exact RY id Bf
  ·exact hv fz A zz (fun i hi=>h1 i (by simp[hi])) h2 hA (fun id c b o hi=>Ey id c b o (by simp[hi])) own j0 fun j hj=>by rw[E2 j (by simp;omega),Qb hj]
  ·refine M3 fz A zz (fun i hi=>h1 i (by simp[hi])) h2 hA (fun id c b o hi=>Ey id c b o (by simp[hi])) own (j0+QQ v) fun j hj=>?_
   rw[←hl,Nat.add_assoc,E2 (l.length+j) (by simp;omega),Qs]
theorem Ml (h:Cj N w0 X0 Y β s a w){bt:Ss}(hpt:∀i,X0.pt i=bt i 0):∀{ts:List TypeId}{i:Nat}{ps:List PV}{K:List (List PV)->List Nat->List Nat->List Nat->Option R},Sz P N s.hp i ts ps K=some r ->
  (∀k p,ps[k]?=some p->Su p=true->X0.pn (i+k)) ->
  ∃os l z q,K os (l.filterMap id) z q=some r∧(∀id,some id∈l->∃c,s.hp id=some (.ar false c))∧I9 s z∧(∀id∈q,Ct (s.hp id))∧(∀k p,ps[k]?=some p->Su p=true->C5 N (i+k)∈q) ∧
   ∀(fz:List Nat) A,(∀i∈z,i∈fz)->I9 s fz->(∀i∈q,i ∉ fz)->(∀b,A b->Cu (Ae s.hp fz) β Y b) ->
    ∀own j0,(∀j,j<l.length->own (j0+j)=Ig β l j)->Px w A own bt j0 i ps os
 |[],i,ps,K,hk,_=>by
  obtain⟨Va,hk⟩:=C7 hk;subst Va;exact⟨[],[],[],[],hk,by simp,(by intro id Bf;cases Bf),by simp,by simp,fun _ _ _ _ _ _ _ _ _=>rfl⟩
 |t::ts,i,ps,K,hk,hpn=>by
  unfold Sz at hk;obtain⟨p,ps',Va,Dn⟩:=A5 hk;subst Va
  have Air:∀k p,ps'[k]?=some p->Su p=true->X0.pn (i+1+k):=fun k p' h1 h2=>by
   have:=hpn (k+1) p' (by simpa using h1) h2
   rw[show i+1+k=i+(k+1) by omega]
   exact this
  have hpq:∀{q:List Nat},(Su p=true->C5 N i∈q)->(∀k p,ps'[k]?=some p->Su p=true->C5 N (i+1+k)∈q)->∀k p',(p::ps')[k]?=some p'->Su p'=true->C5 N (i+k)∈q:=by
   intro q h1 h2 k p' h3 h4;cases k with
   |zero=>
    simp only[List.getElem?_cons_zero,Option.some.injEq] at h3;subst h3;exact h1 h4
   |succ k=>
    have:=h2 k p' (by simpa using h3) h4
    rw[show i+1+k=i+(k+1) by omega] at this
    exact this
  split at Dn
  ·rename_i ws;obtain⟨e,he,D3⟩:=B3 Dn;split at D3
   ·rename_i c h0;obtain⟨cs,l,z,Iq,Jp,H⟩:=Uz h D3;obtain⟨os,l',z',q,O7,TN,RY,En,hpi,hv⟩:=Ml h hpt Iq Air;refine⟨cs::os,l++l',z++z',C5 N i::q,by rw[List.filterMap_append];exact O7,?_,?_,?_,hpq (fun _=>List.mem_cons_self) (fun k p h1 h2=>List.mem_cons_of_mem _ (hpi k p h1 h2)),fun fz A h1 h2 h3 hA own j0 E2=>?_⟩
    ·intro id Bf;rcases List.mem_append.1 Bf with Bf|Bf
     ·exact H.own id Bf
     ·exact TN id Bf
    ·intro id Bf;rcases List.mem_append.1 Bf with Bf|Bf
     ·exact H.row id Bf
     ·exact RY id Bf
    ·intro id Bf;rcases List.mem_cons.1 Bf with rfl|Bf
     ·rw[h0];trivial
     ·exact En id Bf
    ·have Yt:=(h.pin i (by have:=hpn 0 _ rfl rfl;rwa [Nat.add_zero] at this)).2
     obtain⟨b,o,Eb,_,_⟩:=h.box _ _ h0;rw[Eb,hpt] at Yt;refine⟨⟨b,o,Yt.symm,Jp,PZ h h0 Eb H (fun i hi=>h1 i (by simp[hi])) h2 hA fun j hj=>by rw[E2 j (by simp;omega),Qb hj]⟩,?_⟩
     refine hv fz A (fun i hi=>h1 i (by simp[hi])) h2 (fun i hi=>h3 i (by simp[hi])) hA own (j0+cs.length) fun j hj=>?_
     rw[←H.len,Nat.add_assoc,E2 (l.length+j) (by simp;omega),Qs]
   ·cases D3
  ·split at Dn
   ·rename_i c h0;obtain⟨os,l',z',q,O7,TN,RY,En,hpi,hv⟩:=Ml h hpt Dn Air;refine⟨c::os,l',z',C5 N i::q,O7,TN,RY,?_,hpq (fun _=>List.mem_cons_self) (fun k p h1 h2=>List.mem_cons_of_mem _ (hpi k p h1 h2)),fun fz A h1 h2 h3 hA own j0 E2=>⟨?_,hv fz A h1 h2 (fun i hi=>h3 i (by simp[hi])) hA own j0 E2⟩⟩
    ·intro id Bf;rcases List.mem_cons.1 Bf with rfl|Bf
     ·rw[h0];trivial
     ·exact En id Bf
    ·have Yt:=(h.pin i (by have:=hpn 0 _ rfl rfl;rwa [Nat.add_zero] at this)).2
     rw[hpt] at Yt;rcases h.box _ _ h0 with⟨h4,h5⟩|⟨b,o,h4,h5,h6,_⟩
     ·exact .inl ⟨by rw[←Yt];exact h4,h5⟩
     ·exact .inr ⟨b,o,by rw[←Yt];exact h4,h5.weak (fun b _ hb=>Jw (hA b hb)),h6 rfl⟩
   ·cases Dn
  ·rename_i GQ WP;have ZO:Su p=false:=by cases p<;>first|rfl|exact absurd rfl (GQ _)|exact absurd rfl (WP _)
   obtain⟨os,l',z',q,O7,TN,RY,En,hpi,hv⟩:=Ml h hpt Dn Air;refine⟨os,l',z',q,O7,TN,RY,En,hpq (fun e=>by rw[ZO] at e;cases e) hpi,fun fz A h1 h2 h3 hA own j0 E2=>?_⟩
   have:=hv fz A h1 h2 h3 hA own j0 E2;cases p<;>first|exact this|cases ZO
theorem IP {f:ResultVar->Sem Value}:∀{rs:List ResultVar}{us:List Value},Bc (fun rv u=>(f rv).run P w=.ok u w) rs us->(rs.mapM f).run P w=.ok us w
 |[],[],_=>by simp
 |[],_::_,h=>h.elim
 |_::_,[],h=>h.elim
 |rv::rs,u::us,h=>by
  rw[List.mapM_cons];simp[h.1,IP h.2]
theorem IW {fn:Func}{us:List Value}(h:Bc (EE P a.tmps w) fn.results.toList us):(results fn a.tmps).run P w=.ok (Gc us) w:=by
 unfold results;rw[Array.mapM_eq_mapM_toList];simp only[map_eq_pure_bind,bind_assoc,pure_bind,Sem.run_bind];refine Eq.trans (congrArg (fun x=>Result.andThen x _) (IP h)) ?_
 simp only[Result.andThen_ok,Sem.run_pure]
 congr 1
 clear h
 match us with
 |[]=>rfl
 |[u]=>rfl
 |u::v::us=>exact dif_neg (by simp)
theorem IK:∀{l:List (Option Nat)},Do (l.filterMap id)=true->∀{j j' i:Nat},l[j]?=some (some i)->l[j']?=some (some i)->j=j'
 |[],_,j,j',i,h,_=>by simp at h
 |q::l,hn,j,j',i,h,h'=>by
  have hn':Do (l.filterMap id)=true:=by
   cases q with
   |none=>exact hn
   |some x=>
    simp only[List.filterMap_cons,id_eq,Do,Bool.and_eq_true] at hn;exact hn.2
  have hq:∀(x k:Nat),q=some x->l[k]?≠some (some x):=by
   intro x k e hk;subst e;simp only[List.filterMap_cons,id_eq,Do,Bool.and_eq_true,Bool.not_eq_true'] at hn;exact L7 hn.1 (List.mem_filterMap.2 ⟨some x,List.mem_of_getElem? hk,rfl⟩)
  cases j with
  |zero=>
   cases j' with
   |zero=>rfl
   |succ k'=>
    simp at h h';exact absurd h' (hq i k' h)
  |succ k=>
   cases j' with
   |zero=>
    simp at h h';exact absurd h (hq i k h')
   |succ k'=>
    simp at h h';rw[IK hn' h h']
theorem CM {C:Fk}{f:FuncId}{fn:Func}{args:List PV}{res:A4}{w:World}{Y:Nat->Prop}{bt:Ss}{us:List Value}(Xe:Ins w Y bt args us){h8:∀k p,args[k]?=some p->Su p=true->k<8}
  {s':St} {a':Act} {w':World} {β':Bt} (hr:QO C P f fn args s'=some res) (h:Cj fn.ntmps w (MF bt args h8) Y β' s' a' w'):
  a'.defers=[]∧∃v,(results fn a'.tmps).run P w'=.ok v w'∧∃vs own,Ending.returned v=.returned (Gc vs)∧Out w w' Y bt args own res vs:=by
 unfold QO at hr;obtain⟨vs,l,z,us',Y1,UP,hll,hL,hz,hv⟩:=X7 h hr;obtain⟨os,l',z',q,Z6,TN,RY,hq,hpi,Kr⟩:=Ml h (bt:=bt) (fun _=>rfl) Y1 (fun k p h1 h2=>by rw[Nat.zero_add];exact⟨p,h1,h2⟩)
 obtain⟨hnd,PL⟩:=Ai Z6;cases PL;simp only[Bool.and_eq_true] at hnd;obtain⟨hnd,Aka⟩:=hnd;obtain⟨GQ,WP,hn3⟩:=Gv hnd
 have Tc:∀i∈z++z',i ∉ (l.filterMap id++l'.filterMap id)++q:=by
  intro i hi Hn;have:=List.all_eq_true.1 Aka i hi;have h2:((l.filterMap id++l'.filterMap id)++q).any (Nat.beq i)=true:=List.any_eq_true.2 ⟨i,Hn,Nat.beq_refl i⟩;rw[h2] at this;cases this
 have SB:I9 s' (z++z'):=by
  intro i hi;rcases List.mem_append.1 hi with hi|hi
  ·exact hz i hi
  ·exact RY i hi
 refine⟨h.dfr,Gc us',IW UP,us',Ig β' (l++l'),rfl,?_⟩;have Axt:Do ((l++l').filterMap id)=true:=by rw[List.filterMap_append];exact GQ
 have E2:∀j b o,Ig β' (l++l') j=some (b,o)->∃id,(l++l')[j]?=some (some id)∧β' id=some (b,o):=by
  intro j b o hj;unfold Ig at hj;cases hlj:(l++l')[j]? with
  |none=>rw[hlj] at hj;cases hj
  |some q=>
   cases q with
   |none=>rw[hlj] at hj;cases hj
   |some id=>
    rw[hlj] at hj;exact⟨id,rfl,hj⟩
 have Hr:∀(j i:Nat),(l++l')[j]?=some (some i)->i∈l.filterMap id++l'.filterMap id:=by
  intro j i hj;rw[←List.filterMap_append];exact List.mem_filterMap.2 ⟨some i,List.mem_of_getElem? hj,rfl⟩
 have Fc:∀(j i:Nat),(l++l')[j]?=some (some i)->Ct (s'.hp i):=by
  intro j i hj;rcases List.mem_append.1 (List.mem_of_getElem? hj) with Hn|Hn
  ·exact hL i Hn
  ·obtain⟨c,hc⟩:=TN i Hn;rw[hc];trivial
 have Aet:∀i,i∈(l.filterMap id++l'.filterMap id)++q->Ae s'.hp (z++z') i=s'.hp i:=by
  intro i hi;rw[Br,if_neg (fun Hn=>Tc i Hn hi)]
 have Afs:∀i b o,bt i 0=some (b,o)->C5 fn.ntmps i∈q∧Ct (s'.hp (C5 fn.ntmps i))∧β' (C5 fn.ntmps i)=some (b,o):=by
  intro i b o Zj;obtain⟨p,h1,h2⟩:=Xe.l0 i _ Zj;have h3:=hpi i p h1 h2;rw[Nat.zero_add] at h3;exact⟨h3,hq _ h3,(h.pin i ⟨p,h1,h2⟩).2.trans Zj⟩
 have hAO:∀b,Xo bt (Ig β' (l++l')) Y b->Cu (Ae s'.hp (z++z')) β' Y b:=by
  rintro b (⟨j,o,hj⟩|⟨i,o,Zj⟩|hY)
  ·obtain⟨id,h1,h2⟩:=E2 j b o hj;refine .inl ⟨id,o,?_,h2⟩;rw[Aet id (List.mem_append.2 (.inl (Hr j id h1)))];exact Fc j id h1
  ·obtain⟨h1,h2,h3⟩:=Afs i b o Zj;refine .inl ⟨_,o,?_,h3⟩;rw[Aet _ (List.mem_append.2 (.inr h1))];exact h2
  ·exact .inr hY
 have Qe:∀(j id b o:Nat),(l++l')[j]?=some (some id)->β' id=some (b,o)->b<w.heap.size->∃i k o',bt i (k+1)=some (b,o'):=by
  intro j id b o hj hβ B2;rcases h.ownd b ⟨id,o,Fc j id hj,hβ⟩ with⟨i,k,o',Zj⟩|UL
  ·cases k with
   |zero=>
    obtain⟨h1,h2,h3⟩:=Afs i b o' Zj;have:=h.inj id _ b o o' (Fc j id hj) h2 hβ h3;subst this;exact absurd h1 (hn3 _ (Hr j _ hj))
   |succ k=>exact⟨i,k,o',Zj⟩
  ·omega
 refine⟨h.fr.os,h.fr.tape,h.fr.output,h.fr.step,h.fr.rng,?_,?_,?_,?_⟩
 ·refine hv (z++z') _ _ (fun i hi=>List.mem_append.2 (.inl hi)) SB hAO (fun id c b o hi hc hβ=>?_) _ 0 (fun j hj=>by rw[Nat.zero_add,Qb hj])
  rcases Nat.lt_or_ge b w.heap.size with B2|UL
  ·obtain⟨k,Iy,p,h1,h2⟩:=h.stp id c b o hc hβ B2;have h3:=hpi k p h1 h2;rw[Nat.zero_add,←Iy] at h3;obtain⟨j,hj⟩:=List.mem_iff_getElem?.1 hi;refine absurd h3 (hn3 id ?_);exact List.mem_append.2 (.inl (List.mem_filterMap.2 ⟨some id,hi,rfl⟩))
  ·exact UL
 ·refine Kr (z++z') _ (fun i hi=>List.mem_append.2 (.inr hi)) SB (fun i hi Hn=>Tc i Hn (List.mem_append.2 (.inr hi))) hAO _ _ (fun j hj=>?_)
  rw[←hll,Qs]
 ·intro j b o hj;obtain⟨id,h1,h2⟩:=E2 j b o hj;refine⟨h.blt id b o (Cl (Fc j id h1)) h2,fun B2=>⟨Qe j id b o h1 h2 B2,fun x hx=>?_⟩⟩
  cases Ir:s'.hp id with
  |none=>have:=Fc j id h1;rw[Ir] at this;exact this.elim
  |some bx=>
   have Yl:=Fc j id h1;rw[Ir] at Yl;cases bx with
   |st c=>
    obtain⟨k,Iy,p,h3,h4⟩:=h.stp id c b o Ir h2 B2;have h5:=hpi k p h3 h4;rw[Nat.zero_add,←Iy] at h5;exact absurd h5 (hn3 _ (Hr j _ h1))
   |ar fz c=>exact h.rngB id _ b o Ir Yl h2 B2 x hx
   |mv=>exact Yl.elim
 ·intro j j' b o o' hj M8;obtain⟨id,h1,h2⟩:=E2 j b o hj;obtain⟨id',EY,h2'⟩:=E2 j' b o' M8;have:=h.inj id id' b o o' (Fc j id h1) (Fc j' id' EY) h2 h2';subst this;exact IK Axt h1 EY
theorem OG {G:Qi}(H7:NoNG P)(hm:P.follows .mixedOrders=true){C:Fk}{fu:Nat}{call:A7}(Df:∀f args res,call f args=some res->Cx G P f args res){f:FuncId}{fn:Func}{c:Code}(hf:P.funcs[f]?=some fn) (hb:fn.body=some c)
  {args:List PV} {res:A4} (hk:Ali C P fu call f fn c args=some res):Cx G P f args res:=by
 refine⟨⟨fn,hf,by rw[hb];rfl⟩,fun w Y bt us Xe hG hGY=>?_⟩
 unfold Ali at hk;obtain⟨tms,bs,Dn,Ey⟩:=SI Xe hk;obtain⟨Eb,D3⟩:=Ai Dn;simp only[Bool.and_eq_true] at Eb
 have Dd:us.length<=fn.ntmps:=by
  rw[←Xe.args.len];exact Nat.le_of_ble_eq_true Eb.1
 obtain⟨h8,β0,hs⟩:=Ey Eb.2 Dd;refine calls_of_wp hf hb ?_;have hE:JH P G w (MF bt args h8):=⟨H7,fun w' UI=>G.stable w w' (fun b hb B2=>UI.step.keep b B2 (hGY b hb).2) hG,hGY⟩
 refine LA hE Df hm c hs D3 (fun s' a' w' β' hr h=>CM Xe hr h) (fun id s' a' w' β' hr h=>by cases hr) (fun s' a' w' β' hr h=>CM Xe hr h)
def BV (G:Qi)(P:Program)(C:Fk):Prop:=∀f g args res,C.ext f=some g->g args=some res->Cx G P f args res
theorem G2 {G:Qi}(H7:NoNG P)(hm:P.follows .mixedOrders=true){C:Fk}(hx:BV G P C){fu:Nat}:∀(d:Nat)(f:FuncId)(args:List PV)(res:A4),Af C P fu d f args=some res->Cx G P f args res
 |0,_,_,_,h=>by cases h
 |d+1,f,args,res,h=>by
  unfold Af at h;split at h
  ·rename_i g hg;exact hx f g args res hg h
  ·split at h
   ·cases h
   ·rename_i fn hf;split at h
    ·cases h
    ·rename_i c hb;exact OG H7 hm (G2 H7 hm hx d) hf hb h
end
open Go.ChangeShapes Go.WideShapes Go.ChangeAt Go.RowKit Go.Deep
def EC (P:Program):List Field->Nat->Nat->Bool
 |[],i,n=>Nat.beq i n
 |f::r,i,n=>Nat.beq f.offset i&&EC P r (i+P.cellsOf f.type) n
def Jc (P:Program):Nat->TypeId->Bool
 |0,_=>false
 |d+1,t=>
  match P.underlying t with
  |some .bool=>true
  |some (.int _)=>true
  |some .string=>true
  |some (.slice e)=>Jc P d e&&Nat.blt 0 (P.cellsOf e)
  |some (.struct fs)=>EC P fs.toList 0 (P.cellsOf t)&&fs.toList.all fun f=>Jc P d f.type
  |some (.array n e)=>Nat.beq (P.cellsOf t) (n*P.cellsOf e)&&Jc P d e
  |_=>false
def WT (P:Program):Nat->TypeId->List PV->Prop
 |0,_,_=>False
 |d+1,t,ps=>
  match P.underlying t with
  |some .bool=>∃b,ps=[.sc (.bool b)]
  |some (.int k)=>∃n,ps=[.sc (.int k n)]∧(Lit.int k n).wf=true
  |some .string=>∃s:ByteArray,ps=[.sc (.string s)]∧s.size<=maxLen
  |some (.slice e)=>∃rows:List (List PV),ps=[.lst false (P.cellsOf e) rows.length rows.flatten]∧rows.length<=maxLen∧∀r∈rows,r.length=P.cellsOf e∧WT P d e r
  |some (.struct fs)=>∃rows:List (List PV),ps=rows.flatten∧Bc (fun f r=>WT P d f.type r) fs.toList rows
  |some (.array n e)=>∃rows:List (List PV),ps=rows.flatten∧rows.length=n∧∀r∈rows,r.length=P.cellsOf e∧WT P d e r
  |_=>False
def WTv (P:Program)(t:TypeId)(p:PV):Prop:=
 match Bw P t with
 |true=>∃ps,p=.agg ps∧WT P 12 t ps
 |false=>WT P 12 t [p]
section
variable {P:Program} {d:Nat} {t e:TypeId} {ps:List PV}
theorem Aee (hu:P.underlying t=some .bool):WT P (d+1) t ps↔∃b,ps=[.sc (.bool b)]:=by
 show (match P.underlying t with|some .bool=>_|some (.int k)=>_|some .string=>_|some (.slice e)=>_|some (.struct fs)=>_|some (.array n e)=>_|_=>_)↔_
 rw[hu]
theorem VX {k:IntKind}(hu:P.underlying t=some (.int k)):WT P (d+1) t ps↔∃n,ps=[.sc (.int k n)]∧(Lit.int k n).wf=true:=by
 show (match P.underlying t with|some .bool=>_|some (.int k)=>_|some .string=>_|some (.slice e)=>_|some (.struct fs)=>_|some (.array n e)=>_|_=>_)↔_
 rw[hu]
theorem CI (hu:P.underlying t=some .string):WT P (d+1) t ps↔∃s:ByteArray,ps=[.sc (.string s)]∧s.size<=maxLen:=by
 show (match P.underlying t with|some .bool=>_|some (.int k)=>_|some .string=>_|some (.slice e)=>_|some (.struct fs)=>_|some (.array n e)=>_|_=>_)↔_
 rw[hu]
theorem IX (hu:P.underlying t=some (.slice e)):WT P (d+1) t ps↔∃rows:List (List PV),ps=[.lst false (P.cellsOf e) rows.length rows.flatten]∧rows.length<=maxLen∧∀r∈rows,r.length=P.cellsOf e∧WT P d e r:=by
 show (match P.underlying t with|some .bool=>_|some (.int k)=>_|some .string=>_|some (.slice e)=>_|some (.struct fs)=>_|some (.array n e)=>_|_=>_)↔_
 rw[hu]
theorem RE {fs:Array Field}(hu:P.underlying t=some (.struct fs)):WT P (d+1) t ps↔∃rows:List (List PV),ps=rows.flatten∧Bc (fun f r=>WT P d f.type r) fs.toList rows:=by
 show (match P.underlying t with|some .bool=>_|some (.int k)=>_|some .string=>_|some (.slice e)=>_|some (.struct fs)=>_|some (.array n e)=>_|_=>_)↔_
 rw[hu]
theorem XP {n:Nat}(hu:P.underlying t=some (.array n e)):WT P (d+1) t ps↔∃rows:List (List PV),ps=rows.flatten∧rows.length=n∧∀r∈rows,r.length=P.cellsOf e∧WT P d e r:=by
 show (match P.underlying t with|some .bool=>_|some (.int k)=>_|some .string=>_|some (.slice e)=>_|some (.struct fs)=>_|some (.array n e)=>_|_=>_)↔_
 rw[hu]
end
inductive Ki where
 |bool
 |int (k:IntKind)
 |str
 |sl (e:TypeId)
 |st (ts:List TypeId)
 |ar (n:Nat) (e:TypeId)
 |no
def J1 (P:Program)(t:TypeId):Ki:=
 match P.underlying t with
 |some .bool=>.bool
 |some (.int k)=>.int k
 |some .string=>.str
 |some (.slice e)=>.sl e
 |some (.struct fs)=>.st (fs.toList.map (·.type))
 |some (.array n e)=>.ar n e
 |_=>.no
section
variable {P:Program} {d:Nat} {t e:TypeId} {ps:List PV} {p:PV}
theorem Bc.cons_inv {α β:Type}{R:α->β->Prop}{a:α}{zs:List α}:∀{rs:List β},Bc R (a::zs) rs->∃r rs',rs=r::rs'∧R a r∧Bc R zs rs'
 |[],h=>h.elim
 |r::rs,h=>⟨r,rs,rfl,h.1,h.2⟩
theorem Bc.nil_inv {α β:Type}{R:α->β->Prop}:∀{rs:List β},Bc R ([]:List α) rs->rs=[]
 |[],_=>rfl
 |_::_,h=>h.elim
theorem Ak0 {k:IntKind}(hk:J1 P t=.int k)(h:WT P d t ps):∃n,ps=[.sc (.int k n)]∧(Lit.int k n).wf=true:=by
 cases d with
 |zero=>exact h.elim
 |succ d=>
 unfold J1 at hk;split at hk<;>first|cases hk|skip
 rename_i hu;exact (VX hu).1 h
theorem Ajx (hk:J1 P t=.str)(h:WT P d t ps):∃s:ByteArray,ps=[.sc (.string s)]∧s.size<=maxLen:=by
 cases d with
 |zero=>exact h.elim
 |succ d=>
 unfold J1 at hk;split at hk<;>first|cases hk|skip
 rename_i hu;exact (CI hu).1 h
theorem Am3 (hk:J1 P t=.sl e)(h:WT P d t ps):∃rows:List (List PV),ps=[.lst false (P.cellsOf e) rows.length rows.flatten]∧rows.length<=maxLen∧∀r∈rows,r.length=P.cellsOf e∧WT P (d-1) e r:=by
 cases d with
 |zero=>exact h.elim
 |succ d=>
 rw[Nat.add_sub_cancel];unfold J1 at hk;split at hk<;>first|cases hk|skip
 rename_i hu;exact (IX hu).1 h
theorem PS (hk:Bw P t=false)(h:WTv P t p):WT P 12 t [p]:=by
 unfold WTv at h;rw[hk] at h;exact h
theorem Acq (ha:Bw P t=false)(hk:J1 P t=.str)(h:WTv P t p):∃s:ByteArray,p=.sc (.string s)∧s.size<=maxLen:=by
 obtain⟨b,e,h⟩:=Ajx hk (PS ha h);exact⟨b,by injection e,h⟩
theorem U1 {α:Type}(f:α->List PV)(Q:α->Prop):∀{rows:List (List PV)},(∀r∈rows,∃x,r=f x∧Q x)->∃xs:List α,rows.flatten=xs.flatMap f∧rows.length=xs.length∧∀x∈xs,Q x
 |[],_=>⟨[],rfl,rfl,by simp⟩
 |r::rows,h=>by
  obtain⟨x,h1,h2⟩:=h r (by simp)
  obtain⟨xs,h3,h4,h5⟩:=U1 (rows:=rows) f Q fun r hr=>h r (by simp[hr])
  refine⟨x::xs,by simp[h1,h3],by simp[h4],fun y hy=>?_⟩
  rcases List.mem_cons.1 hy with rfl|hy
  ·exact h2
  ·exact h5 y hy
end
abbrev No:Nat->Prop:=fun _=>False
section
variable {H:Type} {enc:TypeId × Value->H} {P:Program} {w:World} {base:Nat} {held:Bool}
theorem Bc.flat {α β:Type}{R:α->β->Prop}:∀{l:List Nat}{f:Nat->List α}{g:Nat->List β},(∀i∈l,Bc R (f i) (g i))->Bc R (l.map f).flatten (l.map g).flatten
 |[],_,_,_=>trivial
 |i::l,f,g,h=>by
  simp only[List.map_cons,List.flatten_cons];exact (h i (by simp)).app (Bc.flat fun j hj=>h j (by simp[hj]))
theorem RM {a:Addr}{v:Value}(h:w.cell? a=some v):a.spot=none∧a.block<w.heap.size:=by
 unfold World.cell? at h;split at h
 ·rename_i c t f e;refine⟨?_,?_⟩
  ·cases hs:a.spot with
   |none=>rfl
   |some x=>rw[hs] at h;simp at h
  ·rcases Nat.lt_or_ge a.block w.heap.size with h1|h1
   ·exact h1
   ·rw[Array.getElem?_eq_none h1] at e;cases e
 ·cases h
theorem V9 {α:Type}{g:Nat->List α}{es:Nat}:∀{n:Nat},(∀i,i<n->(g i).length=es)->((List.range n).map g).flatten.length=n*es
 |0,_=>by simp
 |n+1,h=>by
  rw[List.range_succ,List.map_append,List.flatten_append,List.length_append,V9 (fun i hi=>h i (by omega))]
  simp[h n (by omega),Nat.succ_mul]
theorem Xd {a:Addr}{g:Nat->List Value}{es:Nat}:∀{n:Nat},(∀i,i<n->(g i).length=es)->(∀i,i<n->∀k,k<es->w.cell? (a.add (i*es+k))=(g i)[k]?) ->
  ∀j,j<n*es->w.cell? (a.add j)=(((List.range n).map g).flatten)[j]?
 |0,_,_,j,hj=>by omega
 |n+1,hl,hc,j,hj=>by
  have Zp:=V9 (fun i (hi:i<n)=>hl i (by omega))
  rw[List.range_succ,List.map_append,List.flatten_append,List.getElem?_append,Zp];rw[Nat.succ_mul] at hj;split
  ·rename_i h1;exact Xd (fun i hi=>hl i (by omega)) (fun i hi=>hc i (by omega)) j h1
  ·rename_i h1;have:=hc n (by omega) (j-n*es) (by omega)
   rw[show n*es+(j-n*es)=j by omega] at this
   simpa using this
abbrev TR (w:World)(c:PV)(v:Value):Prop:=(Ps c∧Aq w No c v)∧v.oneCell'=true
theorem Ui {d:Nat}{cs:List Value}{n:Nat}(hn:cs.length=n):∀(l:List Field)(i:Nat),EC P l i n=true ->
  (∀f∈l,∃ps,WT P d f.type ps∧Bc (TR w) ps ((cs.drop f.offset).take (P.cellsOf f.type)))->∃rows:List (List PV),Bc (fun f r=>WT P d f.type r) l rows∧Bc (TR w) rows.flatten (cs.drop i)
 |[],i,ho,_=>by
  have:=Nat.eq_of_beq_eq_true ho;refine⟨[],trivial,?_⟩;rw[List.drop_of_length_le (by omega)]
  trivial
 |f::l,i,ho,h=>by
  simp only[EC,Bool.and_eq_true] at ho;have ho1:=Nat.eq_of_beq_eq_true ho.1;obtain⟨ps,h1,h2⟩:=h f (by simp)
  obtain⟨rows,h3,h4⟩:=Ui hn l _ ho.2 fun g hg=>h g (by simp[hg])
  refine⟨ps::rows,⟨h1,h3⟩,?_⟩;rw[ho1] at h2;have:cs.drop i=(cs.drop i).take (P.cellsOf f.type)++cs.drop (i+P.cellsOf f.type):=by rw[←List.drop_drop];exact (List.take_append_drop _ _).symm
  rw[this,List.flatten_cons];exact h2.app h4
theorem Xt {d:Nat}{e:TypeId}{cs:List Value}{k:Nat}:∀(n:Nat),n*k<=cs.length ->
  (∀i,i<n->∃ps,(ps.length=k∧WT P d e ps)∧Bc (TR w) ps ((cs.drop (i*k)).take k))->∃rows:List (List PV),rows.length=n∧(∀r∈rows,r.length=k∧WT P d e r)∧Bc (TR w) rows.flatten (cs.take (n*k))
 |0,_,_=>⟨[],rfl,by simp,by simp[Bc]⟩
 |n+1,hl,h=>by
  rw[Nat.succ_mul] at hl;obtain⟨rows,h1,h2,h3⟩:=Xt n (by omega) fun i hi=>h i (by omega)
  obtain⟨ps,h4,h5⟩:=h n (by omega)
  refine⟨rows++[ps],by simp[h1],?_,?_⟩
  ·intro r hr;rcases List.mem_append.1 hr with hr|hr
   ·exact h2 r hr
   ·rw[List.mem_singleton.1 hr];exact h4
  ·rw[List.flatten_append,Nat.succ_mul,List.take_add];refine h3.app ?_
   simpa using h5
theorem Ow:∀(d:Nat)(t:TypeId),Jc P d t=true->∀(fuel:Nat)(cs:List Value)(x:DataW H × List MemPlace),DataW.trod enc P w base (fun _=>true) held fuel t cs=some x ->
  ∃ps,WT P d t ps∧Bc (TR w) ps cs
 |0,_,h,_,_,_,_=>by cases h
 |d+1,t,hp,fuel,cs,x,h=>by
  unfold Jc at hp;split at hp
  ·rename_i hu;obtain⟨b,rfl,_⟩:=DataW.trod_bool hu h;simp only[Aee hu];exact⟨[.sc (.bool b)],⟨b,rfl⟩,⟨⟨trivial,Aq.sc _⟩,rfl⟩,trivial⟩
  ·rename_i k hu;obtain⟨n,rfl,_,hw⟩:=DataW.trod_int hu h;simp only[VX hu];exact⟨[.sc (.int k n)],⟨n,rfl,hw⟩,⟨⟨trivial,Aq.sc _⟩,rfl⟩,trivial⟩
  ·rename_i hu;obtain⟨s,rfl,_,hw⟩:=DataW.trod_string hu h;simp only[CI hu];exact⟨[.sc (.string s)],⟨s,rfl,hw⟩,⟨⟨trivial,Aq.sc _⟩,rfl⟩,trivial⟩
  ·rename_i e hu;simp only[Bool.and_eq_true] at hp;have Pf:0<P.cellsOf e:=Nat.lt_of_succ_le (Nat.le_of_ble_eq_true hp.2);simp only[IX hu];rcases open_slice hu h with⟨rfl,_⟩|⟨a,len,cap,m,n,D,Pl,rfl,_,hl,hm,KJ,_,hi⟩
   ·exact⟨[.lst false (P.cellsOf e) 0 []],⟨[],by simp,by simp,by simp⟩,⟨⟨trivial,Aq.lnil _ _⟩,rfl⟩,trivial⟩
   ·simp only[if_true] at KJ;subst KJ
    have KG:∀i,i<len->∃q:List PV × List Value,(q.2.length=P.cellsOf e∧(∀k,k<P.cellsOf e->w.cell? (a.add (i*P.cellsOf e+k))=q.2[k]?))∧WT P d e q.1∧Bc (TR w) q.1 q.2:=by
     intro i B2;obtain⟨cs',hc,ht⟩:=hi i (by omega)
     obtain⟨_,Jp,hat⟩:=World.cells?_some hc;obtain⟨ps,h1,h2⟩:=Ow d e hp.1 _ _ _ ht;exact⟨(ps,cs'),⟨Jp,fun k hk=>by rw[←Pv.add_add];exact hat k hk⟩,h1,h2⟩
    obtain⟨F,hF⟩:=choose_lt KG;refine⟨[.lst false (P.cellsOf e) len ((List.range len).map fun i=>(F i).1).flatten],⟨(List.range len).map fun i=>(F i).1,by simp,by simp;omega,?_⟩,⟨⟨trivial,?_⟩,rfl⟩,trivial⟩
    ·intro r hr;obtain⟨i,hi1,rfl⟩:=List.mem_map.1 hr;have hi2:=List.mem_range.1 hi1;exact⟨by rw[(hF i hi2).2.2.len];exact (hF i hi2).1.1,(hF i hi2).2.1⟩
    ·rcases Nat.eq_zero_or_pos len with h0|h0
     ·subst h0;exact Aq.lemp _ _ _
     ·have Ko:Bc (TR w) ((List.range len).map fun i=>(F i).1).flatten ((List.range len).map fun i=>(F i).2).flatten:=Bc.flat fun i hi=>(hF i (List.mem_range.1 hi)).2.2
      have Cn:=Xd (w:=w) (a:=a) (g:=fun i=>(F i).2) (fun i hi=>(hF i hi).1.1) (fun i hi=>(hF i hi).1.2)
      have Dd:=V9 (g:=fun i=>(F i).2) (fun i (hi:i<len)=>(hF i hi).1.1)
      have h00:w.cell? a≠none:=by
       have:=Cn 0 (Nat.mul_pos h0 Pf);rw[show a.add 0=a by unfold Addr.add;simp] at this
       rw[this,List.getElem?_eq_getElem (by rw[Dd];exact Nat.mul_pos h0 Pf)]
       simp
      obtain⟨v0,hv0⟩:=Option.ne_none_iff_exists'.1 h00;obtain⟨hs,hb⟩:=RM hv0
      have key:∀j c,(((List.range len).map fun i=>(F i).1).flatten)[j]?=some c->∃v,w.cell? (a.add j)=some v∧TR w c v:=by
       intro j c hj
       have hlj:j<len*P.cellsOf e:=by
        rw[←Dd,←Ko.len];rcases Nat.lt_or_ge j (((List.range len).map fun i=>(F i).1).flatten).length with h1|h1
        ·exact h1
        ·rw[List.getElem?_eq_none h1] at hj;cases hj
       have h1:=Cn j hlj;rw[List.getElem?_eq_getElem (by rw[Dd];exact hlj)] at h1
       exact⟨_,h1,Ko.at_ hj (List.getElem?_eq_getElem (by rw[Dd];exact hlj))⟩
      refine Aq.lst _ _ _ a _ (fun j=>(w.cell? (a.add j)).getD undef) hs hb (fun h=>h) hl (fun j c hj=>?_) (fun j c hj=>?_) (fun j c hj=>?_)
      ·obtain⟨v,hv,_⟩:=key j c hj;rw[hv];rfl
      ·obtain⟨v,hv,ht⟩:=key j c hj;rw[hv];exact ht.2
      ·obtain⟨v,hv,ht⟩:=key j c hj;rw[hv];exact ht.1.2
  ·rename_i fs hu;simp only[Bool.and_eq_true] at hp;simp only[RE hu];obtain⟨xs,n,_,_,Dd,hxl,hf⟩:=DataW.trod_struct hu h
   obtain⟨rows,h1,h2⟩:=Ui (P:=P) (w:=w) (d:=d) Dd fs.toList 0 hp.1 fun f QV=>by
    obtain⟨i,hi⟩:=List.mem_iff_getElem?.1 QV;have KG:fs[i]?=some f:=by simpa using hi
    have B2:i<fs.size:=(Array.getElem?_eq_some_iff.1 KG).1;have h3:=hf i f KG;rw[List.getElem?_eq_getElem (by omega)] at h3
    exact Ow d f.type (List.all_eq_true.1 hp.2 f QV) _ _ _ h3
   exact⟨_,⟨rows,rfl,h1⟩,by simpa using h2⟩
  ·rename_i n e hu;simp only[Bool.and_eq_true] at hp;simp only[XP hu];obtain⟨xs,m,_,_,Dd,hxl,hf⟩:=DataW.trod_array hu h;have Kj:=Nat.eq_of_beq_eq_true hp.1
   obtain⟨rows,h1,h2,h3⟩:=Xt (P:=P) (w:=w) (d:=d) (e:=e) (cs:=cs) (k:=P.cellsOf e) n (by omega) fun i hi=>by
    have h3:=hf i hi;rw[List.getElem?_eq_getElem (by omega)] at h3
    obtain⟨ps,h4,h5⟩:=Ow d e hp.2 _ _ _ h3;refine⟨ps,⟨?_,h4⟩,h5⟩;rw[h5.len,List.length_take,List.length_drop,Dd,Kj];have:(i+1)*P.cellsOf e<=n*P.cellsOf e:=Nat.mul_le_mul_right _ hi;rw[Nat.succ_mul] at this;omega
   refine⟨_,⟨rows,rfl,h1,h2⟩,?_⟩;rw[List.take_of_length_le (by omega)] at h3
   exact h3
  ·cases hp
theorem VQ {r:Reach}{b0:Nat}{t:TypeId}{v:Value}{dd:DataW H}{p:List MemPlace}(hp:Jc P 12 t=true)(hv:Value.okWide P w r b0 t v)(h:DataW.Trod enc P w base (fun _=>true) held t v dd p):
  ∃q,WTv P t q∧L6 w No q v:=by
 obtain⟨fuel,hf⟩:=h;obtain⟨ps,h1,h2⟩:=Ow 12 t hp fuel _ _ hf;unfold WTv Bw
 have two:∀{cs:Array Value},v=.agg cs->∃q,(∃ps,q=.agg ps∧WT P 12 t ps)∧L6 w No q v:=by
  intro cs e;subst e;exact⟨.agg ps,⟨ps,rfl,h1⟩,cs.toList,by simp,h2.mono fun c v h=>h.1⟩
 have one:v.cells.toList=[v]->∃q,WT P 12 t [q]∧L6 w No q v:=by
  intro e;rw[e] at h2
  match ps,h2 with
  |[q],h2=>
   refine⟨q,h1,?_⟩;have h3:=h2.1.1;cases q<;>first|exact h3|exact h3.1.elim
  |[],h2=>exact h2.elim
  |_::_::_,h2=>exact h2.2.elim
 unfold Jc at hp;split at hp
 ·rename_i hu;simp only[hu];obtain⟨b,rfl,_⟩:=open_bool hu hv ⟨fuel,hf⟩;exact one rfl
 ·rename_i k hu;simp only[hu];obtain⟨b,rfl,_⟩:=open_int hu hv ⟨fuel,hf⟩;exact one rfl
 ·rename_i hu;simp only[hu];obtain⟨b,rfl,_⟩:=ChangeMaps.open_string hu hv ⟨fuel,hf⟩;exact one rfl
 ·rename_i e hu;simp only[hu];obtain⟨a,len,cap,rfl⟩:=okWide_slice hu hv;exact one rfl
 ·rename_i fs hu;simp only[hu];obtain⟨cs,rfl,_⟩:=okWide_struct hu hv;exact two rfl
 ·rename_i n e hu;simp only[hu];unfold Value.okWide at hv;simp only[hu] at hv;obtain⟨cs,rfl,_⟩:=hv;exact two rfl
 ·cases hp
theorem AM:∀{ts:List TypeId}{vs:List Value}{ds:List (DataW H)} {p:List MemPlace}{r:Reach}{b0:Nat},(ts.all fun t=>Jc P 12 t)=true->(∀(j:Nat) t v,ts[j]?=some t->vs[j]?=some v->Value.okWide P w r b0 t v) ->
  DataW.TrodAll enc P w base (fun _=>true) held ts vs ds p->∃qs,Bc (WTv P) ts qs∧Bc (L6 w No) qs vs
 |[],[],[],_,_,_,_,_,_=>⟨[],trivial,trivial⟩
 |t::ts,v::vs,d::ds,_,r,b0,hp,hv,⟨p,q,h1,h2,_⟩=>by
  simp only[List.all_cons,Bool.and_eq_true] at hp;obtain⟨x,h3,h4⟩:=VQ hp.1 (hv 0 t v rfl rfl) h1;obtain⟨xs,h5,h6⟩:=AM hp.2 (fun j t v ht Kr=>hv (j+1) t v ht Kr) h2
  exact⟨x::xs,⟨h3,h5⟩,h4,h6⟩
 |[],_::_,_,_,_,_,_,_,h=>by cases h
 |[],[],_::_,_,_,_,_,_,h=>by cases h
 |_::_,[],_,_,_,_,_,_,h=>by cases h
 |_::_,_::_,[],_,_,_,_,_,h=>by cases h
theorem Pi (hl:laidOutB P=true){W W':World}{sp:Nat->Bool}:∀{ts:List TypeId}{vs:List Value}{ds:List (DataW H)} {p:List MemPlace},(ts.all fun t=>P.readableRec t&&Nat.blt t P.types.size)=true ->
  DataW.TrodAll enc P W 0 (fun _=>true) true ts vs ds p->(∀x∈p,W.sameAt W' x)->(∀x∈p,sp x.block=true)->DataW.TrodAll enc P W' 0 sp true ts vs ds p
 |[],[],[],_,_,h,_,_=>h
 |t::ts,v::vs,d::ds,_,hr,⟨p,q,h1,h2,e⟩,hs,hsp=>by
  simp only[List.all_cons,Bool.and_eq_true] at hr;refine⟨p,q,WideElems.Trod_stays hl hr.1.1 (Nat.lt_of_succ_le (Nat.le_of_ble_eq_true hr.1.2)) h1 (fun x hx=>hs x ?_) (fun x hx=>hsp x ?_),Pi hl hr.2 h2 (fun x hx=>hs x ?_) (fun x hx=>hsp x ?_),e⟩
  all_goals rw[e,List.mem_append]
  ·exact .inl hx
  ·exact .inl hx
  ·exact .inr hx
  ·exact .inr hx
 |[],_::_,_,_,_,h,_,_=>by cases h
 |[],[],_::_,_,_,h,_,_=>by cases h
 |_::_,[],_,_,_,h,_,_=>by cases h
 |_::_,_::_,[],_,_,h,_,_=>by cases h
theorem Zx {f:Func}{s:ChangeSpec}{apart fresh CY again:Bool}{W W':World}{args:Array Value}{v:Value}{ds gs:List (DataW H)} {before pa pv:List MemPlace}
  (hW:DataW.Whole enc P f.params.toList s.vars apart W args.toList ds gs before)
  (An2:∀(b:Nat)(sp:Nat->Bool)(hd:Bool),DataW.TrodAll enc P W' b sp hd f.resultTypes.toList (v.resultList f.resultTypes.size) (s.fn H (ds++gs)).results [])
  (Ea:∀sp:Nat->Bool,(∀p∈before,sp p.block=true)->DataW.TrodAll enc P W' 0 sp true f.params.toList args.toList (s.fn H (ds++gs)).args pa)
  (FR:∀sp:Nat->Bool,(∀p∈before,sp p.block=true)->DataW.TrodVars enc P W' sp s.vars (s.fn H (ds++gs)).vars pv)
  (Va:before=pa++pv)(hb:Below W.heap.size W W')
  (hok:∀(j:Nat)(t:TypeId)(r:Value),f.resultTypes[j]?=some t->(v.resultList f.resultTypes.size)[j]?=some r->Value.okWide P W' .any 0 t r):
  s.post enc P f apart fresh CY again W args v W':=by
 have B2:∀p∈before,p.block<W.heap.size:=fun p hp=>hW.lt p hp
 have hold:∀p∈before,(fun b=>decide (b<W.heap.size)) p.block=true:=fun p hp=>by simpa using B2 p hp
 refine⟨ds,gs,before,[],pa,pv,hW,An2 _ _ _,Ea _ hold,FR _ hold,World.keptBut_mono (fun p hp=>⟨hp,?_⟩) (hb.frame (· ∈ before)),fun _=>?_⟩
 ·rw[Va,List.mem_append] at hp;exact Or.inr hp
 ·obtain⟨_,_,_,_,_,hz,hn⟩:=hW;refine⟨hok,_,_,([]++pa)++pv,⟨[]++pa,pv,trodAll_append (Ea _ (fun _ _=>rfl)) (An2 _ _ _),FR _ (fun _ _=>rfl),rfl,?_,?_⟩,?_⟩
  ·intro b off hp;have Xe:MemPlace.cell b off∈before:=by rw[Va];simpa using hp
   rw[hb.frozen (B2 _ Xe)];exact hz b off Xe
  ·intro ha;have:=hn ha;rw[Va] at this
   simpa using this
  ·intro p hp _;rw[Va]
   simpa using hp
theorem law_contract {G:Qi}{C:Fk}(hx:BV G P C)(H7:NoNG P)(hm:P.follows .mixedOrders=true)(hl:laidOutB P=true){f:FuncId}{fn:Func}{s:ChangeSpec}{tb:TypeId}(hfn:P.funcs[f]?=some fn)
  (FR:s.vars=[]) (An0:∀ds:List (DataW H),ds.length=fn.params.size->s.fn H ds={ results:=[.lit (.bool true)],args:=ds }) (Ah9:(fn.params.toList.all fun t=>Jc P 12 t)=true)
  (Apr:(fn.params.toList.all fun t=>P.readableRec t&&Nat.blt t P.types.size)=true) (hrt:fn.resultTypes = #[tb]) (hub:P.underlying tb=some .bool)
  {apart fresh CY again:Bool} (W:World) (base:Nat) (args:Array Value) (ds gs:List (DataW H)) (before:List MemPlace)
  (hval:∀(j:Nat) t v,fn.params[j]?=some t->args[j]?=some v->Value.okWide P W .any base t v)
  (hW:DataW.Whole enc P fn.params.toList s.vars apart W args.toList ds gs before)
  (A15:∀qs:List PV,Bc (WTv P) fn.params.toList qs->∃fu d,Af C P fu d f qs=some ⟨[.sc (.bool true)],[]⟩) (hG:G.ok W)(hGY:∀b,G.bl b->b<W.heap.size):
  Calls P f args W fun e W'=>∃v,e=.returned v∧s.post enc P fn apart fresh CY again W args v W':=by
 have hW':=hW;obtain⟨p,q,hA,hV,rfl,Tc,hnd⟩:=hW;rw[FR] at hV;obtain⟨rfl,rfl⟩:=trodVars_none hV;obtain⟨qs,h1,h2⟩:=AM Ah9 (fun j t v ht hv=>hval j t v (by simpa using ht) (by simpa using hv)) hA
 obtain⟨fu,d,hc⟩:=A15 qs h1;have hS:=(G2 H7 hm hx d f qs _ hc).2 W No HE args.toList (JL (fun b h=>h.elim) h2) hG (fun b hb=>⟨hGY b hb,Lu b⟩)
 rw[Array.toArray_toList] at hS;refine hS.mono fun e W' ⟨vs,own,he,ho⟩=>?_
 have hv:=ho.vals
 have M3:vs=[.bool true]:=by
  match vs,hv with
  |[u],hv=>
   have:Aq W' _ (.sc (.bool true)) u:=hv.1;rw[this.val]
  |[],hv=>exact hv.elim
  |_::_::_,hv=>exact hv.2.elim
 subst M3;subst he;have hb:Below W.heap.size W W':=⟨ho.os,ho.tape,ho.output,ho.ext.size,fun k hk=>ho.ext.keep k hk (Lu k)⟩
 have B2:∀x∈p,x.block<W.heap.size:=fun x hx=>hW'.lt x (by simpa using hx)
 have Dd:ds.length=fn.params.size:=by
  have:∀{ts:List TypeId} {vs:List Value} {ds:List (DataW H)} {p:List MemPlace},DataW.TrodAll enc P W 0 (fun _=>true) true ts vs ds p->ds.length=ts.length:=by
   intro ts
   induction ts with
   |nil=>intro vs ds p h;cases vs<;>cases ds<;>first|rfl|cases h
   |cons t ts ih=>
    intro vs ds p h;cases vs with
    |nil=>cases h
    |cons v vs=>
     cases ds with
     |nil=>cases h
     |cons d ds=>obtain⟨_,_,_,h2,_⟩:=h;simp[ih h2]
  simpa using this hA
 have hsp:=An0 (ds++[]) (by simpa using Dd)
 refine⟨_,rfl,Zx (pa:=p) (pv:=[]) hW' ?_ ?_ ?_ rfl hb ?_⟩
 ·intro b sp hd;rw[hsp,hrt];exact trodAll_mk1 (shut_bool hub _)
 ·intro sp Axz;rw[hsp];simp only[List.append_nil];exact Pi hl Apr hA (fun x hx=>hb.same (B2 x hx)) (fun x hx=>Axz x (by simpa using hx))
 ·intro sp _;rw[hsp,FR];rfl
 ·exact ok_one hrt rfl (okWide_bool_mk hub _)
end
end
section
open Go.Proofs.Tryd (prog)
set_option maxRecDepth 100000
theorem Ace {d:Nat}{ps:List PV}{k:IntKind}{t e:TypeId}(hk:J1 prog t=.sl e)(hc:prog.cellsOf e=1)(he:J1 prog e=.int k)(h:WT prog d t ps):
  ∃l:List Int,ps=[.lst false 1 l.length (D7 k l)]∧l.length<=maxLen∧∀n∈l,(Lit.int k n).wf=true:=by
 obtain⟨rows,rfl,hl,hr⟩:=Am3 hk h;obtain⟨l,h1,h2,h3⟩:=U1 (Aic k) (fun n=>(Lit.int k n).wf=true) fun r hrr=>Ak0 he (hr r hrr).2
 refine⟨l,?_,by omega,h3⟩
 rw[h1,h2,hc]
theorem VK {p:PV}{k:IntKind}{t e:TypeId}(ha:Bw prog t=false)(hk:J1 prog t=.sl e)(hc:prog.cellsOf e=1)(he:J1 prog e=.int k)(h:WTv prog t p):
  ∃l:List Int,p=.lst false 1 l.length (D7 k l)∧l.length<=maxLen∧∀n∈l,(Lit.int k n).wf=true:=by
 have h':=PS (P:=prog) (t:=t) (p:=p) ha h;obtain⟨l,h1,h2,h3⟩:=Ace hk hc he h';exact⟨l,by injection h1,h2,h3⟩
end
section
open Go.IntKind (wrap)
theorem Db:type_of% @Bool.not_true:=@Bool.not_true
theorem Dw:type_of% @Bool.not_false:=@Bool.not_false
theorem Zzf:type_of% @List.take_of_length_le.{0}:=@List.take_of_length_le
theorem UR:type_of% @List.length_cons.{0}:=@List.length_cons
theorem Pu:type_of% @Int.toNat_natCast:=@Int.toNat_natCast
theorem D1:type_of% @if_neg.{1}:=@if_neg
theorem Fa:type_of% @if_pos.{1}:=@if_pos
theorem ZG:type_of% @Bool.false_and:=@Bool.false_and
end
section
open Go.IntKind (wrap)
structure W4 where
 a:Int
 b:Int
 c:Int
 d:Int
def W4.cells (v:W4):List PV:=[.sc (.int .u64 v.a),.sc (.int .u64 v.b),.sc (.int .u64 v.c),.sc (.int .u64 v.d)]
def Ds (l:List Int):Prop:=∀b∈l,0<=b∧b<=255
end
section
open Go.IntKind (wrap)
section
variable {fu d:Nat} {xs:FuncId->Option (List PV->Option A4)}
theorem Ds.drop {l:List Int}(h:Ds l)(i:Nat):Ds (l.drop i):=fun x hx=>h x (List.mem_of_mem_drop hx)
theorem Ds.take {l:List Int}(h:Ds l)(i:Nat):Ds (l.take i):=fun x hx=>h x (List.mem_of_mem_take hx)
def Ayk (l:List Int)(i k:Nat):Int:=if i+k<l.length then l.getD (i+k) 0 else if k=7 then (l.length:Int) % 256 else 0
def pc (l:List Int)(i:Nat):List Int:=(List.range 8).map (Ayk l i)
end
end
section
open Go.IntKind (wrap)
def E1 (s:ByteArray):List Int:=s.data.toList.map fun b=>(b.toNat:Int)
def Ab (l:List Int):ByteArray:=⟨(l.map fun n=>n.toNat.toUInt8).toArray⟩
theorem Hi (s:ByteArray):(E1 s).length=s.size:=by
 unfold E1;rw[List.length_map];rfl
theorem MZ (s:ByteArray):Ds (E1 s):=by
 intro x hx;obtain⟨b,_,rfl⟩:=List.mem_map.1 hx;have:=b.toNat_lt;omega
theorem Av (l:List Int):(Ab l).size=l.length:=by
 show (l.map fun n=>n.toNat.toUInt8).toArray.size=_
 simp
theorem C9 {l:List Int}(h:Ds l):E1 (Ab l)=l:=by
 unfold E1 Ab;simp only[List.map_map]
 have:∀l:List Int,Ds l->List.map ((fun b:UInt8=>(b.toNat:Int)) ∘ fun n:Int=>n.toNat.toUInt8) l=l:=by
  intro l
  induction l with
  |nil=>intro _;rfl
  |cons x l ih=>
   intro h;have hx:=h x (by simp)
   rw[List.map_cons,ih fun y hy=>h y (by simp[hy])]
   congr 1
   show ((x.toNat.toUInt8.toNat:Nat):Int)=x;rw[Nat.toUInt8,UInt8.toNat_ofNat'];omega
 exact this l h
theorem G9 (s:ByteArray):Ab (E1 s)=s:=by
 unfold Ab E1;simp only[List.map_map]
 have:∀l:List UInt8,List.map ((fun n:Int=>n.toNat.toUInt8) ∘ fun b:UInt8=>(b.toNat:Int)) l=l:=by
  intro l
  induction l with
  |nil=>rfl
  |cons x l ih=>
   rw[List.map_cons,ih]
   congr 1
   show ((x.toNat:Int).toNat).toUInt8=x;rw[Pu];simp
 rw[this]
theorem U2:∀l:List Int,Gq (D7 .u8 l)=some (l.map fun n=>n.toNat.toUInt8)
 |[]=>rfl
 |x::l=>by
  show (Gq (D7 .u8 l)).map (x.toNat.toUInt8 :: ·)=_
  rw[U2 l];rfl
end
section
open Go.IntKind (wrap)
def Fi (v:Int):Int:=if v<26 then 65+v else if v<52 then 71+v else if v<62 then v-4 else if v<63 then 45 else 95
def A8 (c:Int):Int:=if 65<=c∧c<=90 then c-65 else if 97<=c∧c<=122 then c-71 else if 48<=c∧c<=57 then c+4 else if c=45 then 62 else if c=95 then 63 else 64
theorem Je {v:Int}(h0:0<=v)(h1:v<64):A8 (Fi v)=v:=by
 unfold A8 Fi;split<;>split<;>(try split)<;>(try split)<;>(try split)<;>(try split)<;>(try split)<;>(try split)<;>omega
theorem Jk {c:Int}(h:A8 c<64):Fi (A8 c)=c:=by
 unfold A8 at h ⊢;unfold Fi;split at h<;>(try split at h)<;>(try split at h)<;>(try split at h)<;>(try split at h)<;>simp_all<;>(try split)<;>(try split)<;>(try split)<;>omega
theorem E7 (c:Int):0<=A8 c∧A8 c<=64:=by
 unfold A8;split
 ·omega
 split
 ·omega
 split
 ·omega
 split
 ·omega
 split<;>omega
def Gd:List Int->List Int
 |[]=>[]
 |[a]=>[Fi (a / 4),Fi (a % 4*16)]
 |[a,b]=>[Fi (a / 4),Fi (a % 4*16+b / 16),Fi (b % 16*4)]
 |a::b::c::r=>Fi (a / 4)::Fi (a % 4*16+b / 16)::Fi (b % 16*4+c / 64)::Fi (c % 64)::Gd r
def Ha:List Int->Option (List Int)
 |[]=>some []
 |[_]=>none
 |[p,q]=>if A8 p<64∧A8 q<64∧A8 q % 16=0 then some [A8 p*4+A8 q / 16] else none
 |[p,q,r]=>if A8 p<64∧A8 q<64∧A8 r<64∧A8 r % 4=0 then some [A8 p*4+A8 q / 16,A8 q % 16*16+A8 r / 4] else none
 |p::q::r::s::t=>if A8 p<64∧A8 q<64∧A8 r<64∧A8 s<64 then (Ha t).map (fun l=>(A8 p*4+A8 q / 16)::(A8 q % 16*16+A8 r / 4)::(A8 r % 4*64+A8 s)::l) else none
theorem Bm {a:Int}{l:List Int}(h:Ds (a::l)):(0<=a∧a<=255)∧Ds l:=⟨h a (by simp),fun x hx=>h x (by simp[hx])⟩
theorem QF:∀{l:List Int},Ds l->Ha (Gd l)=some l
 |[],_=>rfl
 |[a],h=>by
  obtain⟨ha,_⟩:=Bm h;have e1:=Je (v:=a / 4) (by omega) (by omega)
  have e2:=Je (v:=a % 4*16) (by omega) (by omega)
  unfold Gd Ha;rw[e1,e2,Fa (by omega)]
  congr 2
  omega
 |[a,b],h=>by
  obtain⟨ha,h⟩:=Bm h;obtain⟨hb,_⟩:=Bm h;have e1:=Je (v:=a / 4) (by omega) (by omega)
  have e2:=Je (v:=a % 4*16+b / 16) (by omega) (by omega)
  have e3:=Je (v:=b % 16*4) (by omega) (by omega)
  unfold Gd Ha;rw[e1,e2,e3,Fa (by omega)]
  congr 2
  ·omega
  ·congr 1;omega
 |a::b::c::r,h=>by
  obtain⟨ha,h⟩:=Bm h;obtain⟨hb,h⟩:=Bm h;obtain⟨hc,h⟩:=Bm h;have e1:=Je (v:=a / 4) (by omega) (by omega)
  have e2:=Je (v:=a % 4*16+b / 16) (by omega) (by omega)
  have e3:=Je (v:=b % 16*4+c / 64) (by omega) (by omega)
  have e4:=Je (v:=c % 64) (by omega) (by omega)
  unfold Gd Ha;rw[e1,e2,e3,e4,Fa (by omega),QF h]
  simp only[Option.map_some]
  congr 2
  ·omega
  ·congr 1
   ·omega
   ·congr 1;omega
theorem PC:∀{s l:List Int},Ha s=some l->Gd l=s∧Ds l
 |[],l,h=>by cases h;exact⟨rfl,fun x hx=>by cases hx⟩
 |[_],l,h=>by cases h
 |[p,q],l,h=>by
  unfold Ha at h;split at h
  ·rename_i hc;cases h;have np:=E7 p;have nq:=E7 q;refine⟨?_,fun x hx=>by simp at hx;subst hx;omega⟩
   unfold Gd;rw[show (A8 p*4+A8 q / 16) / 4=A8 p by omega,show (A8 p*4+A8 q / 16) % 4*16=A8 q by omega,Jk hc.1,Jk hc.2.1]
  ·cases h
 |[p,q,r],l,h=>by
  unfold Ha at h;split at h
  ·rename_i hc;cases h;have np:=E7 p;have nq:=E7 q;have nr:=E7 r;refine⟨?_,fun x hx=>by simp at hx;rcases hx with rfl|rfl<;>omega⟩
   unfold Gd
   rw[show (A8 p*4+A8 q / 16) / 4=A8 p by omega,show (A8 p*4+A8 q / 16) % 4*16+(A8 q % 16*16+A8 r / 4) / 16=A8 q by omega,
    show (A8 q % 16*16+A8 r / 4) % 16*4=A8 r by omega,Jk hc.1,Jk hc.2.1,Jk hc.2.2.1]
  ·cases h
 |p::q::r::s::t,l,h=>by
  unfold Ha at h;split at h
  ·rename_i hc;cases ht:Ha t with
   |none=>rw[ht] at h;cases h
   |some l'=>
    rw[ht] at h;cases h;obtain⟨h1,h2⟩:=PC ht;have np:=E7 p;have nq:=E7 q;have nr:=E7 r;have ns:=E7 s;refine⟨?_,fun x hx=>?_⟩
    ·show Gd ((A8 p*4+A8 q / 16)::(A8 q % 16*16+A8 r / 4)::(A8 r % 4*64+A8 s)::l')=_;unfold Gd
     rw[h1,show (A8 p*4+A8 q / 16) / 4=A8 p by omega,show (A8 p*4+A8 q / 16) % 4*16+(A8 q % 16*16+A8 r / 4) / 16=A8 q by omega,
      show (A8 q % 16*16+A8 r / 4) % 16*4+(A8 r % 4*64+A8 s) / 64=A8 r by omega,show (A8 r % 4*64+A8 s) % 64=A8 s by omega,Jk hc.1,Jk hc.2.1,Jk hc.2.2.1,Jk hc.2.2.2]
    ·simp only[List.mem_cons] at hx;rcases hx with rfl|rfl|rfl|hx
     ·omega
     ·omega
     ·omega
     ·exact h2 x hx
  ·cases h
theorem DU:∀l:List Int,(Gd l).length=(4*l.length+2) / 3
 |[]=>rfl
 |[_]=>by simp[Gd]
 |[_,_]=>by simp[Gd]
 |a::b::c::r=>by
  show (Gd r).length+1+1+1+1=_;rw[DU r];simp only[UR];omega
end
section
open Go.IntKind (wrap)
def TF (c:Int):Bool:=c==32||c==9||c==10||c==13
def Bd:List Int->List Int
 |[]=>[]
 |c::r=>if TF c=true then Bd r else c::r
def MA (c:Int):Option Int:=if 48<=c∧c<=57 then some (c-48) else if 97<=c∧c<=102 then some (c-87) else if 65<=c∧c<=70 then some (c-55) else none
abbrev PR (α:Type):=Option α × List Int
def O4:Nat->Int->List Int->PR Int
 |0,x,l=>(some x,l)
 |_+1,_,[]=>(none,[])
 |n+1,x,c::r=>match MA c with
  |some v=>O4 n (x*16+v) r
  |none=>(none,c::r)
def DJ (x:Int):Bool:=decide (56320<=x)&&decide (x<=57343)
def OM (x:Int)(l:List Int):PR Int:=
 match O4 4 0 l with
 |(some y,r)=>if DJ y=true then (some (65536+(x-55296)*1024+(y-56320)),r) else (none,r)
 |(none,r)=>(none,r)
def ZF:List Int->Bool
 |92::117::_=>true
 |_=>false
def Ls (l:List Int):PR Int:=
 match O4 4 0 l with
 |(none,r)=>(none,r)
 |(some x,r)=>if DJ x=true then (none,r) else if x<55296∨56319<x then (some x,r) else if ZF r=true then OM x (r.drop 2) else (none,r)
def P5 (c:Int):Option Int:=if c=34∨c=92∨c=47 then some c else if c=98 then some 8 else if c=102 then some 12 else if c=110 then some 10 else if c=114 then some 13 else if c=116 then some 9 else none
def La:List Int->PR Int
 |[]=>(none,[])
 |c::r=>if c=117 then Ls r else match P5 c with
  |some x=>(some x,r)
  |none=>(none,c::r)
def Ix:Nat->List Int->List Int->PR (List Int)
  |0,_,l=>(none,l)
  |_+1,_,[]=>(none,[])
  |n+1,out,c::r=>if c<32 then (none,c::r) else if c=34 then (some out,r) else if c=92 then
      (match La r with
       |(some x,r')=>Ix n (out++Lib.encodeRuneZ x) r'
       |(none,r')=>(none,r'))
    else Ix n (out++[c]) r
def El:List Int->PR (List Int)
 |[]=>(none,[])
 |c::r=>if c=34 then Ix (r.length+1) [] r else (none,c::r)
def Z5 (l:List Int):Option (List Int × List Int):=match El l with|(some s,r)=>some (s,r)|_=>none
def SO (c:Int):Bool:=decide (48<=c)&&decide (c<=57)
def Ip:List Int->List Int
 |[]=>[]
 |c::r=>if SO c=true then Ip r else c::r
def Cc:List Int->Option (List Int)
 |[]=>none
 |c::r=>if SO c=true then some (Ip r) else none
def VU (c:Int):List Int->List Int
 |[]=>[]
 |d::r=>if d=c then r else d::r
def Qn:List Int->Option (List Int)
 |[]=>some []
 |c::r=>if c=101∨c=69 then (match r with
   |43::r'=>Cc r'
   |r=>Cc (VU 45 r)) else some (c::r)
def V7:List Int->Option (List Int)
 |[]=>some []
 |c::r=>if c=46 then (Cc r).bind Qn else Qn (c::r)
def Ac2:List Int->Option (List Int)
 |[]=>none
 |c::r=>if c=48 then some r else Cc (c::r)
def E0 (l:List Int):Option (List Int):=(Ac2 (VU 45 l)).bind V7
abbrev JV:=Int × List Int × Bool
abbrev JR (α:Type):=Except Int α
def CO (V:List Int->JR (JV × List Int)):Nat->List Int->JR (List Int)
 |0,_=>.error 2
 |n+1,l=>match V l with
  |.error e=>.error e
  |.ok (_,r)=>match Bd r with
   |93::r'=>.ok r'
   |44::r'=>CO V n (Bd r')
   |_=>.error 2
def TY (V:List Int->JR (JV × List Int)) (l:List Int):JR (List Int):=
 match Bd l with
 |93::r=>.ok r
 |l'=>CO V (l'.length+1) l'
def Akg (V:List Int->JR (JV × List Int)) (dup:List Int->Bool)(l:List Int):JR ((List Int × JV) × List Int):=
 match Z5 l with
 |none=>.error 2
 |some (nm,r)=>if dup nm=true then .error 10 else
  match Bd r with
  |58::r'=>(match V (Bd r') with
   |.error e=>.error e
   |.ok (v,r'')=>.ok ((nm,v),r''))
  |_=>.error 2
def Pd (V:List Int->JR (JV × List Int)) (kp:Bool):Nat->List (List Int × JV)->List Int->JR (List (List Int × JV) × List Int)
 |0,_,_=>.error 2
 |n+1,ms,l=>match Akg V (fun nm=>kp&&ms.any fun m=>m.1==nm) l with
  |.error e=>.error e
  |.ok (m,r)=>match Bd r with
   |125::r'=>.ok (ms++[m],r')
   |44::r'=>Pd V kp n (ms++[m]) (Bd r')
   |_=>.error 2
def Q4 (V:List Int->JR (JV × List Int)) (kp:Bool)(l:List Int):JR (List (List Int × JV) × List Int):=
 match Bd l with
 |125::r=>.ok ([],r)
 |l'=>Pd V kp (l'.length+1) [] l'
def Ao (w l:List Int):Option (List Int):=if w.isPrefixOf l=true then some (l.drop w.length) else none
def E8:Nat->List Int->JR (JV × List Int)
 |k,l=>match l with
  |123::r=>(match k with
   |0=>.error 5
   |k+1=>(match Q4 (E8 k) false r with
    |.error e=>.error e
    |.ok (_,r')=>.ok ((6,[],false),r')))
  |91::r=>(match k with
   |0=>.error 5
   |k+1=>(match TY (E8 k) r with
    |.error e=>.error e
    |.ok r'=>.ok ((5,[],false),r')))
  |34::r=>(match Z5 (34::r) with
   |none=>.error 2
   |some (s,r')=>.ok ((4,s,false),r'))
  |l=>match Ao [116,114,117,101] l with
   |some r=>.ok ((2,[],true),r)
   |none=>match Ao [102,97,108,115,101] l with
    |some r=>.ok ((2,[],false),r)
    |none=>match Ao [110,117,108,108] l with
     |some r=>.ok ((1,[],false),r)
     |none=>match E0 l with
      |some r=>.ok ((3,[],false),r)
      |none=>.error 2
def MW (k:Nat)(l:List Int):JR (List (List Int × JV)):=
 match Bd l with
 |123::r=>(match Q4 (E8 k) true r with
  |.error e=>.error e
  |.ok (ms,r')=>if Bd r'=[] then .ok ms else .error 2)
 |_=>.error 2
end
section
open Go.IntKind (wrap)
def Ym:List PV->Option (List Int)
 |[]=>some []
 |.sc (.int .u8 n)::r=>bif decide (0<=n)&&decide (n<=255) then (Ym r).map (n :: ·) else none
 |_=>none
def UU (args:List PV):Option A4:=
 match args with
 |[.lst _ 1 n c]=>bif Nat.beq c.length n&&Nat.ble n 100000000 then (match Ym c with|some l=>some ⟨[.sc (.string (Ab (Gd l)))],[]⟩|none=>none) else none
 |_=>none
def Aab (args:List PV):Option A4:=
  match args with
  |[.pbox [.sc (.string t),.sc (.int .i64 p)]]=>bif decide (0<=p)&&decide (p<=t.size)&&Nat.ble t.size 1000000 then
      (match El ((E1 t).drop p.toNat) with
       |(some s,r)=>some ⟨[.sc (.string (Ab s)),.sc (.bool true)],[[.sc (.string t),.sc (.int .i64 (t.size-r.length:Int))]]⟩
       |(none,r)=>some ⟨[.sc (.string ⟨#[]⟩),.sc (.bool false)],[[.sc (.string t),.sc (.int .i64 (t.size-r.length:Int))]]⟩) else none
  |_=>none
def Aik (args:List PV):Option A4:=
 match args with
 |[.sc (.string s),.sc (.int .u8 c)]=>some ⟨[.sc (.int .i64 (Lib.indexByte s.data.toList c.toNat.toUInt8))],[]⟩
 |_=>none
def Ahf (args:List PV):Option A4:=
 match args with
 |[.sc (.string s),.sc (.string p)]=>bif Nat.beq p.size 1 then some ⟨[.sc (.int .i64 (Lib.countByte s.data.toList p[0]!))],[]⟩ else none
 |_=>none
def GL (args:List PV):Option A4:=
 match args with
 |[.sc (.string s),.sc (.string p)]=>bif Nat.ble p.size 1000&&p.data.toList.all (fun b=>decide (b.toNat<128))&&decide (s.size<=1000000000) then some ⟨[.sc (.string ⟨(Lib.trimS s.data.toList p.data.toList).toArray⟩)],[]⟩ else none
 |_=>none
def XK (f:FuncId):Option (List PV->Option A4):=
 bif Nat.beq f 33 then some OC else
 bif Nat.beq f 40 then some Aik else
 bif Nat.beq f 99 then some Ahf else
 bif Nat.beq f 66 then some GL else
 bif Nat.beq f 12 then some UU else
 bif Nat.beq f 68 then some Aab else
 bif Nat.beq f 1000000 then some (fun _=>none) else none
def VH (p:Option (List PV->Option A4)) (f:FuncId):Option (List PV->Option A4):=bif Nat.beq f 19 then p else XK f
abbrev CP (p:Option (List PV->Option A4)):Fk:=CX (VH p)
abbrev C0:Fk:=CP none
abbrev xs0:=VH none
end
section
open Go.IntKind (wrap)
open Go.RowKit
def Yn (p:PV)(u:Value):Prop:=p=.sc u∨∃vs:List Value,p=.agg (vs.map .sc)∧u=.agg ⟨vs⟩
theorem Ot {w:World}{A:Nat->Prop}{own:Bt}:∀{vs us:List Value}{j:Nat},D2 w A own j (vs.map .sc) us->us=vs
 |[],[],_,_=>rfl
 |[],_::_,_,h=>h.elim
 |_::_,[],_,h=>h.elim
 |v::vs,u::us,j,h=>by
  have h1:Aq w A (.sc v) u:=h.1;rw[h1.val,Ot h.2]
theorem Oj {w:World}{A:Nat->Prop}{own:Bt}:∀{vs:List Value}{j:Nat},D2 w A own j (vs.map .sc) vs
 |[],_=>trivial
 |v::vs,j=>⟨show Aq w A (.sc v) v from .sc v,Oj⟩
theorem Wk {w:World}{A:Nat->Prop}{own:Bt}{z:Nat}:∀{vals:List PV}{us us':List Value}{j:Nat},Bc Yn vals us->Z7 w A own z j vals us'->us'=us
 |[],[],[],_,_,_=>rfl
 |[],[],_::_,_,_,h=>h.elim
 |[],_::_,_,_,h,_=>h.elim
 |_::_,[],_,_,h,_=>h.elim
 |_::_,_::_,[],_,_,h=>h.elim
 |p::ps,u::us,u'::us',j,hs,h=>by
  rw[Wk hs.2 h.2]
  congr 1
  rcases hs.1 with rfl|⟨vs,rfl,rfl⟩
  ·exact Aq.val (show Aq w A (.sc u) u' from h.1)
  ·obtain⟨vs',rfl,h2⟩:=h.1;rw[Ot h2]
structure D4 (w w':World) (b o n:Nat):Prop where
 os:w'.os=w.os
 tape:w'.tape=w.tape
 output:w'.output=w.output
 size:w.heap.size<=w'.heap.size
 grow:Fz w w' b
 other:∀k,k<w.heap.size->k≠b->w'.heap[k]?=w.heap[k]?
 cells:∀j,(j<o∨o+n<=j)->w'.cell? ⟨b,j,none⟩=w.cell? ⟨b,j,none⟩
 frz:∀j,(j<o∨o+n<=j)->w'.frozen? ⟨b,j,none⟩=w.frozen? ⟨b,j,none⟩
def ZA (b o:Nat):Ss:=fun i j=>match i,j with|0,0=>some (b,o)|_,_=>none
theorem VT {b o k:Nat}(h:RN (ZA b o) k):k=b:=by
 obtain⟨i,j,o',h⟩:=h;unfold ZA at h;split at h
 ·cases h;rfl
 ·cases h
theorem R4 {w:World}{A:Nat->Prop}{bt:Ss}:∀{i:Nat}{ps:List PV}{us:List Value},Bc Yn ps us->Ie w A bt i ps us
 |_,[],[],_=>trivial
 |_,[],_::_,h=>h.elim
 |_,_::_,[],h=>h.elim
 |i,p::ps,u::us,h=>by
  refine⟨?_,R4 h.2⟩;rcases h.1 with rfl|⟨vs,rfl,rfl⟩
  ·exact⟨.inl trivial,show Aq w A (.sc u) u from .sc u⟩
  ·refine⟨vs,rfl,fun p hp=>?_,Oj⟩
   obtain⟨v,_,rfl⟩:=List.mem_map.1 hp;exact .inl trivial
theorem BA {G:Qi}{P:Program}{f:FuncId}{vs vs':List Value}{args vals:List PV}{us rs:List Value}(hs:Cx G P f (.pbox (vs.map .sc)::args) ⟨vals,[vs'.map .sc]⟩) (ha:Bc Yn args us)(hr:Bc Yn vals rs)
  {w:World} {b o:Nat} (hG:G.ok w) (hGl:∀k,G.bl k->k<w.heap.size∧k≠b) (hb:b<w.heap.size) (hc:∀j v,vs[j]?=some v->w.cell? ⟨b,o+j,none⟩=some v) (hf:∀j,j<vs.length->w.frozen? ⟨b,o+j,none⟩=false):
  Calls P f (.pointer (some ⟨b,o,none⟩)::us).toArray w fun e w'=>e=.returned (Gc rs)∧vs'.length=vs.length∧(∀j v,vs'[j]?=some v->w'.cell? ⟨b,o+j,none⟩=some v)∧(∀j,j<vs.length->w'.frozen? ⟨b,o+j,none⟩=false)∧D4 w w' b o vs.length:=by
 have hi:Ins w (fun _=>False) (ZA b o) (.pbox (vs.map .sc)::args) (.pointer (some ⟨b,o,none⟩)::us):=by
  refine⟨fun _ h=>h.elim,fun _ h=>h.elim,fun k h=>by rw[VT h];exact hb,fun i j i' j' k x x' h h'=>?_,fun i q h=>?_,?_,R4 ha⟩
  ·unfold ZA at h h';split at h
   ·split at h'
    ·exact⟨rfl,rfl⟩
    ·cases h'
   ·cases h
  ·unfold ZA at h;split at h
   ·exact⟨_,rfl,rfl⟩
   ·cases h
  ·refine⟨b,o,rfl,rfl,fun p hp=>?_,vs,Oj,hc,fun k hk=>hf k (by simpa using hk)⟩
   obtain⟨v,_,rfl⟩:=List.mem_map.1 hp;exact .inl trivial
 have Dd:∀i,∀q,(ZA b o) i 0=some q->i=0∧q=(b,o):=by
  intro i q h;unfold ZA at h;split at h
  ·cases h;exact⟨rfl,rfl⟩
  ·cases h
 refine (hs.2 w _ _ _ hi hG (fun k hk=>⟨(hGl k hk).1,fun hx=>(hGl k hk).2 (VT hx)⟩)).mono ?_
 rintro e w' ⟨ws,own,rfl,out⟩
 have hv:=Wk hr out.vals;subst hv;have ho:=out.outs;obtain⟨⟨b',o',h1,h2,zs,h3,h4,h5⟩,_⟩:=(show (∃b' o',(ZA b o) 0 0=some (b',o')∧(vs'.map PV.sc).length=(vs.map PV.sc).length∧WN w' (Xo (ZA b o) own (fun _=>False)) own (Iz vals) b' o' (vs'.map .sc))∧_ from ho)
 cases h1;have hz:=Ot h3;subst hz;simp only[List.length_map] at h2 h5
 have hL:∀k j,k<w.heap.size->(k≠b∨j<o∨o+vs.length<=j)->¬Wu (ZA b o) (.pbox (vs.map .sc)::args) k j:=by
  rintro k j hk D8 ⟨i,p,hp,hq⟩
  rcases hq with⟨x,y,hq,_⟩|⟨y,ps,hq,hy,Jt⟩
  ·unfold ZA at hq;split at hq
   ·rename_i h;cases h
   ·cases hq
  ·obtain⟨rfl,h⟩:=Dd i _ hq;cases h;have:p=.pbox (vs.map .sc):=by simpa using hp.symm
   subst this;rcases Jt with⟨e,B2⟩|e
   ·injection e with e;subst e;rw[List.length_map] at B2;rcases D8 with h|h|h
    ·exact h rfl
    ·omega
    ·omega
   ·cases e
 refine⟨rfl,h2,h4,fun j hj=>h5 j (by omega),out.os,out.tape,out.output,out.ext.size,out.ext.bs b hb,fun k hk D8=>out.ext.keep k hk fun hx=>D8 (VT hx),fun j hj=>(out.rng b j hb (hL b j hb (.inr hj))).1,fun j hj=>(out.rng b j hb (hL b j hb (.inr hj))).2⟩
end
section
open Go.IntKind (wrap)
open Go.RowKit
theorem Le {w w':World}{Y:Nat->Prop}{bt:Ss}{args:List PV}{v:Value}(hb:Below w.heap.size w w')(ho:Px w' (Xo bt (fun _=>none) Y) (fun _=>none) bt (Iz [.sc v]) 0 args []):
  Out w w' Y bt args (fun _=>none) ⟨[.sc v],[]⟩ [v] where
 os:=hb.os
 tape:=hb.tape
 output:=hb.output
 ext:=⟨hb.size,fun b h _=>hb.block b h,fun b h=>Fz.same (hb.block b h)⟩
 rng:=fun b j h _=>⟨by unfold World.cell?;simp only[hb.block b h],by unfold World.frozen?;simp only[hb.block b h]⟩
 vals:=⟨Aq.sc v,trivial⟩
 outs:=ho
 fresh:=fun j b o h=>by cases h
 inj:=fun j j' b o o' h=>by cases h
end
section
open Go.Proofs.Tryd (prog)
open Go.IntKind (wrap)
set_option maxRecDepth 1000000
open Go.RowKit
theorem RP (G:Qi)(args:List PV)(res:A4)(h:Aik args=some res):Cx G prog 40 args res:=by
 refine⟨⟨_,Tryd.func40,by kernel_rfl⟩,fun w Y bt us hi _ _=>?_⟩
 unfold Aik at h;split at h
 rotate_left
 ·cases h
 rename_i s c;cases h;have ps:=hi.args
 match us,ps with
 |[u1,u2],ps=>
  obtain⟨⟨_,p1⟩,⟨_,p2⟩,_⟩:=ps;have e1:u1=.string s:=Aq.val (show Aq w _ (.sc (.string s)) u1 from p1)
  have e2:u2=.int .u8 c:=Aq.val (show Aq w _ (.sc (.int .u8 c)) u2 from p2)
  subst e1 e2
  have walk:Calls prog 40 #[.string s,.int .u8 c] w fun e w'=>e=.returned (.int .i64 (Lib.indexByte s.data.toList c.toNat.toUInt8))∧w'=w:=by
   go_enter Tryd.func40,Tryd.ntmps40
   go_wp2
   rw[run_callFunc_extern Tryd.func55 (by kernel_rfl) (by kernel_rfl) (by kernel_rfl) (e:=Extern.BytealgIndexByte.indexByte) (by kernel_rfl),Lib.run_indexByteString]
   simp only[Result.andThen];rw[Oper.upon_value]
   go_wp2
   go_ret
   exact⟨rfl,rfl⟩
  refine walk.mono ?_
  rintro e w' ⟨rfl,rfl⟩
  exact⟨[.int .i64 (Lib.indexByte s.data.toList c.toNat.toUInt8)],fun _=>none,rfl,Le (Below.refl _ _) rfl⟩
 |[],ps=>exact ps.elim
 |[_],ps=>exact ps.2.elim
 |_::_::_::_,ps=>exact ps.2.2.elim
theorem UX {p:ByteArray}(h:p.size=1):p=⟨#[p[0]!]⟩:=by
 obtain⟨⟨l⟩⟩:=p
 match l,h with
 |[x],_=>rfl
theorem QK (G:Qi)(args:List PV)(res:A4)(h:Ahf args=some res):Cx G prog 99 args res:=by
 refine⟨⟨_,Tryd.func99,by kernel_rfl⟩,fun w Y bt us hi _ _=>?_⟩
 unfold Ahf at h;split at h
 rotate_left
 ·cases h
 rename_i s p;cases hq:Nat.beq p.size 1
 ·rw[hq] at h;cases h
 rw[hq,cond_true] at h;cases h;have hp:=UX (Nat.eq_of_beq_eq_true hq);generalize (p[0]!)=c at hp ⊢;subst hp;have ps:=hi.args
 match us,ps with
 |[u1,u2],ps=>
  obtain⟨⟨_,p1⟩,⟨_,p2⟩,_⟩:=ps;have e1:u1=.string s:=Aq.val (show Aq w _ (.sc (.string s)) u1 from p1)
  have e2:u2=.string ⟨#[c]⟩:=Aq.val (show Aq w _ (.sc (.string ⟨#[c]⟩)) u2 from p2)
  subst e1 e2
  have walk:Calls prog 99 #[.string s,.string ⟨#[c]⟩] w fun e w'=>e=.returned (.int .i64 (Lib.countByte s.data.toList c))∧w'=w:=by
   go_enter Tryd.func99,Tryd.ntmps99
   go_wp2
   rw[run_callFunc_extern Tryd.func110 (by kernel_rfl) (by kernel_rfl) (by kernel_rfl) (e:=Extern.BytealgCount.count) (by kernel_rfl),Lib.run_countString]
   simp only[Result.andThen];rw[Oper.upon_value]
   go_wp2
   go_ret
   exact⟨rfl,rfl⟩
  refine walk.mono ?_
  rintro e w' ⟨rfl,rfl⟩
  exact⟨[.int .i64 (Lib.countByte s.data.toList c)],fun _=>none,rfl,Le (Below.refl _ _) rfl⟩
 |[],ps=>exact ps.elim
 |[_],ps=>exact ps.2.elim
 |_::_::_::_,ps=>exact ps.2.2.elim
end
section
open Go.IntKind (wrap)
set_option maxRecDepth 100000
theorem Ago (a b:Nat)(ha:a<4294967296)(hb:b<4294967296):bits .or .u32 ((a:Nat):Int) ((b:Nat):Int)=((a ||| b:Nat):Int):=by
 have hx:a ||| b<2 ^ 32:=Nat.or_lt_two_pow (by omega) (by omega)
 have h1:(BitVec.ofInt 32 (a:Int)).toNat=a:=by
  rw[BitVec.ofInt_natCast,BitVec.toNat_ofNat];exact Nat.mod_eq_of_lt (by omega)
 have h2:(BitVec.ofInt 32 (b:Int)).toNat=b:=by
  rw[BitVec.ofInt_natCast,BitVec.toNat_ofNat];exact Nat.mod_eq_of_lt (by omega)
 show IntKind.u32.wrap ((BitVec.ofInt 32 (a:Int) ||| BitVec.ofInt 32 (b:Int)).toNat:Int)=_;rw[BitVec.toNat_or,h1,h2];simp only[wrap,IntKind.bits,IntKind.signed,ZG,Bool.false_eq_true,if_false];omega
theorem Aox (a b:Nat)(ha:a<4294967296)(hb:b<4294967296):bits .and .u32 ((a:Nat):Int) ((b:Nat):Int)=((a &&& b:Nat):Int):=by
 have hx:a &&& b<2 ^ 32:=Nat.and_lt_two_pow _ (by omega)
 have h1:(BitVec.ofInt 32 (a:Int)).toNat=a:=by
  rw[BitVec.ofInt_natCast,BitVec.toNat_ofNat];exact Nat.mod_eq_of_lt (by omega)
 have h2:(BitVec.ofInt 32 (b:Int)).toNat=b:=by
  rw[BitVec.ofInt_natCast,BitVec.toNat_ofNat];exact Nat.mod_eq_of_lt (by omega)
 show IntKind.u32.wrap ((BitVec.ofInt 32 (a:Int) &&& BitVec.ofInt 32 (b:Int)).toNat:Int)=_;rw[BitVec.toNat_and,h1,h2];simp only[wrap,IntKind.bits,IntKind.signed,ZG,Bool.false_eq_true,if_false];omega
def Rs (a b c:Int):List Int:=[Fi (a / 4),Fi (a % 4*16+b / 16),Fi (b % 16*4+c / 64),Fi (c % 64)]
abbrev Afj (a b c:Int):Int:=bits .or .u32 (bits .or .u32 (a % 4294967296*65536 % 4294967296) (b % 4294967296*256 % 4294967296)) (c % 4294967296)
theorem ZN {a b c:Int}(h:Ds [a,b,c]):Afj a b c=a*65536+b*256+c:=by
 obtain⟨ha,h⟩:=Bm h;obtain⟨hb,h⟩:=Bm h;obtain⟨hc,h⟩:=Bm h;obtain⟨a,rfl⟩:=Int.eq_ofNat_of_zero_le ha.1;obtain⟨b,rfl⟩:=Int.eq_ofNat_of_zero_le hb.1;obtain⟨c,rfl⟩:=Int.eq_ofNat_of_zero_le hc.1;have e1:(a:Int) % 4294967296*65536 % 4294967296=((a*65536:Nat):Int):=by omega
 have e2:(b:Int) % 4294967296*256 % 4294967296=((b*256:Nat):Int):=by omega
 have e3:(c:Int) % 4294967296=(c:Int):=by omega
 show bits .or .u32 (bits .or .u32 _ _) _=_;rw[e1,e2,e3,Ago _ _ (by omega) (by omega)]
 have h1:a*65536 ||| b*256=a*65536+b*256:=by
  have:=Nat.shiftLeft_add_eq_or_of_lt (show b*256<2 ^ 16 by omega) a
  rw[Nat.shiftLeft_eq,show (2:Nat) ^ 16=65536 from rfl] at this
  exact this.symm
 rw[h1,Ago _ _ (by omega) (by omega)]
 have h2:a*65536+b*256 ||| c=a*65536+b*256+c:=by
  have:=Nat.shiftLeft_add_eq_or_of_lt (show c<2 ^ 8 by omega) (a*256+b)
  rw[Nat.shiftLeft_eq] at this;have e:(a*256+b)*2 ^ 8=a*65536+b*256:=by omega
  rw[e] at this;exact this.symm
 rw[h2];omega
theorem At8 {a b c:Int}(h:Ds [a,b,c]) (j:Nat)(hj:j<4):∃q,0<=q∧q<64∧bits .and .u32 (Afj a b c / 2 ^ (18-6*j)) 63=q∧(Rs a b c)[j]?=some (Fi q):=by
 rw[ZN h];obtain⟨ha,h⟩:=Bm h;obtain⟨hb,h⟩:=Bm h;obtain⟨hc,h⟩:=Bm h
 have key:∀x:Int,0<=x->x<4294967296->bits .and .u32 x 63=x % 64:=by
  intro x h0 h1;obtain⟨n,rfl⟩:=Int.eq_ofNat_of_zero_le h0;have:=Aox n 63 (by omega) (by omega)
  rw[show ((63:Nat):Int)=63 from rfl] at this
  show bits BinOp.and IntKind.u32 (n:Int) 63=(n:Int) % 64;rw[this,show (63:Nat)=2 ^ 6-1 by decide,Nat.and_two_pow_sub_one_eq_mod n 6]
  omega
 match j,hj with
 |0,_=>
  refine⟨_,?_,?_,key _ ?_ ?_,?_⟩
  ·show 0<=(a*65536+b*256+c) / 262144 % 64;omega
  ·show (a*65536+b*256+c) / 262144 % 64<64;omega
  ·show 0<=(a*65536+b*256+c) / 262144;omega
  ·show (a*65536+b*256+c) / 262144<_;omega
  ·show some (Fi _)=some (Fi ((a*65536+b*256+c) / 262144 % 64))
   congr 2;omega
 |1,_=>
  refine⟨_,?_,?_,key _ ?_ ?_,?_⟩
  ·show 0<=(a*65536+b*256+c) / 4096 % 64;omega
  ·show (a*65536+b*256+c) / 4096 % 64<64;omega
  ·show 0<=(a*65536+b*256+c) / 4096;omega
  ·show (a*65536+b*256+c) / 4096<_;omega
  ·show some (Fi _)=some (Fi ((a*65536+b*256+c) / 4096 % 64))
   congr 2;omega
 |2,_=>
  refine⟨_,?_,?_,key _ ?_ ?_,?_⟩
  ·show 0<=(a*65536+b*256+c) / 64 % 64;omega
  ·show (a*65536+b*256+c) / 64 % 64<64;omega
  ·show 0<=(a*65536+b*256+c) / 64;omega
  ·show (a*65536+b*256+c) / 64<_;omega
  ·show some (Fi _)=some (Fi ((a*65536+b*256+c) / 64 % 64))
   congr 2;omega
 |3,_=>
  refine⟨_,?_,?_,key _ ?_ ?_,?_⟩
  ·show 0<=(a*65536+b*256+c) / 1 % 64;omega
  ·show (a*65536+b*256+c) / 1 % 64<64;omega
  ·show 0<=(a*65536+b*256+c) / 1;omega
  ·show (a*65536+b*256+c) / 1<_;omega
  ·show some (Fi _)=some (Fi ((a*65536+b*256+c) / 1 % 64))
   congr 2;omega
def Zh:ByteArray:=⟨#[65,66,67,68,69,70,71,72,73,74,75,76,77,78,79,80,81,82,83,84,85,86,87,88,89,90,97,98,99,100,101,102,103,104,105,106,107,108,109,110,111,112,113,114,115,116,117,118,119,120,121,122,48,49,50,51,52,53,54,55,56,57,45,95]⟩
theorem SZ:Zh.size=64:=rfl
theorem WI:∀n:Fin 64,((Zh[n.val]'n.isLt).toNat:Int)=Fi (n.val:Int):=by decide +kernel
theorem Abq {q:Int}(h0:0<=q)(h1:q<64)(h:q.toNat<Zh.size):((Zh[q.toNat]'(h)).toNat:Int)=Fi q:=by
 have:=WI ⟨q.toNat,h⟩;refine this.trans (congrArg Fi ?_);show (q.toNat:Int)=q;omega
theorem Xm {q:Int}(h0:0<=q)(h1:q<64):0<=Fi q∧Fi q<=255:=by
 unfold Fi;split
 ·omega
 split
 ·omega
 split
 ·omega
 split<;>omega
theorem Akk {a b c:Int}(h:Ds [a,b,c]):Ds (Rs a b c):=by
 obtain⟨ha,h⟩:=Bm h;obtain⟨hb,h⟩:=Bm h;obtain⟨hc,h⟩:=Bm h;intro x hx;simp[Rs] at hx;rcases hx with rfl|rfl|rfl|rfl<;>apply Xm<;>omega
theorem Kf {a b:List Int}(ha:Ds a)(hb:Ds b):Ds (a++b):=by
 intro x hx;rcases List.mem_append.1 hx with h|h
 ·exact ha x h
 ·exact hb x h
theorem ZK {a:List Int}(ha:Ds a)(k:Nat):Ds (a.take k):=fun x hx=>ha x (List.mem_of_mem_take hx)
theorem XR {a:List Int}(ha:Ds a)(k:Nat):Ds (a.drop k):=fun x hx=>ha x (List.mem_of_mem_drop hx)
theorem SP:∀(l:List Int),Ds l->l≠[]->∃a b c,Ds [a,b,c]∧Gd l=(Rs a b c).take (min l.length 3+1)++Gd (l.drop (min l.length 3))∧[a,b,c].take (min l.length 3)=l.take (min l.length 3)∧(l.length<3->c=0)∧(l.length<2->b=0)
 |[],_,h=>absurd rfl h
 |[a],h,_=>by
  have:=Bm h;refine⟨a,0,0,?_,?_,rfl,fun _=>rfl,fun _=>rfl⟩
  ·intro x hx;simp at hx;rcases hx with rfl|rfl<;>omega
  ·simp[Gd,Rs]
 |[a,b],h,_=>by
  have h1:=Bm h;have h2:=Bm h1.2;refine⟨a,b,0,?_,?_,rfl,fun _=>rfl,fun h=>?_⟩
  ·intro x hx;simp at hx;rcases hx with rfl|rfl|rfl<;>omega
  ·simp[Gd,Rs]
  ·simp at h
 |a::b::c::r,h,_=>by
  have e:min (a::b::c::r).length 3=3:=by simp
  rw[e];refine⟨a,b,c,?_,?_,rfl,fun h=>?_,fun h=>?_⟩
  ·intro x hx;refine h x ?_;simp at hx ⊢;rcases hx with rfl|rfl|rfl<;>simp
  ·simp[Gd,Rs]
  ·simp at h;omega
  ·simp at h;omega
end
end Go.Proofs.YtodnjibebeghjaaDoor.Pv
