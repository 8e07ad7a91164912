/-
  The proof of SigninVerifies, part 3.
-/
import Derived.Test.YtfmabfhjccngbaaGreatDoorVB
import Derived.StillTail
import Derived.WalkKit
import Derived.ProofKit
import Derived.OpenShut
import Derived.ShutString
import Derived.ChangeOld
import Derived.Below
import Derived.Deep.Slices
import Derived.ChangeSame
import Derived.WideKeyArgs
import Derived.Carry
import Derived.Test.YtfmabfhjccngbaaGreatDoorRows
set_option linter.unusedSimpArgs false
set_option linter.unusedVariables false
namespace Go.Proofs.YtfmabfhjccngbaaGreatDoor.Pv
open Go.IntKind (wrap)
open Go.Proofs.Tryz (prog)
set_option maxRecDepth 1000000
noncomputable section
variable{k:IntKind}{p x:PV}{L d es i j n:Nat}{b shr:Bool}{t:TypeId}{P:Program}{u v:Value}{op:BinOp}{l:Ak}{a:Option Nat}{C:Lf}{F:An}{tm tm':Nat->PV}{f:FuncId}{S:Nat->Prop}{m:List (Nat × Nat)}{hp:Nat->Option Co}{nw:List (Nat × Co)}{G:MD}{Q:Exit->Act->World->Prop}{listed:Array Bool}{q:Nat × Nat}{s:ChangeSpec}{w:Int}{args:Ae}{us:List Value}{fn:Func}
open List renaming flatMap_nil->vx,append_nil->vy,mem_cons->zl,mem_flatMap->zk,mem_of_mem_take->kg,mem_of_mem_drop->kj,map_congr_left->vz,mem_map_of_mem->km,mem_flatten->v2,eq_of_mem_replicate->v7,any_eq_true->zm,mem_map->kl,mem_filterMap->v8,range->za,getElem?_eq_none->zh,getElem?_append_left->zi,getD_eq_getElem?_getD->zj,getElem?_append_right->kf,getElem?_cons_zero->ya,all_eq_true->yb,mem_zipIdx_iff_getElem?->yc,mem_filter->yd,range_add->ye,filter_append->yf,filter_congr->yg,mem_range->yh,eq_nil_of_length_eq_zero->kb,filterMap_append->yi,filter_eq_self->yj,range_succ->yk,take_add_one->yl,all_cons->ym,getElem?_map->zr,mem_iff_getElem?->zq,mem_of_getElem?->zn,nodup_cons->ko,map_append->kn,getElem?_mapIdx->xz,filterMap_cons->yn,flatten_cons->yo,flatten_append->yp,drop_of_length_le->zb,drop_drop->yq,getElem?_eq_getElem->zd,length_take->x7,length_drop->yr,take->yt,ext_getElem->yu,getElem_map->yv,getElem_range->yw,getElem_drop->yx,replicate->qz,getElem_append_left->yy,getElem_append_right->yz,getD_cons_zero->ga,getD_cons_succ->gb,take_succ_cons->ze,take_zero->zs,drop_succ_cons->gc,drop_nil->gd,append_eq->ge,range'->gg,range'_succ->gh,singleton_append->gi
open Nat renaming mul_add->kq,blt->jh,le_mul_of_pos_right->gj,lt_of_succ_le->kw,testBit_or->gk,ble_eq_true_of_le->gl,add_comm->jj,sub_zero->gm,succ_mul->ji,mul_pos->gn,mul_le_mul_right->ky,shiftLeft_add_eq_or_of_lt->gp,shiftLeft_eq->gq,min_eq_left->va,pow_le_pow_right->gr
open Op renaming operands->gs
open Bool renaming or_false->vd,or_eq_true->gt,or_eq_false_iff->ve,and_eq_false_iff->gu,not_eq_true'->qg,false_or->gv,not_true->qa,not_false->qb
open Option renaming map_some->jz,isNone_iff_eq_none->vu,toList->vv
open _root_.Array renaming toList_append->gw,getElem?_eq_getElem->gx,getElem?_toList->gy,getElem?_eq_some_iff->gz,replicate->g0
open Int renaming pow_succ->g5,mul_assoc->g6,mul_comm->g7,eq_ofNat_of_zero_le->g8,natCast_mul->g9,le_of_lt->wb
open BitVec renaming ofInt->zx,toNat_ofInt->we,toNat_or->wg
section
section
variable {R R':Type}{Rel:Option R->Option R'->Prop}
theorem Np(a:Rel none none){K:Int->Option R}{K':Int->Option R'}(b:∀n,Rel (K n) (K' n)):Rel (Bi k p K) (Bi k p K'):=by
 unfold Bi;split
 ·split<;>first|exact b _|exact a
 ·exact a
theorem F2(a:Rel none none){K:IntKind->Int->Option R}{K':IntKind->Int->Option R'}(b:∀k n,Rel (K k n) (K' k n)):Rel (Fa p K) (Fa p K'):=by unfold Fa;split<;>first|exact b _ _|exact a
theorem Km(a:Rel none none){K:Bool->Option R}{K':Bool->Option R'}(b:∀n,Rel (K n) (K' n)):Rel (Bh p K) (Bh p K'):=by unfold Bh;split<;>first|exact b _|exact a
theorem Ij(a:Rel none none){K:ByteArray->Option R}{K':ByteArray->Option R'}(b:∀n,Rel (K n) (K' n)):Rel (At p K) (At p K'):=by unfold At;split<;>first|exact b _|exact a
theorem Ip(b:Rel none none){K:Bool->Nat->Ae->Option R}{K':Bool->Nat->Ae->Option R'}(d:∀z n c,Rel (K z n c) (K' z n c)):Rel (Y9 es p K) (Y9 es p K'):=by
 unfold Y9;split
 ·rename_i a _ _;cases Nat.beq a es
  ·exact b
  ·exact d _ _ _
 ·exact d _ _ _
 ·exact b
theorem A8h(b:Rel none none){K:PV->Option R}{K':PV->Option R'}(c:∀p,Rel (K p) (K' p)):Rel (fsK es p K) (fsK es p K'):=by
 unfold fsK;split
 ·rename_i a _ _;cases Nat.beq a es
  ·exact b
  ·exact c _
 ·exact Ip b λ_ _ _=>c _
theorem Ase(b:Rel none none){K:Nat->Ae->Option R}{K':Nat->Ae->Option R'}(d:∀n c,Rel (K n c) (K' n c)):Rel (K5 es p K) (K5 es p K'):=by
 unfold K5;split
 ·rename_i a _ _;cases Nat.beq a es
  ·exact b
  ·exact d _ _
 ·exact b
theorem Bf(a:Rel none none){K:Option R}{K':Option R'}(c:b=true->Rel K K'):Rel (As b K) (As b K'):=by
 cases b
 ·exact a
 ·exact c rfl
theorem XV{x y:Option R}{a c:Option R'}(d:Rel x a)(e:Rel y c):Rel (Ap b x y) (Ap b a c):=by
 cases b
 ·exact e
 ·exact d
theorem E0(b:Rel none none){α:Type}{o:Option α}{K:α->Option R}{K':α->Option R'}(c:∀a,o=some a->Rel (K a) (K' a)):Rel (Dq o K) (Dq o K'):=by
 cases o
 ·exact b
 ·exact c _ rfl
theorem Cm(b:Rel none none){α:Type}{l:List α}{K:α->List α->Option R}{K':α->List α->Option R'}(c:∀a r,l=a::r->Rel (K a r) (K' a r)):Rel (Ad l K) (Ad l K'):=by
 cases l
 ·exact b
 ·exact c _ _ rfl
theorem Im(a:Rel none none){α:Type}{l:List α}{K:Option R}{K':Option R'}(b:Rel K K'):Rel (Ag l K) (Ag l K'):=by
 cases l
 ·exact b
 ·exact a
theorem O4(a:Rel none none){K:Ae->Option R}{K':Ae->Option R'}(b:∀c,p=.agg c->Rel (K c) (K' c)):Rel (Cr p K) (Cr p K'):=by
 unfold Cr;split
 ·exact b _ rfl
 ·exact a
theorem Ax6(a:Rel none none){K:Ae->Option R}{K':Ae->Option R'}(b:∀c,Rel (K c) (K' c)):Rel (IR p K) (IR p K'):=by
 unfold IR;split
 ·exact b _
 ·exact a
theorem Aeb(a:Rel none none){r:Option A3}{K:Ae->List Ae->Option R}{K':Ae->List Ae->Option R'}(b:∀v o,Rel (K v o) (K' v o)):Rel (Ao r K) (Ao r K'):=by
 unfold Ao;split
 ·exact b _ _
 ·exact a
theorem Atg(b:Rel none none){K:Value->Option R}{K':Value->Option R'}(a:∀v,Rel (K v) (K' v)):Rel (fnK p K) (fnK p K'):=by
 unfold fnK;split
 ·exact a _
 ·exact a _
 ·exact b
theorem A8e(c:Rel none none){K:FuncId->Option R}{K':FuncId->Option R'}(d:∀v,Rel (K v) (K' v)):Rel (fvK p K) (fvK p K'):=by
 unfold fvK;split
 ·rename_i f a b;cases (a.isEmpty&&b.isEmpty)
  ·exact c
  ·exact d _
 ·exact c
theorem Ye(a:Rel none none){t:CT}{K:PV->Option R}{K':PV->Option R'}(b:∀p,Rel (K p) (K' p)):Rel (TN t p K) (TN t p K'):=by
 unfold TN;split
 ·exact Np a λ_=>b _
 ·exact Km a λ_=>b _
 ·exact Ij a λ_=>b _
 ·exact Ip a λ_ _ _=>b _
 ·exact Atg a λ_=>b _
theorem A61(a:Rel none none){t:CT}{K:PV->Option R}{K':PV->Option R'}(b:∀p,Rel (K p) (K' p)):Rel (fcK t p K) (fcK t p K'):=by
 unfold fcK;split
 ·exact A8h a b
 ·exact Ye a b
theorem BV(b:Rel none none):∀{ts:List CT}{cells:Ae}{off:Nat}{K:Ae->Option R}{K':Ae->Option R'},(∀c,Rel (K c) (K' c))->Rel (GC ts cells off K) (GC ts cells off K')
 |[],_,_,_,_,a=>a _
 |_::_,_,_,_,_,a=>Ye b λ_=>BV b λ_=>a _
theorem Wx(b:Rel none none):∀{ts:List CT}{cells:Ae}{off:Nat}{K:Ae->Option R}{K':Ae->Option R'},(∀c,Rel (K c) (K' c))->Rel (Xo ts cells off K) (Xo ts cells off K')
 |[],_,_,_,_,a=>a _
 |_::_,_,_,_,_,a=>A61 b λ_=>Wx b λ_=>a _
theorem OW(a:Rel none none){g:Bool}{cells:Ae}{K:PV->Option R}{K':PV->Option R'}(b:∀p,Rel (K p) (K' p)):Rel (mkV g cells K) (mkV g cells K'):=by
 cases g
 ·exact Cm a λ_ _ _=>Im a (b _)
 ·exact b _
theorem Aum(a:Rel none none){K:PV->Option R}{K':PV->Option R'}(d:∀p,Cy p=[]->Rel (K p) (K' p))(b:∀c,Rel (K (.agg c)) (K' (.agg c))):Rel (cvK P t v K) (cvK P t v K'):=by
 unfold cvK;split
 ·exact Bf a λ_=>BV a λ_=>b _
 ·split
  ·exact d _ rfl
  ·exact a
 ·exact d _ rfl
theorem Az4(a:Rel none none){x y:Int}{K:Bool->Option R}{K':Bool->Option R'}(b:∀n,Rel (K n) (K' n)):Rel (A6y op x y K) (A6y op x y K'):=by unfold A6y;split<;>first|exact b _|exact a
theorem Aq7(b:Rel none none){x y:Int}{K:PV->Option R}{K':PV->Option R'}(a:∀n,Rel (K n) (K' n)):Rel (Ab9 op k x y K) (Ab9 op k x y K'):=by unfold Ab9;split<;>first|exact a _|exact Bf b λ_=>a _|exact Az4 b λ_=>a _
theorem Ao7(a:Rel none none){x y:ByteArray}{K:PV->Option R}{K':PV->Option R'}(b:∀n,Rel (K n) (K' n)):Rel (Ab1 op x y K) (Ab1 op x y K'):=by unfold Ab1;split<;>first|exact b _|exact Bf a λ_=>b _|exact a
theorem Agc(b:Rel none none){e:Bool}{K:PV->Option R}{K':PV->Option R'}(a:∀n,Rel (K n) (K' n)):Rel (Aby e p K) (Aby e p K'):=by unfold Aby;split<;>first|exact a _|exact XV (a _) (XV (a _) (a _))|exact XV (a _) (a _)|exact b
theorem Amj(a:Rel none none):∀{ts:List CT}{ps c:Ae}{K:Bool->Option R}{K':Bool->Option R'},(∀b,Rel (K b) (K' b))->Rel (Sr ts ps c K) (Sr ts ps c K'):=by
 intro ts
 induction ts with
 |nil=>
  intro ps c K K' d;cases ps<;>cases c<;>first|exact d _|exact a
 |cons t ts e=>
  intro ps c K K' d;cases ps with
  |nil=>cases t<;>cases c<;>exact a
  |cons p ps=>
   cases c with
   |nil=>cases t<;>exact a
   |cons q c=>
    cases t
    ·exact Np a λ_=>Np a λ_=>e λ_=>d _
    ·exact Km a λ_=>Km a λ_=>e λ_=>d _
    ·exact Ij a λ_=>Ij a λ_=>e λ_=>d _
    ·exact a
    ·exact a
theorem Az5(a:Rel none none){y:PV}{K:PV->Option R}{K':PV->Option R'}(b:∀p,Rel (K p) (K' p)):Rel (A0b P op t x y K) (A0b P op t x y K'):=by
 unfold A0b;split
 ·split
  ·exact Np a λ_=>F2 a λ_ _=>Bf a λ_=>b _
  ·exact Np a λ_=>F2 a λ_ _=>Bf a λ_=>b _
  ·exact Np a λ_=>Np a λ_=>Aq7 a b
 ·exact Ij a λ_=>Ij a λ_=>Ao7 a b
 ·split
  ·exact Km a λ_=>Km a λ_=>b _
  ·exact Km a λ_=>Km a λ_=>b _
  ·exact a
 ·split
  ·exact Agc a λ_=>b _
  ·exact Agc a λ_=>b _
  ·exact a
 ·split
  ·exact b _
  ·exact b _
  ·exact a
 ·exact a
theorem Akv(a:Rel none none){y:PV}{K:PV->Option R}{K':PV->Option R'}(b:∀p,Rel (K p) (K' p)):Rel (KG P op t x y K) (KG P op t x y K'):=by
 unfold KG;split
 ·split
  ·exact Bf a λ_=>O4 a λ_ _=>O4 a λ_ _=>Amj a λ_=>b _
  ·exact Bf a λ_=>O4 a λ_ _=>O4 a λ_ _=>Amj a λ_=>b _
  ·exact a
 ·exact Az5 a b
theorem A9h(a:Rel none none){op:UnOp}{K:PV->Option R}{K':PV->Option R'}(b:∀p,Rel (K p) (K' p)):Rel (unK op x K) (unK op x K'):=by unfold unK;split<;>first|exact Km a λ_=>b _|exact F2 a λ_ _=>b _|exact a
theorem Ft(a:Rel none none){p:Option PV}{K:Nat->Option R}{K':Nat->Option R'}(b:∀n,Rel (K n) (K' n)):Rel (Ku p d K) (Ku p d K'):=by
 unfold Ku;split
 ·exact b _
 ·exact F2 a λ_ _=>Bf a λ_=>b _
theorem TV(a:Rel none none){K:PV->Option R}{K':PV->Option R'}(b:∀n,Rel (K n) (K' n)):Rel (JE x d K) (JE x d K'):=by unfold JE;split<;>first|exact b _|exact a
theorem Abb(a:Rel none none){i:Int}{K:PV->Option R}{K':PV->Option R'}(b:∀p,Rel (K p) (K' p)):Rel (Rl P t x i K) (Rl P t x i K'):=by
 unfold Rl;split
 ·exact Bf a λ_=>Bf a λ_=>TV a b
 ·refine Bf a λ_=>?_;split
  ·exact Bf a λ_=>Bf a λ_=>b _
  ·exact Ip a λ_ _ _=>Bf a λ_=>b _
 ·exact a
theorem UU(a:Rel none none){Kb:Nat->Option (Nat × Nat)}:∀{ps:List (Nat × PV)} {cells:Ae}{K:Ae->Option R}{K':Ae->Option R'},(∀c,Rel (K c) (K' c))->Rel (GV Kb ps cells K) (GV Kb ps cells K')
 |[],_,_,_,b=>b _
 |(_,_)::_,_,_,_,b=>E0 a λ_ _=>Bf a λ_=>UU a b
theorem JG(a:Rel none none){K:Ae->Option R}{K':Ae->Option R'}(b:∀p,Rel (K p) (K' p)):Rel (Kx P t K) (Kx P t K'):=
 E0 a λ_ _=>Bf a λ_=>BV a b
theorem Ay7(a:Rel none none){y:PV}{K:PV->Option R}{K':PV->Option R'}(b:∀p,Rel (K p) (K' p)):Rel (A9m x y K) (A9m x y K'):=
 F2 a λ_ _=>Np a λ_=>b _
theorem A2s(a:Rel none none){y:PV}{K:PV->Option R}{K':PV->Option R'}(b:∀p,Rel (K p) (K' p)):Rel (A75 x y K) (A75 x y K'):=
 F2 a λ_ _=>Np a λ_=>b _
theorem Ayy(a:Rel none none){K:Nat->Option R}{K':Nat->Option R'}(b:∀p,Rel (K p) (K' p)):Rel (Awc P t x K) (Awc P t x K'):=by
 unfold Awc;split
 ·exact Ij a λ_=>b _
 ·exact b _
 ·split
  ·exact Bf a λ_=>b _
  ·exact Ip a λ_ _ _=>b _
 ·exact a
def Agr(Rel:Option R->Option R'->Prop)(f f':Nat->Option Ae)(l:Cl):Prop:=∀i∈l,f i=f' i\/(f i=none/\∀b,Rel none b)
variable {f f':Nat->Option Ae}
theorem Agr.sub{l a:Cl}(h:Agr Rel f f' l)(b:∀i∈a,i∈l):Agr Rel f f' a:=λi hi=>h i (b i hi)
theorem PA(a:Rel none none){l:Cl}{id:Nat}(b:Agr Rel f f' l)(hi:id∈l){K:Ae->Option R}{K':Ae->Option R'}(d:∀c,f id=some c->Rel (K c) (K' c)):Rel (Dq (f id) K) (Dq (f' id) K'):=by
 rcases b id hi with h|⟨h,e⟩
 ·rw[<-h];exact E0 a d
 ·rw[h];exact e _
theorem AL(a:Rel none none){K:Nat->Ae->Option R}{K':Nat->Ae->Option R'}(e:Agr Rel f f' (A6 p))(d:∀n c,Rel (K n c) (K' n c)):Rel (Am2 f es p K) (Am2 f' es p K'):=by
 unfold Am2;split
 ·rename_i id b off n;cases Nat.beq b es
  ·exact a
  ·exact PA a e (by simp[A6]) λ_ _=>Bf a λ_=>d _ _
 ·exact Ip a λ_ _ _=>d _ _
theorem A0l(a:Rel none none){t:CT}{K:PV->Cl->Option R}{K':PV->Cl->Option R'}(e:Agr Rel f f' (A6 p))(b:∀c m,(∀i∈m,f i≠none)->Rel (K c m) (K' c m)):Rel (Xu f t p K) (Xu f' t p K'):=by
 unfold Xu;split
 ·split
  ·rename_i id d off n;cases Nat.beq d _
   ·exact a
   ·exact PA a e (by simp[A6]) λc g=>Bf a λ_=>b _ _ (by simp[g])
  ·exact Ip a λ_ _ _=>b _ _ Ψ
 ·exact Ye a λ_=>b _ _ Ψ
theorem KA(a:Rel none none):∀{ts:List CT}{ps:Ae}{K:Ae->Cl->Option R}{K':Ae->Cl->Option R'},Agr Rel f f' (ps.flatMap A6)->(∀c m,(∀i∈m,f i≠none)->Rel (K c m) (K' c m))->Rel (Wn f ts ps K) (Wn f' ts ps K')
 |[],[],_,_,_,b=>b _ _ Ψ
 |[],_::_,_,_,_,_=>a
 |_::_,[],_,_,_,_=>a
 |_::_,p::ps,_,_,e,b=>A0l a (λi hi=>e i (by simp only[Le,B8];exact .inl hi)) λ_ m g=>KA a (λi hi=>e i (by simp only[Le,B8];exact .inr hi)) λ_ j d=>b _ _ λi hi=>by
   rcases B8.1 hi with h|h
   ·exact g i h
   ·exact d i h
theorem A09(a:Rel none none){K:PV->Cl->Option R}{K':PV->Cl->Option R'}(d:Agr Rel f f' (Dj p))(e:∀c m,(∀i∈m,f i≠none)->Rel (K c m) (K' c m)):Rel (Aq3 P f t p K) (Aq3 P f' t p K'):=by
 unfold Aq3
 have g:∀i,i∈[p].flatMap A6->i∈Dj p:=by
  intro i hi;simp only[Le,vx,vy] at hi;cases p<;>first|exact hi|simp[A6] at hi
 cases C6 P t
 ·exact KA a (λi hi=>d i (g i hi)) λ_ _ b=>Cm a λ_ _ _=>Im a (e _ _ b)
 ·refine O4 a λc h=>?_;subst h;exact KA a (λi hi=>d i hi) λ_ _ b=>e _ _ b
theorem Afq(a:Rel none none){P:Program}:∀{ts:List TypeId}{ps:Ae}{K:Ae->Cl->Option R}{K':Ae->Cl->Option R'},Agr Rel f f' (ps.flatMap Dj)->(∀c m,(∀i∈m,f i≠none)->Rel (K c m) (K' c m))->Rel (Acq P f ts ps K) (Acq P f' ts ps K')
 |[],[],_,_,_,b=>b _ _ Ψ
 |[],_::_,_,_,_,_=>a
 |_::_,[],_,_,_,_=>a
 |_::_,p::ps,_,_,e,b=>A09 a (λi hi=>e i (by simp only[Le,B8];exact .inl hi)) λ_ m g=>Afq a (λi hi=>e i (by simp only[Le,B8];exact .inr hi)) λ_ j d=>b _ _ λi hi=>by
   rcases B8.1 hi with h|h
   ·exact g i h
   ·exact d i h
theorem Aqe(a:Rel none none){lo hi:Option PV}{K:PV->Option R}{K':PV->Option R'}(d:(∃n e,P.underlying t=some (.array n e))->Agr Rel f f' (A6 x))(b:∀c,Rel (K c) (K' c)):Rel (TF P f t x lo hi K) (TF P f' t x lo hi K'):=by
 unfold TF;split
 ·exact Ij a λ_=>Ft a λ_=>Ft a λ_=>Bf a λ_=>b _
 ·refine Bf a λ_=>?_;split
  ·exact Bf a λ_=>Ft a λ_=>Ft a λ_=>Bf a λ_=>b _
  ·exact Ip a λ_ _ _=>Ft a λ_=>Ft a λ_=>Bf a λ_=>b _
 ·rename_i n e g;refine Bf a λ_=>?_;split
  ·rename_i id off;exact PA a (d ⟨_,_,g⟩) (by simp[A6]) λ_ _=>Bf a λ_=>Ft a λ_=>Ft a λ_=>Bf a λ_=>b _
  ·exact a
 ·exact a
theorem Amp(a:Rel none none){lo hi mx:Option PV}{K:PV->List (Nat × Co)->Option R}{K':PV->List (Nat × Co)->Option R'}(b:∀c,Rel (K c [(d,.ar false [])]) (K' c [(d,.ar false [])])):Rel (JK P d t x lo hi mx K) (JK P d t x lo hi mx K'):=by
 unfold JK;split
 ·refine Bf a λ_=>?_;split
  ·exact Bf a λ_=>Ft a λ_=>Ft a λ_=>Ft a λ_=>Bf a λ_=>b _
  ·exact Ip a λ_ _ _=>Ft a λ_=>Ft a λ_=>Ft a λ_=>Bf a λ_=>b _
 ·exact a
theorem Ael{nz:Bool}{g g':Nat->Option Ae}(a:Rel none none){K:PV->Option R}{K':PV->Option R'}(j:∀i∈A6 x,(f i=f' i/\g i=g' i)\/(f i=none/\g i=none/\∀b,Rel none b))(d:∀c,Rel (K c) (K' c)):Rel (QG nz P f g t x K) (QG nz P f' g' t x K'):=by
 unfold QG;split
 ·rename_i id off;refine Bf a λ_=>?_;rcases j id (by simp[A6]) with⟨e,h⟩|⟨e,h,k⟩
  ·rw[<-e,<-h];split
   ·exact BV a λ_=>OW a λ_=>d _
   ·exact E0 a λ_ _=>Wx a λ_=>OW a d
  ·rw[e,h];exact k _
 ·exact Bf a λ_=>BV a λ_=>OW a λ_=>d _
 ·exact a
theorem Axr(a:Rel none none){e c:TypeId}{K:PV->List (Nat × Co)->Option R}{K':PV->List (Nat × Co)->Option R'}(i:P.underlying c=some .string->Agr Rel f f' (A6 x))(g:∀v b,(∀q∈b,q.1=d)->Rel (K v b) (K' v b)):Rel (ZQ P f d e c x K) (ZQ P f' d e c x K'):=by
 unfold ZQ;split
 ·exact Bf a λ_=>F2 a λ_ _=>g _ _ Ψ
 ·rename_i h;split
  ·exact Ij a λ_=>g _ _ Ψ
  ·split
   ·exact AL a (i h) λ_ _=>Bf a λ_=>E0 a λ_ _=>g _ _ Ψ
   ·exact AL a (i h) λ_ _=>Bf a λ_=>E0 a λ_ _=>g _ _ Ψ
   ·exact a
  ·exact a
 ·split
  ·exact Ij a λ_=>Bf a λ_=>g _ _ Ψ
  ·exact a
 ·exact a
theorem Ay2(a:Rel none none){id:Nat}{t:CT}{K:PV->List (Nat × Co)->Option R}{K':PV->List (Nat × Co)->Option R'}(d:∀c b,(∀q∈b,q.1=id)->Rel (K c b) (K' c b)):Rel (Azg shr id t p K) (Azg shr id t p K'):=by
 unfold Azg;split
 ·cases shr
  ·exact Ase a λ_ _=>d _ _ Ψ
  ·exact Ip a λ_ _ _=>d _ _ Ψ
 ·exact Ye a λ_=>d _ _ Ψ
theorem JO(a:Rel none none){shr:Bool}{N:Nat}:∀{ts:List CT}{id:Nat}{ps:Ae}{K:Ae->List (Nat × Co)->Option R} {K':Ae->List (Nat × Co)->Option R'},(∀c b,(∀q∈b,∃j,q.1=id+N*j)->Rel (K c b) (K' c b))->Rel (BQ shr N id ts ps K) (BQ shr N id ts ps K')
 |[],_,_,_,_,d=>Im a (d _ _ Ψ)
 |_::_,id,_,_,_,d=>Cm a λ_ _ _=>Ay2 a λ_ b f=>JO a λ_ bs e=>d _ _ λq g=>by
   rcases B8.1 g with h|h
   ·exact⟨0,by rw[f q h];simp⟩
   ·obtain⟨j,i⟩:=e q h;exact⟨j+1,by rw[i,kq];omega⟩
theorem Ayz(a:Rel none none){N id:Nat}{K:PV->List (Nat × Co)->Option R}{K':PV->List (Nat × Co)->Option R'}(e:∀c b,(∀q∈b,∃j,q.1=id+N*j)->Rel (K c b) (K' c b)):Rel (Auw P shr N id t p K) (Auw P shr N id t p K'):=by
 unfold Auw;split
 ·refine Ax6 a λps=>JO a λ_ _ d=>e _ _ λq f=>?_;rcases zl.1 f with rfl|f
  ·exact⟨0,Ψ⟩
  ·obtain⟨j,g⟩:=d q f;exact⟨j+1,by rw[g,kq];omega⟩
 cases C6 P t
 ·exact JO a λ_ _ d=>Cm a λ_ _ _=>Im a (e _ _ d)
 ·exact O4 a λ_ _=>JO a λ_ _ d=>e _ _ d
theorem UC(a:Rel none none){P:Program}{shr:Bool}{N:Nat}:∀{ts:List TypeId}{id:Nat}{ps:Ae}{K:Ae->List (Nat × Co)->Option R} {K':Ae->List (Nat × Co)->Option R'},(∀c b,(∀q∈b,∃j,q.1=id+N*j)->Rel (K c b) (K' c b))->Rel (VN P shr N id ts ps K) (VN P shr N id ts ps K')
 |[],_,_,_,_,d=>Im a (d _ _ Ψ)
 |t::_,id,_,_,_,d=>Cm a λ_ _ _=>Ayz a λ_ b f=>UC a λ_ bs e=>d _ _ λq g=>by
   rcases B8.1 g with h|h
   ·exact f q h
   ·obtain⟨j,i⟩:=e q h;exact⟨Amy P t+j,by rw[i,kq];omega⟩
end
theorem ID(h:i∈A6 p):i∈Dj p:=by cases p<;>first|exact h|simp[A6] at h
theorem Lx(h:i∈Dj p):i∈Cy p:=by cases p<;>first|exact h|simp[Dj,A6] at h
theorem Rb(h:i∈A6 p):i∈Cy p:=Lx (ID h)
section
variable {R R':Type}{Rel:Option R->Option R'->Prop}{P:Program}{N:Nat}{tm tm':Nat->PV}{f f' g g':Nat->Option Ae}{o:Oper}
theorem Ab8(b:Rel none none){x:Operand}{K:PV->Option R}{K':PV->Option R'}(c:Da tm x=Da tm' x)(a:∀p,Rel (K p) (K' p)):Rel (UA P t tm x K) (UA P t tm' x K'):=by
 unfold UA;split
 ·exact Aum b (λ_ _=>a _) (λ_=>a _)
 ·rw[c];exact a _
theorem Azx(a:Rel none none){t:CT}{K:PV->Option R}{K':PV->Option R'}(b:∀p,A6 p=[]->Rel (K p) (K' p)):Rel (TN t p K) (TN t p K'):=by
 unfold TN;split
 ·exact Np a λ_=>b _ rfl
 ·exact Km a λ_=>b _ rfl
 ·exact Ij a λ_=>b _ rfl
 ·exact Ip a λ_ _ _=>b _ rfl
 ·exact Atg a λ_=>b _ rfl
theorem Afm(b:Rel none none):∀{ts:List CT}{cells:Ae}{off:Nat}{K:Ae->Option R}{K':Ae->Option R'},(∀c,(∀p∈c,A6 p=[])->Rel (K c) (K' c))->Rel (GC ts cells off K) (GC ts cells off K')
 |[],_,_,_,_,a=>a _ Ψ
 |_::_,_,_,_,_,a=>Azx b λc d=>Afm b λe EF=>a _ (by
   intro p hp;rcases zl.1 hp with h|h
   ·rw[h];exact d
   ·exact EF p h)
theorem QO(a:Rel none none){K:Ae->Option R}{K':Ae->Option R'}(b:∀c,(∀p∈c,A6 p=[])->Rel (K c) (K' c)):Rel (Kx P t K) (Kx P t K'):=
 E0 a λ_ _=>Bf a λ_=>Afm a b
theorem IH{c:PV}(h:c∈cellsOf p)(hi:i∈A6 c):i∈Dj p:=by
 unfold cellsOf at h;split at h
 ·exact zk.2 ⟨c,h,hi⟩
 ·simp at h;subst h;exact ID hi
theorem Ar0{cells new:Ae}{off:Nat}{c:PV}(h:c∈B9 cells new off):c∈cells\/c∈new:=by
 unfold B9 at h;rcases B8.1 h with h|h
 ·rcases B8.1 h with h|h
  ·exact .inl (kg h)
  ·exact .inr h
 ·exact .inl (kj h)
theorem Abc(a:Rel none none){Kb:Nat->Option (Nat × Nat)}{S:Nat->Prop}:∀{ps:List (Nat × PV)} {cells:Ae}{K:Ae->Option R}{K':Ae->Option R'},(∀c∈cells,∀i∈A6 c,S i)->(∀q∈ps,∀i∈Dj q.2,S i) ->
  (∀cs,(∀c∈cs,∀i∈A6 c,S i)->Rel (K cs) (K' cs))->Rel (GV Kb ps cells K) (GV Kb ps cells K')
 |[],_,_,_,b,_,d=>d _ b
 |(_,p)::_,_,_,_,b,e,d=>E0 a λ_ _=>Bf a λ_=>Abc a (λc f i hi=>by
   rcases Ar0 f with h|h
   ·exact b c h i hi
   ·exact e (_,p) OJ i (IH h hi)) (λq g=>e q (BL _ g)) d
theorem WD(a:Rel none none):∀{ts:List CT}{ps:Ae}{K:Ae->Cl->Option R}{K':Ae->Cl->Option R'},(∀t∈ts,∀es,t ≠ .sl es)->(∀c,Rel (K c []) (K' c []))->Rel (Wn g ts ps K) (Wn g' ts ps K')
 |[],[],_,_,_,b=>b _
 |[],_::_,_,_,_,_=>a
 |_::_,[],_,_,_,_=>a
 |t::ts,p::ps,K,K',ht,b=>by
  show Rel (Xu g t p _) (Xu g' t p _)
  have:∀{g:Nat->Option Ae} {S:Type} {L:PV->Cl->Option S},Xu g t p L=TN t p λc=>L c []:=by
   intro g S L;cases t with
   |sl es=>exact absurd rfl (ht _ Ψ es)
   |_=>rfl
  rw[this,this];exact Ye a λc=>WD a (λt h=>ht t (by simp[h])) λd=>b _
theorem A3u(a:Rel none none){K:Nat->Ae->Option R}{K':Nat->Ae->Option R'}(d:Agr Rel g g' (A6 x))(b:∀m c,Rel (K m c) (K' m c)):Rel (Arm P g es t x K) (Arm P g' es t x K'):=by
 unfold Arm;split
 ·exact Bf a λ_=>Ij a λ_=>b _ _
 ·exact AL a d b
 ·exact a
theorem Azh(a:Rel none none){K:Nat->Option R}{K':Nat->Option R'}(b:∀n,Rel (K n) (K' n)):Rel (Ava P t x K) (Ava P t x K'):=by
 unfold Ava;split
 ·exact Ip a λ_ _ _=>Bf a λ_=>b _
 ·exact a
theorem Ame(a:Rel none none){tx:TypeId}{K:PV->List (Nat × Co)->Option R}{K':PV->List (Nat × Co)->Option R'}(b:Agr Rel g g' (A6 x))(c:∀v nw,Rel (K v nw) (K' v nw)):Rel (KB P g d t tx x K) (KB P g' d t tx x K'):=by
 unfold KB;split
 ·exact Bf a λ_=>A3u a b λ_ _=>Bf a λ_=>c _ _
 ·exact a
theorem ZP(a:Rel none none){K:PV->Cl->List (Nat × Co)->Option R}{K':PV->Cl->List (Nat × Co)->Option R'}(Sa:∀x∈o.op.operands.toList,Da tm x=Da tm' x)(E:Ma P o.op=true->∀x∈o.op.operands.toList,∀i∈Cy (Da tm' x),(f i=f' i/\g i=g' i)\/(f i=none/\g i=none/\∀b,Rel none b))(A:∀v fz nw,(Ma P o.op=false->fz=[]/\∀q∈nw,o.dst=some q.1)->(∀i∈fz,g i≠none)->Rel (K v fz nw) (K' v fz nw)):
  Rel (Aa2 C P N F tm f g o K) (Aa2 C P N F tm' f' g' o K'):=by
 have r:∀v,Rel (K v [] []) (K' v [] []):=λv=>A v [] [] (λ_=>⟨rfl,Ψ⟩) Ψ;have hf:Ma P o.op=true->∀x∈o.op.operands.toList,Agr Rel f f' (Cy (Da tm' x)):=λh x j i hi=>(E h x j i hi).imp (·.1) λh=>⟨h.1,h.2.2⟩;have L:Ma P o.op=true->∀x∈o.op.operands.toList,Agr Rel g g' (Cy (Da tm' x)):=λh x j i hi=>(E h x j i hi).imp (·.2) λh=>⟨h.2.1,h.2.2⟩;unfold Aa2;generalize hop:o.op=op at *
 split
 ·exact Ab8 a (Sa _ (by simp[gs])) r
 ·exact Ab8 a (Sa _ (by simp[gs])) r
 ·rename_i c x y;rw[Sa c (by simp[gs]),Sa x (by simp[gs]),Sa y (by simp[gs])];exact Km a λ_=>XV (r _) (r _)
 ·exact E0 a λd hd=>JG a λ_=>A _ _ _ (λ_=>⟨rfl,by simp[hd]⟩) Ψ
 ·rename_i t x;rw[Sa x (by simp[gs])];refine E0 a λd hd=>Bf a λ_=>?_;cases DV P t
  ·exact Wx a λ_=>A _ _ _ (λ_=>⟨rfl,by simp[hd]⟩) Ψ
  ·exact BV a λ_=>A _ _ _ (λ_=>⟨rfl,by simp[hd]⟩) Ψ
 ·rename_i t ps
  have:(ps.toList.map λq=>(q.1,Da tm q.2))=ps.toList.map λq=>(q.1,Da tm' q.2):=by
   apply vz;intro q B;rw[Sa q.2 (by simp only[gs];exact km B)]
  rw[this];exact Bf a λ_=>JG a λ_=>UU a λ_=>Wx a λ_=>r _
 ·rename_i t n ps
  have:(ps.toList.map λq=>(q.1,Da tm q.2))=ps.toList.map λq=>(q.1,Da tm' q.2):=by
   apply vz;intro q B;rw[Sa q.2 (by simp only[gs];exact km B)]
  rw[this];refine E0 a λd hd=>?_;split
  ·rename_i e hu;cases D:Pz P [e]
   ·refine Bf a λ_=>QO a λz hz=>UU a λcs=>WD a ?_ λM=>A _ _ _ (λ_=>⟨rfl,by simp[hd]⟩) Ψ;intro c w es O;obtain⟨l,Q,w⟩:=v2.1 w;rw[v7 Q] at w;subst O
    have:Pz P [e]=true:=by
     unfold Pz;simp only[List.any_cons,List.any_nil,vd,gt];exact .inr (zm.2 ⟨_,w,rfl⟩)
    rw[this] at D;cases D
   refine Bf a λ_=>QO a λz hz=>Abc (S:=λi=>∃x∈(Op.buildSlice t n ps).operands.toList,i∈Cy (Da tm' x)) a ?_ ?_ λcs EF=>?_
   ·intro c w i hi;obtain⟨l,Q,w⟩:=v2.1 w;rw[v7 Q] at w;rw[hz c w] at hi;simp at hi
   ·intro q B i hi;obtain⟨q',Iw,rfl⟩:=kl.1 B;exact⟨q'.2,by simp only[gs];exact km Iw,Lx hi⟩
   ·refine KA a (λi hi=>?_) λM m T=>A _ _ _ (λh=>by simp[Ma,hu,D] at h) T;obtain⟨c,w,hi⟩:=zk.1 hi;obtain⟨x,j,U⟩:=EF c w i hi;exact L (by simp[Ma,hu,D]) x j i U
  ·exact a
 ·rename_i t x;rw[Sa x (by simp[gs])];exact Ael a (λi hi=>E (by simp[Ma]) x (by simp[gs]) i (Rb hi)) r
 ·rename_i x;rw[Sa x (by simp[gs])];exact TV a r
 ·rename_i V t x y _;rw[Sa x (by simp[gs]),Sa y (by simp[gs])];exact Akv a r
 ·rename_i V t x;rw[Sa x (by simp[gs])];exact A9h a r
 ·rename_i src dst x;rw[Sa x (by simp[gs])];exact Axr a (λW i hi=>L (by simp[Ma,W]) x (by simp[gs]) i (Rb hi)) λv b X=>E0 a λd hd=>A _ _ _ (λ_=>⟨rfl,λq B=>by rw[hd,X q B,hd];rfl⟩) Ψ
 ·rename_i t x y;rw[Sa x (by simp[gs]),Sa y (by simp[gs])];refine E0 a λd hd=>?_;split
  ·exact F2 a λ_ _=>F2 a λ_ _=>Bf a λ_=>JG a λ_=>A _ _ _ (λ_=>⟨rfl,by simp[hd]⟩) Ψ
  ·exact a
 ·rename_i t x H hi mx;split
  ·rw[Sa x (by simp[gs])]
   have Y:H.map (Da tm)=H.map (Da tm'):=by
    cases H with
    |none=>rfl
    |some y=>simp only[jz];rw[Sa y (by simp[gs])]
   have Z:hi.map (Da tm)=hi.map (Da tm'):=by
    cases hi with
    |none=>rfl
    |some y=>simp only[jz];rw[Sa y (by simp[gs])]
   rw[Y,Z];exact Aqe a (λ⟨n,e,O⟩ i hi=>hf (by simp[Ma,O]) x (by simp[gs]) i (Rb hi)) r
  ·rename_i m;rw[Sa x (by simp[gs])]
   have Y:H.map (Da tm)=H.map (Da tm'):=by
    cases H with
    |none=>rfl
    |some y=>simp only[jz];rw[Sa y (by simp[gs])]
   have Z:hi.map (Da tm)=hi.map (Da tm'):=by
    cases hi with
    |none=>rfl
    |some y=>simp only[jz];rw[Sa y (by simp[gs])]
   rw[Y,Z,Sa m (by simp[gs])];exact E0 a λd hd=>Amp a λc=>A _ _ _ (λ_=>⟨rfl,by simp[hd]⟩) Ψ
 ·rename_i t x fl;rw[Sa x (by simp[gs])];exact E0 a λ_ _=>Bf a λ_=>TV a r
 ·rename_i t x fl;rw[Sa x (by simp[gs])];exact E0 a λ_ _=>Bf a λ_=>O4 a λ_ _=>Wx a λ_=>OW a r
 ·rename_i t x i;rw[Sa x (by simp[gs]),Sa i (by simp[gs])];exact F2 a λ_ _=>Abb a r
 ·rename_i t x i;rw[Sa x (by simp[gs]),Sa i (by simp[gs])];refine F2 a λ_ _=>?_;split
  ·exact Ij a λ_=>Bf a λ_=>E0 a λ_ _=>r _
  ·exact O4 a λ_ _=>Bf a λ_=>Wx a λ_=>OW a r
  ·exact a
 ·rename_i t x k ok;rw[Sa x (by simp[gs]),Sa k (by simp[gs])];split
  ·refine Bf a λ_=>?_;split
   ·exact Ij a λ_=>E0 a λ_ _=>Aum a (λ_ _=>Bf a λ_=>r _) (λ_=>Bf a λ_=>r _)
   ·exact a
  ·exact a
 ·rename_i x i;rw[Sa x (by simp[gs])];split
  ·exact E0 a λ_ _=>r _
  ·exact a
 ·rename_i c
  have Xq:∀x∈c.args.toList,x∈(Op.call c).operands.toList:=by
   intro x j;simp only[gs,Call.operands,gw,B8];exact .inr j
  have rc:∀G,Ma P (.call c)=true->Rel (ZG C P N F tm g o c G K) (ZG C P N F tm' g' o c G K'):=by
   intro G s;unfold ZG;have:c.args.toList.map (Da tm)=c.args.toList.map (Da tm'):=vz λx j=>Sa x (Xq x j);rw[this];refine Afq a (λi hi=>?_) λvs m T=>Aeb a λrv ro=>Im a (Bf a λ_=>UC a λws bs hbs=>Bf a λ_=>A _ _ _ (λh=>by rw[s] at h;cases h) (λi hi=>?_))
   ·obtain⟨p,hp,hi⟩:=zk.1 hi;obtain⟨x,j,rfl⟩:=kl.1 hp;exact L s x (Xq x j) i (Lx hi)
   ·have hi':i∈m:=by
     cases B:Pz P (Ww P o.type)<;>rw[B] at hi
     ·simp at hi
     ·exact hi
    exact T i hi'
  split
  ·refine Cm a λx _ j=>Cm a λ_ _ _=>?_;rw[Sa x (Xq x (by rw[j];simp))]
   exact Ayy a λ_=>r _
  ·refine Cm a λx _ j=>Cm a λ_ _ _=>?_;rw[Sa x (Xq x (by rw[j];simp))]
   exact Azh a λ_=>r _
  ·refine Cm a λx _ j=>Cm a λy _ hy=>Im a ?_;subst hy;rw[Sa x (Xq x (by rw[j];simp)),Sa y (Xq y (by rw[j];simp))]
   exact Ay7 a r
  ·refine Cm a λx _ j=>Cm a λy _ hy=>Im a ?_;subst hy;rw[Sa x (Xq x (by rw[j];simp)),Sa y (Xq y (by rw[j];simp))]
   exact A2s a r
  ·rename_i w;have s:Ma P (.call c)=true:=by simp[Ma,w]
   refine Bf a λ_=>E0 a λd hd=>Cm a λ_ _ X=>Cm a λx _ j=>Im a (Cm a λ_ _ _=>Cm a λ_ _ _=>?_);have J:x∈c.args.toList:=by rw[X,j];simp
   rw[Sa x (Xq x J)];exact Ame a (λi hi=>L s x (Xq x J) i (Rb hi)) λv nw=>A _ _ _ (λh=>by rw[s] at h;cases h) Ψ
  ·rename_i G w;have s:Ma P (.call c)=true:=by simp[Ma,w]
   exact rc G s
  ·rename_i t w;have s:Ma P (.call c)=true:=by simp[Ma,w]
   have ht:=Sa (.tmp t) (by simp[gs,Call.operands,w]);change tm t=tm' t at ht;rw[ht];exact A8e a λG=>rc G s
  ·exact a
 ·exact a
variable {hp:Nat->Option Co}
end
open Go.RowKit
abbrev IP:=PV × Cl × List (Nat × Co)
def K4(ops:Array Oper)(o:Oper)(tm:Nat->PV):Option Bool:=
 match o.guard with
 |none=>some true
 |some (j,want)=>
  match (ops[j]?).bind (·.dst) with
  |none=>none
  |some d=>
   match tm d with
   |.sc (.bool b)=>some (b==want)
   |.sc (.tuple _)=>some false
   |_=>none
section
variable {R:Type}{r:R}{C:Lf}{P:Program}{N:Nat}{F:An}{ops:Array Oper}{o x:Oper}{s:St}{K:St->Option R}
theorem Agu:Fq C P N F ops o s K=match K4 ops o s.tm with
  |none=>none
  |some true=>Ane C P N F o s K
  |some false=>As (Jr N o.dst) (K ⟨Dp s.tm o.dst (.sc undef),s.hp⟩):=by
 unfold Fq K4;cases o.guard with
 |none=>rfl
 |some q=>
  obtain⟨j,want⟩:=q;cases hd:(ops[j]?).bind (·.dst) with
  |none=>simp[hd]
  |some d=>
   simp only[hd];cases ht:s.tm d with
   |sc v=>
    cases v with
    |bool b=>
     cases b<;>cases want<;>simp only[Ap,cond_true,cond_false,QB s.tm ht]<;>rfl
    |_=>rfl
   |_=>rfl
def Ayb(C:Lf)(P:Program)(N:Nat)(F:An)(o:Oper)(s:St):Option IP:=
 Aa2 C P N F s.tm (rd s.hp) (Pf s.hp) o λv fz nw=>some (v,fz,nw)
theorem A6k{K:PV->Cl->List (Nat × Co)->Option R}:Aa2 C P N F s.tm (rd s.hp) (Pf s.hp) o K=(Ayb C P N F o s).bind λq=>K q.1 q.2.1 q.2.2:=by refine ZP (Rel:=λ(a:Option R) (b:Option IP)=>a=b.bind λq=>K q.1 q.2.1 q.2.2) (K:=K) (K':=λv fz nw=>some (v,fz,nw)) rfl (λ_ _=>rfl) (λ_ _ _ _ _=>.inl ⟨rfl,rfl⟩) λv fz nw _ _=>rfl
theorem Arg{q:IP}(h:Ayb C P N F o s=some q):(Ma P o.op=false->q.2.1=[]/\∀p∈q.2.2,o.dst=some p.1)/\∀i∈q.2.1,Pf s.hp i≠none:=by
 have:=ZP (C:=C) (P:=P) (N:=N) (F:=F) (o:=o) (tm:=s.tm) (tm':=s.tm) (f:=rd s.hp) (f':=rd s.hp) (g:=Pf s.hp) (g':=Pf s.hp)
  (Rel:=λ(a:Option IP)(_:Option IP)=>∀q,a=some q->(Ma P o.op=false->q.2.1=[]/\∀p∈q.2.2,o.dst=some p.1)/\∀i∈q.2.1,Pf s.hp i≠none)
  (K:=λv fz nw=>some (v,fz,nw)) (K':=λv fz nw=>some (v,fz,nw)) (λ_ h=>by cases h) (λ_ _=>rfl) (λ_ _ _ _ _=>.inl ⟨rfl,rfl⟩) (λv fz nw b c q d=>by cases d;exact⟨b,c⟩)
 exact this q h
def gE(C:Lf)(P:Program)(N:Nat)(F:An)(ops:Array Oper)(o:Oper)(s:St):Option IP:=
 match K4 ops o s.tm with
 |none=>none
 |some true=>bif FU C P o.op then none else Ayb C P N F o s
 |some false=>some (.sc undef,[],[])
def L8(C:Lf)(P:Program)(ops:Array Oper)(o:Oper)(tm:Nat->PV):Bool:=FU C P o.op&&(K4 ops o tm==some true)
theorem Q9(h:L8 C P ops o s.tm=false):Fq C P N F ops o s K=(gE C P N F ops o s).bind λq=>TX N s o.dst q.1 q.2.1 q.2.2 K:=by
 rw[Agu];unfold gE;unfold L8 at h;cases a:K4 ops o s.tm with
 |none=>rfl
 |some b=>
  rw[a] at h;cases b with
  |false=>
   show As _ _=TX N s o.dst (.sc undef) [] [] K;unfold TX;have c:Cs s.hp []=true:=rfl;have d:A8 (Aj s.hp []) []=s.hp:=rfl;rw[c,d,Zzn]
  |true=>
   have e:FU C P o.op=false:=by simpa using h
   simp only[Ane,e,cond_false];exact A6k
theorem Wd(h:L8 C P ops o s.tm=true):Fq C P N F ops o s K=Ahy C P N F s o K:=by rw[Agu];unfold L8 at h;simp only[Gh,beq_iff_eq] at h;rw[h.2];simp only[Ane,h.1,cond_true]
theorem GT{q:IP}(h:gE C P N F ops o s=some q):(Ma P o.op=false->q.2.1=[]/\∀p∈q.2.2,o.dst=some p.1)/\∀i∈q.2.1,Pf s.hp i≠none:=by
 unfold gE at h;split at h
 ·cases h
 ·cases a:FU C P o.op<;>rw[a] at h
  ·exact Arg h
  ·cases h
 ·cases h;exact⟨λ_=>⟨rfl,Ψ⟩,Ψ⟩
theorem Kn(h:∀t∈looks ops o,tm t=tm' t):∀y∈o.op.operands.toList,Da tm y=Da tm' y:=by
 intro y a;cases y with
 |tmp t=>
  refine h t ?_;unfold looks A4d;refine B8.2 (.inl (v8.2 ⟨.tmp t,a,rfl⟩))
 |const v=>cases v<;>rfl
 |func f=>rfl
 |«global» g=>rfl
theorem Rt(h:∀t∈looks ops o,tm t=tm' t):K4 ops o tm=K4 ops o tm':=by
 unfold K4;cases a:o.guard with
 |none=>rfl
 |some q=>
  obtain⟨j,want⟩:=q;cases hd:(ops[j]?).bind (·.dst) with
  |none=>simp[hd]
  |some d=>
   have:tm d=tm' d:=h d (by
    unfold looks;rw[a];refine B8.2 (.inr ?_);simp only[hd];simp)
   simp only[hd,this]
theorem PE{s':St}{q:IP}(ht:∀t∈looks ops o,s.tm t=s'.tm t)(c:Ma P o.op=true->∀y∈o.op.operands.toList,∀i∈Cy (Da s'.tm y),(rd s.hp i=rd s'.hp i/\Pf s.hp i=Pf s'.hp i)\/(rd s.hp i=none/\Pf s.hp i=none))(h:gE C P N F ops o s=some q):gE C P N F ops o s'=some q:=by
 unfold gE at h ⊢;rw[<-Rt ht];split at h
 ·cases h
 ·cases d:FU C P o.op<;>rw[d] at h
  ·have:=ZP (C:=C) (P:=P) (N:=N) (F:=F) (o:=o) (tm:=s.tm) (tm':=s'.tm) (f:=rd s.hp) (f':=rd s'.hp) (g:=Pf s.hp) (g':=Pf s'.hp)
    (Rel:=λ(a b:Option IP)=>a=some q->b=some q)
    (K:=λv fz nw=>some (v,fz,nw)) (K':=λv fz nw=>some (v,fz,nw)) (λh=>h) (Kn ht)
    (λe y j i hi=>(c e y j i hi).imp id λh=>⟨h.1,h.2,λ_ h=>by cases h⟩) (λv fz nw _ _ h=>h)
   exact this h
  ·cases h
 ·exact h
end
open Go.RowKit
theorem AD:∀{nw:List (Nat × Co)} {hp Ek:Nat->Option Co},Cs hp nw=true->(∀i b,(i,b)∈nw->Ek i=none)->Cs Ek nw=true
 |[],_,_,_,_=>rfl
 |(i,b)::nw,hp,Ek,h,a=>by
  simp only[Cs,Gh,vu] at h ⊢;exact⟨⟨a i b Ψ,h.1.2⟩,AD h.2 λj c d=>a j c (by simp[d])⟩
section
variable {hp:Nat->Option Co}{fz:Cl}{nw:List (Nat × Co)}
theorem Ja(a:Cs hp nw=true)(hi:hp i≠none):A8 (Aj hp fz) nw i=if i∈fz then (hp i).map HD else hp i:=by obtain⟨b,c⟩:=Cg a;rw[(Gq c).2 i (λd e=>hi (b i d e)),Cv]
theorem Oh(a:Cs hp nw=true){b:Co}(hi:(i,b)∈nw):A8 (Aj hp fz) nw i=some b:=
 (Gq (Cg a).2).1 i b hi
theorem Wk(a:Cs hp nw=true)(hi:hp i=none)(c:∀b,(i,b) ∉ nw):A8 (Aj hp fz) nw i=none:=by rw[(Gq (Cg a).2).2 i c,Cv,hi];simp
theorem Wf(a:Cs hp nw=true)(hi:hp i≠none):A8 (Aj hp fz) nw i≠none:=by
 rw[Ja a hi];cases h:hp i with
 |none=>exact absurd h hi
 |some b=>split<;>simp
theorem A7t(b:Option Co):(match b.map HD with|some (.st c)=>some c|some (.ar _ c)=>some c|_=>none)=(match b with|some (.st c)=>some c|some (.ar _ c)=>some c|_=>none):=by
 cases b with
 |none=>rfl
 |some b=>cases b<;>rfl
theorem Ay1(b:Option Co):(match b.map HD with|some (.ar _ c)=>some c|_=>none)=(match b with|some (.ar _ c)=>some c|_=>none):=by
 cases b with
 |none=>rfl
 |some b=>cases b<;>rfl
theorem All(a:Cs hp nw=true)(hi:hp i≠none):rd (A8 (Aj hp fz) nw) i=rd hp i:=by
 unfold rd;rw[Ja a hi];by_cases h:i∈fz
 ·rw[Bv h];exact A7t _
 ·rw[Bd h]
theorem Aeo(a:Cs hp nw=true)(hi:hp i≠none):Pf (A8 (Aj hp fz) nw) i=Pf hp i:=by
 unfold Pf;rw[Ja a hi];by_cases h:i∈fz
 ·rw[Bv h];exact Ay1 _
 ·rw[Bd h]
theorem Ate(hi:hp i=none):rd hp i=none:=by unfold rd;rw[hi]
theorem R8(hi:hp i=none):Pf hp i=none:=by unfold Pf;rw[hi]
theorem Bjt(b:Option Co):(b.map HD).map HD=b.map HD:=by
 cases b with
 |none=>rfl
 |some b=>cases b<;>rfl
theorem Arz{k l:Cl}{f no:List (Nat × Co)}(g:Cs hp f=true)(j:Cs (A8 (Aj hp k) f) no=true)(d:Cs hp no=true)(EL:Cs (A8 (Aj hp l) no) f=true)(n:∀i∈k,hp i≠none)(o:∀i∈l,hp i≠none):
  A8 (Aj (A8 (Aj hp k) f) l) no=A8 (Aj (A8 (Aj hp l) no) k) f:=by
 funext i
 by_cases hi:hp i=none
 ·by_cases e:∃b,(i,b)∈no
  ·obtain⟨b,c⟩:=e
   have a:∀m,(i,m) ∉ f:=λm Mv=>by
    have:=(Cg j).1 i b c;rw[Oh g Mv] at this;cases this
   rw[Oh j c,Ja EL (by rw[Oh d c];simp),Oh d c,Bd (λh=>n i h hi)]
  ·have e:∀b,(i,b) ∉ no:=λb c=>e ⟨b,c⟩;by_cases a:∃b,(i,b)∈f
   ·obtain⟨b,c⟩:=a;rw[Oh EL c,Ja j (by rw[Oh g c];simp),Oh g c,Bd (λh=>o i h hi)]
   ·have a:∀b,(i,b) ∉ f:=λb c=>a ⟨b,c⟩;rw[Wk j (Wk g hi a) e,Wk EL (Wk d hi e) a]
 ·rw[Ja j (Wf g hi),Ja g hi,Ja EL (Wf d hi),Ja d hi];split<;>split<;>first|rfl|rw[Bjt]
end
section
variable {R:Type}{r:R}{C:Lf}{P:Program}{N:Nat}{F:An}{ops:Array Oper}{o x:Oper}{s:St}{K:St->Option R}
structure OV(C:Lf)(P:Program)(ops:Array Oper)(x o:Oper):Prop where
 xo:∀d,x.dst=some d->d ∉ looks ops o
 ne:∀d,x.dst=some d->o.dst≠some d
 ox:∀d,o.dst=some d->d ∉ looks ops x
 mx:FU C P x.op=true->Ma P o.op=false
 mo:FU C P o.op=true->Ma P x.op=false
theorem DX{l:Cl}(h:l.any (Nat.beq d)=false):d ∉ l:=by intro a;have:l.any (Nat.beq d)=true:=zm.2 ⟨d,a,Uz d⟩;rw[this] at h;cases h
theorem A1u(h:Aa5 C P ops x o=false):OV C P ops x o:=by
 unfold Aa5 at h;simp only[ve,gu] at h;obtain⟨⟨⟨a,c⟩,e⟩,f⟩:=h;refine⟨λd hd=>?_,λd hd g=>?_,λd hd=>?_,λb=>?_,λb=>?_⟩
 ·simp only[hd,ve] at a;exact DX a.1
 ·simp only[hd,g,ve] at a;rw[Uz] at a;cases a.2
 ·simp only[hd] at c;exact DX c
 ·rw[b] at e;rcases e with h|h
  ·cases h
  ·exact h
 ·rw[b] at f;rcases f with h|h
  ·cases h
  ·exact h
theorem Is{d:Option Tmp}{v:PV}{l:Cl}(h:∀i,d=some i->i ∉ l):∀t∈l,Dp tm d v t=tm t:=by
 intro t ht;cases d with
 |none=>rfl
 |some d=>exact Au _ _ (by rintro rfl;exact h _ rfl ht)
theorem Wv{d e:Option Tmp}{u v:PV}(h:∀i,d=some i->e≠some i):Dp (Dp tm d u) e v=Dp (Dp tm e v) d u:=by
 cases d with
 |none=>rfl
 |some d=>
  cases e with
  |none=>rfl
  |some e=>exact Akf _ _ _ (by rintro rfl;exact h _ rfl rfl)
def Has(C:Lf)(P:Program)(o:Oper)(s:St):Prop:=(∀y∈o.op.operands.toList,∀i∈Cy (Da s.tm y),s.hp i≠none) /\
 (FU C P o.op=true->WW o.op=false->∀y∈o.op.operands.toList,∀i∈Cy (Da s.tm y),∀c,s.hp i=some (.st c)->∀p∈c,∀k∈A6 p,s.hp k≠none)
theorem Rs(h:∀t∈looks ops o,tm t=tm' t):L8 C P ops o tm=L8 C P ops o tm':=by unfold L8;rw[Rt h]
theorem Atk(M:Has C P o s)(xo:∀d,x.dst=some d->d ∉ looks ops o)(ne:∀d,x.dst=some d->o.dst≠some d)(ox:∀d,o.dst=some d->d ∉ looks ops x)(D:L8 C P ops x s.tm=false)(E:L8 C P ops o s.tm=false)(h:Fq C P N F ops x s (λs1=>Fq C P N F ops o s1 K)=some r):Fq C P N F ops o s (λs1=>Fq C P N F ops x s1 K)=some r:=by
 rw[Q9 D] at h;cases v:gE C P N F ops x s with
 |none=>rw[v] at h;cases h
 |some q=>
 obtain⟨j,k,l⟩:=q;rw[v] at h;obtain⟨f,m⟩:=Ax h;simp only[Gh] at f;have G:∀t∈looks ops o,Dp s.tm x.dst j t=s.tm t:=Is xo;change Fq C P N F ops o ⟨Dp s.tm x.dst j,A8 (Aj s.hp k) l⟩ K=some r at m;rw[Q9 (by rw[Rs G];exact E)] at m
 cases w:gE C P N F ops o ⟨Dp s.tm x.dst j,A8 (Aj s.hp k) l⟩ with
 |none=>rw[w] at m;cases m
 |some q=>
 obtain⟨vo,g,no⟩:=q;rw[w] at m;obtain⟨n,H⟩:=Ax m;change K ⟨Dp (Dp s.tm x.dst j) o.dst vo,A8 (Aj (A8 (Aj s.hp k) l) g) no⟩=some r at H;simp only[Gh] at n
 have p:gE C P N F ops o s=some (vo,g,no):=by
  refine PE G (λ_ y J i hi=>?_) w;have:=M.1 y J i hi;exact .inl ⟨All f.2 this,Aeo f.2 this⟩
 have a:Cs s.hp no=true:=AD n.2 λi b hi=>by
  cases e:s.hp i with
  |none=>rfl
  |some c=>exact absurd ((Cg n.2).1 i b hi) (Wf f.2 (by rw[e];simp))
 rw[Q9 E,p]
 have EL:Cs (A8 (Aj s.hp g) no) l=true:=AD f.2 λi b hi=>by
  refine Wk a ((Cg f.2).1 i b hi) λc O=>?_;have:=(Cg n.2).1 i c O;rw[Oh f.2 hi] at this;cases this
 have L:∀t∈looks ops x,s.tm t=Dp s.tm o.dst vo t:=λt ht=>(Is ox t ht).symm
 have z:gE C P N F ops x ⟨Dp s.tm o.dst vo,A8 (Aj s.hp g) no⟩=some (j,k,l):=by
  refine PE L (λ_ y J i hi=>?_) v;by_cases e:s.hp i=none
  ·exact .inr ⟨Ate e,R8 e⟩
  ·exact .inl ⟨(All a e).symm,(Aeo a e).symm⟩
 show As _ _=_;rw[n.1,a];show Fq C P N F ops x ⟨Dp s.tm o.dst vo,A8 (Aj s.hp g) no⟩ K=some r;rw[Q9 (by rw[<-Rs L];exact D),z]
 show As _ _=_;rw[f.1,EL];rw[<-H];have A:∀i∈k,s.hp i≠none:=λi hi e=>(GT v).2 i hi (R8 e);have B:∀i∈g,s.hp i≠none:=λi hi e=>(GT p).2 i hi (R8 e);show K ⟨Dp (Dp s.tm o.dst vo) x.dst j,A8 (Aj (A8 (Aj s.hp g) no) k) l⟩=K _;rw[Wv ne,Arz f.2 n.2 a EL A B]
end
open Go.RowKit
theorem RB{o:Op}(h:FU C P o=true):Ma P o=true:=by
 unfold FU at h;split at h
 ·rfl
 ·rename_i c;unfold Ma;simp only;split at h<;>rename_i a
  ·rw[a]
  ·rw[a]
  ·cases h
  ·rw[a]
  ·cases h
 ·cases h
structure Tch(N:Nat)(S:Nat->Prop)(dst:Option Nat)(hp Fs Ek My:Nat->Option Co):Prop where
 keep:∀i,hp i≠none->Ek i≠none
 off:∀i,i<N->dst≠some i->(¬S i\/hp i=none)->Ek i=hp i/\My i=Fs i
 same:∀i,hp i=Fs i->Ek i=My i
 far:∀i,¬S i->hp i≠none->Ek i=hp i
section
variable {R R':Type}{Rel:Option R->Option R'->Prop}{P:Program}{N:Nat}{tm tm':Nat->PV}{hp Fs:Nat->Option Co}{f f':Nat->Option Ae}{o:Oper}
theorem Aep(a:Rel none none){t:CT}{K:PV->Cl->Option R}{K':PV->Cl->Option R'}(e:Agr Rel f f' (A6 p))(b:∀c m,(∀i∈m,f i≠none/\i∈A6 p)->Rel (K c m) (K' c m)):Rel (Xu f t p K) (Xu f' t p K'):=by
 unfold Xu;split
 ·split
  ·rename_i id d off n;cases Nat.beq d _
   ·exact a
   ·exact PA a e (by simp[A6]) λc g=>Bf a λ_=>b _ _ (by simp[g,A6])
  ·exact Ip a λ_ _ _=>b _ _ Ψ
 ·exact Ye a λ_=>b _ _ Ψ
theorem Acl(b:Rel none none):∀{ts:List CT}{ps:Ae}{K:Ae->Cl->Option R}{K':Ae->Cl->Option R'},Agr Rel f f' (ps.flatMap A6)->(∀c m,(∀i∈m,f i≠none/\i∈ps.flatMap A6)->Rel (K c m) (K' c m))->Rel (Wn f ts ps K) (Wn f' ts ps K')
 |[],[],_,_,_,d=>d _ _ Ψ
 |[],_::_,_,_,_,_=>b
 |_::_,[],_,_,_,_=>b
 |_::_,p::ps,_,_,e,d=>Aep b (λi hi=>e i (by simp only[Le,B8];exact .inl hi)) λ_ m g=>Acl b (λi hi=>e i (by simp only[Le,B8];exact .inr hi)) λ_ j a=>d _ _ λi hi=>by
   simp only[Le,B8];rcases B8.1 hi with h|h
   ·exact⟨(g i h).1,.inl (g i h).2⟩
   ·exact⟨(a i h).1,.inr (a i h).2⟩
theorem JY{id:Nat}{b:Co}{c d:Nat->Option Co}(f:S id)(Ce:hp id≠none)(h:Tch N S a hp Fs c d):Tch N S a hp Fs (Dy c id (some b)) (Dy d id (some b)):=by
 refine⟨λi hi=>?_,λi j hd hi=>?_,λi hi=>?_,λi g hi=>?_⟩
 ·by_cases e:i=id
  ·subst e;rw[Ay];simp
  ·rw[Au _ _ e];exact h.keep i hi
 ·have e:i≠id:=by
   rintro rfl
   rcases hi with hi|hi
   ·exact hi f
   ·exact Ce hi
  rw[Au _ _ e,Au _ _ e];exact h.off i j hd hi
 ·by_cases e:i=id
  ·subst e;rw[Ay,Ay]
  ·rw[Au _ _ e,Au _ _ e];exact h.same i hi
 ·rw[Au _ _ (by rintro rfl;exact g f)];exact h.far i g hi
theorem Ajj{b:Co}{a c:Nat->Option Co}(f:hp d=none)(h:Tch N S (some d) hp Fs a c):Tch N S (some d) hp Fs (Dy a d (some b)) (Dy c d (some b)):=by
 refine⟨λi hi=>?_,λi g hd hi=>?_,λi hi=>?_,λi j hi=>?_⟩
 ·by_cases e:i=d
  ·subst e;rw[Ay];simp
  ·rw[Au _ _ e];exact h.keep i hi
 ·have e:i≠d:=by rintro rfl;exact hd rfl
  rw[Au _ _ e,Au _ _ e];exact h.off i g hd hi
 ·by_cases e:i=d
  ·subst e;rw[Ay,Ay]
  ·rw[Au _ _ e,Au _ _ e];exact h.same i hi
 ·rw[Au _ _ (by rintro rfl;exact hi f)];exact h.far i j hi
theorem JD(S:Nat->Prop)(a:Option Nat):Tch N S a hp Fs hp Fs:=⟨λ_ h=>h,λ_ _ _ _=>⟨rfl,rfl⟩,λ_ h=>h,λ_ _ _=>rfl⟩
theorem Apv{m:Cl}(b:∀i∈m,hp i≠none/\S i):Tch N S a hp Fs (Aj hp m) (Aj Fs m):=by
 refine⟨λi hi=>λh=>hi (F1.1 h),λi d hd hi=>?_,λi hi=>?_,λi c hi=>?_⟩
 ·have e:i ∉ m:=by
   intro h;rcases hi with hi|hi
   ·exact hi (b i h).2
   ·exact (b i h).1 hi
  rw[Cv,Cv,Bd e,Bd e];exact⟨rfl,rfl⟩
 ·rw[Cv,Cv,hi]
 ·rw[Cv,Bd (λh=>c (b i h).2)]
theorem Ajc(h:∀i,S i->hp i=Fs i\/(hp i=none/\∀b,Rel none b)){l:Cl}(a:∀i∈l,S i):Agr Rel (Pf hp) (Pf Fs) l:=by
 intro i hi;rcases h i (a i hi) with h|⟨h,c⟩
 ·left;unfold Pf;rw[h]
 ·exact .inr ⟨R8 h,c⟩
theorem Ann(d:Rel none none){a:PV}{K:St->Option R}{K':St->Option R'}(f:∀i,S i->hp i=Fs i\/(hp i=none/\∀b,Rel none b))(l:∀i∈A6 a,S i)(g:∀i∈Dj x,S i)(j:∀Ek My,Tch N S none hp Fs Ek My->Rel (K ⟨tm,Ek⟩) (K' ⟨tm',My⟩)):Rel (UB P ⟨tm,hp⟩ t a x K) (UB P ⟨tm',Fs⟩ t a x K'):=by
 unfold UB;split
 ·rename_i id off;show Rel (match hp id with|some (.st c)=>_|some (.ar false c)=>_|_=>none) (match Fs id with|some (.st c)=>_|some (.ar false c)=>_|_=>none);have Ce:S id:=l id (by simp[A6]);rcases f id Ce with h|⟨h,n⟩
  ·rw[<-h];split
   ·rename_i c e;exact Bf d λ_=>Wx d λ_=>j _ _ (JY Ce (by rw[e];simp) (JD _ _))
   ·rename_i c e;refine Bf d λ_=>Acl d (Ajc f λi hi=>g i ?_) λ_ m k=>Bf d λ_=>j _ _ (JY Ce (by rw[e];simp) (Apv λi hi=>⟨λh=>(k i hi).1 (R8 h),g i ?_⟩))
    ·obtain⟨c,e,hi⟩:=zk.1 hi;exact IH e hi
    ·obtain⟨c,e,hi⟩:=zk.1 (k i hi).2;exact IH e hi
   ·exact d
  ·rw[h];exact n _
 ·exact d
theorem Agl(a:Rel none none){K:Nat->Ae->Option R}{K':Nat->Ae->Option R'}(e:∀i,S i->hp i=Fs i\/(hp i=none/\∀b,Rel none b))(f:∀i∈Dj x,S i)(d:∀m c,Rel (K m c) (K' m c)):Rel (Aqv P ⟨tm,hp⟩ es t x K) (Aqv P ⟨tm',Fs⟩ es t x K'):=by
 unfold Aqv Arm;split
 ·exact Bf a λ_=>Ij a λ_=>d _ _
 ·exact AL a (Ajc e λi hi=>f i (ID hi)) d
 ·exact a
theorem Ai9(a:Rel none none){tx:TypeId}{b:PV}{K:St->Option R}{K':St->Option R'}(k:∀i,S i->hp i=Fs i\/(hp i=none/\∀b,Rel none b))(f:hp d=Fs d)(e:∀i∈Dj b,S i)(l:∀i∈Dj x,S i)(g:∀v Ek My,(∀M,Tch M S (some d) hp Fs Ek My)->Rel (K ⟨Dy tm d v,Ek⟩) (K' ⟨Dy tm' d v,My⟩)):Rel (KE P N ⟨tm,hp⟩ d t tx b x K) (KE P N ⟨tm',Fs⟩ d t tx b x K'):=by
 unfold KE;split
 ·refine Bf a λ_=>?_;cases YB P tx
  rotate_left
  ·show Rel (PD P N ⟨tm,hp⟩ d _ b x K) (PD P N ⟨tm',Fs⟩ d _ b x K');refine F2 a λ_ n=>Ip a λz _ _=>?_;show Rel (As (z&&jh d N&&(hp d).isNone&&_&&_&&_) _) (As (z&&jh d N&&(Fs d).isNone&&_&&_&&_) _);rw[<-f];exact Bf a λe=>g _ _ _ (λM=>Ajj (by simp only[Gh,vu] at e;simp only[e]) (JD _ _))
  rw[cond_false,cond_false];refine Agl a k l λm new=>?_;split
  ·rename_i id es off n;show Rel (match hp id with|some (.ar false c)=>As (Nat.beq es _&&Nat.beq off 0&&jh d N&&(hp d).isNone&&_&&_&&_&&_) _|_=>none) (match Fs id with|some (.ar false c)=>As (Nat.beq es _&&Nat.beq off 0&&jh d N&&(Fs d).isNone&&_&&_&&_&&_) _|_=>none);have Ce:S id:=e id (by simp[Dj,A6]);rw[<-f];rcases k id Ce with h|⟨h,j⟩
   ·rw[<-h];split
    ·rename_i c o;exact Bf a λe=>g _ _ _ (λM=>Ajj (by simp only[Gh,vu] at e;simp only[e]) (JY Ce (by rw[o];simp) (JD _ _)))
    ·exact a
   ·rw[h];exact j _
  ·refine Ip a λz _ _=>?_;show Rel (As (z&&jh d N&&(hp d).isNone&&_&&_&&_) _) (As (z&&jh d N&&(Fs d).isNone&&_&&_&&_) _);rw[<-f];exact Bf a λe=>g _ _ _ (λM=>Ajj (by simp only[Gh,vu] at e;simp only[e]) (JD _ _))
 ·exact a
theorem Apc(a:Rel none none){d:Option Tmp}{tx:TypeId}{b:PV}{K:St->Option R}{K':St->Option R'}(f:∀i,S i->hp i=Fs i\/(hp i=none/\∀b,Rel none b))(g:∀i∈Dj b,S i)(j:∀i∈Dj x,S i)(k:∀v Ek My,Tch N S d hp Fs Ek My->Rel (K ⟨Dp tm d v,Ek⟩) (K' ⟨Dp tm' d v,My⟩)):Rel (Ad5 P N ⟨tm,hp⟩ d t tx b x K) (Ad5 P N ⟨tm',Fs⟩ d t tx b x K'):=by
 unfold Ad5;split
 ·refine Bf a λ_=>?_;refine Agl a f j λm new=>?_;split
  ·rename_i id es off n;show Rel (match hp id with|some (.ar false c)=>As (Nat.beq es _&&_&&_) _|_=>none) (match Fs id with|some (.ar false c)=>As (Nat.beq es _&&_&&_) _|_=>none);have Ce:S id:=g id (by simp[Dj,A6]);rcases f id Ce with h|⟨h,e⟩
   ·rw[<-h];split
    ·rename_i c l;exact Bf a λ_=>k _ _ _ (JY Ce (by rw[l];simp) (JD _ _))
    ·exact a
   ·rw[h];exact e _
  ·exact a
 ·exact a
def Bar(o:Oper)(tm:Nat->PV)(i:Nat):Prop:=∃x∈o.op.operands.toList,i∈Cy (Da tm x)
def Rch(o:Oper)(tm:Nat->PV)(hp:Nat->Option Co)(i:Nat):Prop:=Bar o tm i\/WW o.op=false/\∃id c,Bar o tm id/\hp id=some (.st c)/\∃p∈c,i∈A6 p
theorem Avi(g:Rel none none){mv:Bool}{t:CT}{K:PV->Cl->Cl->Option R}{K':PV->Cl->Cl->Option R'}(j:∀i,S i->hp i=Fs i\/(hp i=none/\∀b,Rel none b))(a:∀i∈A6 p,S i)(f:∀c m x,(∀i∈m++x,hp i≠none/\S i)->Rel (K c m x) (K' c m x)):Rel (Avp mv hp t p K) (Avp mv Fs t p K'):=by
 have frz:∀{t:CT} {p:PV},(∀i∈A6 p,S i)->Rel (Xu (Pf hp) t p λc m=>K c m []) (Xu (Pf Fs) t p λc m=>K' c m []):=λh=>Aep g (Ajc j h) λc m k=>f _ _ _ λi hi=>by
  rw[vy] at hi;exact⟨λe=>(k i hi).1 (R8 e),h i (k i hi).2⟩
 unfold Avp;split
 ·rename_i es;cases mv<;>simp only[cond_true,cond_false]
  ·exact frz a
  ·split
   ·rename_i id d off n;rcases j id (a id (by simp[A6])) with h|⟨h,l⟩
    ·rw[<-h];split
     ·rename_i c o;cases (Nat.beq d es&&Nat.beq off 0)<;>simp only[cond_true,cond_false]
      ·exact frz a
      ·exact Bf g λ_=>f _ _ _ λi hi=>by
        simp only[SJ,Tx] at hi;subst hi;exact⟨by rw[o];simp,a i (by simp[A6])⟩
     ·exact frz a
    ·rw[h]
     have:(Xu (Pf hp) (.sl es) (.view id d off n) λc m=>K c m [])=none:=by
      unfold Xu;simp only;cases Nat.beq d es
      ·rfl
      ·simp only[cond_true,R8 h,Dq]
     show Rel (Xu (Pf hp) (.sl es) (.view id d off n) λc m=>K c m []) _;rw[this];exact l _
   ·refine Ip g λz n c=>?_;cases z
    ·exact f _ _ _ Ψ
    ·exact f _ _ _ Ψ
 ·exact Ye g λ_=>f _ _ _ Ψ
theorem DL(e:Rel none none){mv:Bool}{S:Nat->Prop}(h:∀i,S i->hp i=Fs i\/(hp i=none/\∀b,Rel none b)):∀{ts:List CT}{ps:Ae}{K:Ae->Cl->Cl->Option R}{K':Ae->Cl->Cl->Option R'},(∀p∈ps,∀i∈A6 p,S i) ->
  (∀c m x,(∀i∈m++x,hp i≠none/\S i)->Rel (K c m x) (K' c m x))->Rel (VP mv hp ts ps K) (VP mv Fs ts ps K')
 |[],[],_,_,_,f=>f _ _ _ Ψ
 |[],_::_,_,_,_,_=>e
 |_::_,[],_,_,_,_=>e
 |_::_,p::ps,_,_,d,f=>Avi e h (d p Ψ) λ_ m x g=>DL e h (λq j=>d q (by simp[j])) λ_ k I a=>f _ _ _ λi hi=>by
   simp only[B8] at hi g a;rcases hi with (hi|hi)|(hi|hi)
   ·exact g i (.inl hi)
   ·exact a i (.inl hi)
   ·exact g i (.inr hi)
   ·exact a i (.inr hi)
theorem An0(d:Rel none none){f:FuncId}{K:PV->Cl->Cl->List Ko->Option R}{K':PV->Cl->Cl->List Ko->Option R'}(o:∀i,S i->hp i=Fs i\/(hp i=none/\∀b,Rel none b))(g:∀i∈Cy p,S i)(z:∀i∈Cy p,∀c,Fs i=some (.st c)->∀q∈c,∀k∈A6 q,S k)(r:∀v m x l,(∀i∈m++x++l.flatMap Ko.ids,hp i≠none/\S i)->Rel (K v m x l) (K' v m x l)):Rel (SY C P f hp i t p K) (SY C P f Fs i t p K'):=by
 unfold SY;split
 ·split
  ·rename_i id off;have Ce:S id:=g id (by simp[Cy,Dj,A6]);rcases o id Ce with h|⟨h,w⟩
   ·rw[h];split
    ·rename_i c LB;refine Bf d λ_=>DL d o (λq j k a=>z id (by simp[Cy,Dj,A6]) c LB q (kj (kg j)) k a) λy m x s=>r _ _ _ _ λk a=>?_;rcases B8.1 a with a|a
     ·exact s k a
     ·simp only[Le,vx,Ko.ids,vy,Tx] at a;subst a;exact⟨by rw[h,LB];simp,Ce⟩
    ·exact d
   ·rw[h];exact w _
  ·exact d
 ·cases C.lnd f i
  ·cases C6 P t
   ·exact DL d o (λq j k a=>by
     simp at j;subst j;exact g k (Rb a)) λy m x s=>Cm d λ_ _ _=>Im d (r _ _ _ _ (by simpa using s))
   ·refine O4 d λy EF=>DL d o (λq j k a=>g k ?_) λy m x s=>r _ _ _ _ (by simpa using s);subst EF;exact zk.2 ⟨q,j,a⟩
  ·refine E0 d λe B=>?_;unfold A0q;split
   ·rename_i id A off n;have Ce:S id:=g id (by simp[Cy,Dj,A6]);rcases o id Ce with h|⟨h,w⟩
    ·rw[h];split
     ·rename_i c LB;refine Bf d λ_=>r _ _ _ _ λk a=>?_;simp only[SJ,Le,vx,Ko.ids,vy,Tx] at a;subst a;exact⟨by rw[h,LB];simp,Ce⟩
     ·exact d
    ·rw[h];exact w _
   ·exact Ip d λ_ _ _=>Bf d λ_=>r _ _ _ _ (by simp[Ko.ids])
theorem Abp(e:Rel none none){C:Lf}{f:FuncId}{S:Nat->Prop}(n:∀i,S i->hp i=Fs i\/(hp i=none/\∀b,Rel none b)):∀{ts:List TypeId}{ps:Ae}{i:Nat}{K:Ae->Cl->Cl->List Ko->Option R}{K':Ae->Cl->Cl->List Ko->Option R'},
  (∀p∈ps,∀i∈Cy p,S i)->(∀p∈ps,∀i∈Cy p,∀c,Fs i=some (.st c)->∀q∈c,∀k∈A6 q,S k) ->
  (∀v m x l,(∀i∈m++x++l.flatMap Ko.ids,hp i≠none/\S i)->Rel (K v m x l) (K' v m x l))->Rel (Afe C P f hp i ts ps K) (Afe C P f Fs i ts ps K')
 |[],[],_,_,_,_,_,h=>h _ _ _ _ Ψ
 |[],_::_,_,_,_,_,_,_=>e
 |_::_,[],_,_,_,_,_,_=>e
 |_::_,p::ps,_,_,_,d,o,h=>An0 e n (d p Ψ) (o p Ψ) λ_ m x l g=>Abp e n (λq j=>d q (by simp[j])) (λq j=>o q (by simp[j])) λ_ r I s a=>h _ _ _ _ λi hi=>by
   simp only[B8,List.flatMap_append] at hi g a;rcases hi with ((hi|hi)|(hi|hi))|(hi|hi)
   ·exact g i (.inl (.inl hi))
   ·exact a i (.inl (.inl hi))
   ·exact g i (.inl (.inr hi))
   ·exact a i (.inl (.inr hi))
   ·exact g i (.inr hi)
   ·exact a i (.inr hi)
theorem A19(d:Rel none none){t:Nat}{ct:CT}{a:PV}{K:Nat->PV->List (Nat × Co)->Option R}{K':Nat->PV->List (Nat × Co)->Option R'}(e:∀t c b,(∀q∈b,∃k,q.1=nid N k)->Rel (K t c b) (K' t c b)):Rel (Au9 N t ct a p K) (Au9 N t ct a p K'):=by
 unfold Au9;split
 ·split
  ·exact Ase d λ_ _=>e _ _ _ (by intro q f;simp only[Tx] at f;subst f;exact⟨t,rfl⟩)
  ·exact Ip d λ_ _ _=>e _ _ _ Ψ
 ·exact Ye d λ_=>e _ _ _ Ψ
theorem Aef(a:Rel none none):∀{d:List CT}{ws ps:Ae}{t:Nat}{K:Nat->Ae->List (Nat × Co)->Option R} {K':Nat->Ae->List (Nat × Co)->Option R'},(∀t c b,(∀q∈b,∃k,q.1=nid N k)->Rel (K t c b) (K' t c b))->Rel (Aff N t d ws ps K) (Aff N t d ws ps K')
 |[],[],_,_,_,_,e=>Im a (e _ _ _ Ψ)
 |[],_::_,_,_,_,_,_=>a
 |_::_,[],_,_,_,_,_=>a
 |_::_,_::_,_,_,_,_,e=>Cm a λ_ _ _=>A19 a λ_ _ b g=>Aef a λ_ _ bs f=>e _ _ _ λq i=>by
   rcases B8.1 i with h|h
   ·exact g q h
   ·exact f q h
theorem KH(a:Rel none none){S:Nat->Prop}{j:Option Nat}:∀{l:List Ko}{ro:List Ae} {t:Nat}{m n:Nat->Option Co}{K:(Nat->Option Co)->List (Nat × Co)->Option R} {K':(Nat->Option Co)->List (Nat × Co)->Option R'},
  Tch N S j hp Fs m n->(∀i∈l.flatMap Ko.ids,hp i≠none/\S i/\hp i=Fs i)->(∀d e b,Tch N S j hp Fs d e->(∀q∈b,∃k,q.1=nid N k)->Rel (K d b) (K' e b))->Rel (OK N t l ro m K) (OK N t l ro n K')
 |[],_,_,_,_,_,_,c,_,f=>Im a (f _ _ _ c Ψ)
 |.var id off s y::l,ro,t,m,n,K,K',c,g,f=>by
  unfold OK;refine Cm a λr ro _=>Aef a λz v bs o=>?_;have Ce:=g id (by simp[Ko.ids]);rw[<-c.same id Ce.2.2];split
  ·exact KH a (JY Ce.2.1 Ce.1 c) (λi hi=>g i (by simp only[Le,B8];exact .inr hi)) λd e b p w=>f _ _ _ p λq x=>by
    rcases B8.1 x with h|h
    ·exact o q h
    ·exact w q h
  ·exact a
 |.row id::l,ro,t,m,n,K,K',c,g,f=>by
  unfold OK;have Ce:=g id (by simp[Ko.ids]);exact Cm a λr ro _=>KH a (JY Ce.2.1 Ce.1 c) (λi hi=>g i (by simp only[Le,B8];exact .inr hi)) f
 |.none::l,ro,t,m,n,K,K',c,g,f=>by
  unfold OK;exact Cm a λr ro _=>KH a c (λi hi=>g i (by simp only[Le,B8];exact .inr hi)) f
theorem Akp(h:∀i,N<=i->hp i=Fs i)(a:0<N):∀k t,Alj N hp k t=Alj N Fs k t
 |0,_=>rfl
 |k+1,t=>by
  unfold Alj;rw[h (nid N t) (by unfold nid;exact gj _ Ω),Akp h a k (t+1)]
theorem Afh{a c:Nat->Option Co}:∀{nw:List (Nat × Co)},(∀q∈nw,a q.1=c q.1)->Cs a nw=Cs c nw
 |[],_=>rfl
 |(i,b)::nw,h=>by
  unfold Cs;rw[h (i,b) Ψ,Afh (λq d=>h q (by simp[d]))]
theorem Aad{S:Nat->Prop}{a:Option Nat}{l m:Nat->Option Co}(n:Tch N S a hp Fs l m):∀{nw:List (Nat × Co)} {d f:Nat->Option Co},Tch N S a hp Fs d f->(∀q∈nw,N<=q.1\/a=some q.1)->(∀q∈nw,hp q.1=none)->Tch N S a hp Fs (A8 d nw) (A8 f nw)
 |[],_,_,h,_,_=>h
 |(i,b)::nw,d,f,h,hi,j=>by
  refine Aad n (nw:=nw) ⟨λk c=>?_,λk o hd c=>?_,λk c=>?_,λk p c=>?_⟩ (λq g=>hi q (by simp[g])) (λq g=>j q (by simp[g]))
  ·by_cases e:k=i
   ·subst e;rw[Ay];simp
   ·rw[Au _ _ e];exact h.keep k c
  ·have e:k≠i:=by
    rintro rfl
    rcases hi (k,b) Ψ with q|q
    ·simp only at q;omega
    ·exact hd q
   rw[Au _ _ e,Au _ _ e];exact h.off k o hd c
  ·by_cases e:k=i
   ·subst e;rw[Ay,Ay]
   ·rw[Au _ _ e,Au _ _ e];exact h.same k c
  ·rw[Au _ _ (by rintro rfl;exact c (j (k,b) Ψ))];exact h.far k p c
theorem Bby{c:Option Nat}{m x:Cl}(a:∀i∈m++x,hp i≠none/\S i):Tch N S c hp Fs (IA (Aj hp m) x) (IA (Aj Fs m) x):=by
 refine⟨λi hi h=>?_,λi j hd hi=>?_,λi hi=>?_,λi d hi=>?_⟩
 ·rw[Jd] at h;have f:Aj hp m i≠none:=λe=>hi (F1.1 e);split at h
  ·cases g:Aj hp m i with
   |none=>exact f g
   |some b=>rw[g] at h;cases h
  ·exact f h
 ·have e:i ∉ m/\i ∉ x:=by
   refine⟨λh=>?_,λh=>?_⟩<;>(rcases hi with hi|hi)
   ·exact hi (a i (by simp[h])).2
   ·exact (a i (by simp[h])).1 hi
   ·exact hi (a i (by simp[h])).2
   ·exact (a i (by simp[h])).1 hi
  rw[Jd,Jd,Bd e.2,Bd e.2,Cv,Cv,Bd e.1,Bd e.1];exact⟨rfl,rfl⟩
 ·rw[Jd,Jd,Cv,Cv,hi]
 ·rw[Jd,Cv,Bd (λh=>d (a i (by simp[h])).2),Bd (λh=>d (a i (by simp[h])).2)]
theorem Anf(e:Rel none none){f:FuncId}{c:Call}{K:St->Option R}{K':St->Option R'}(Sa:c.args.toList.map (Da tm)=c.args.toList.map (Da tm'))(E:∀i,S i->hp i=Fs i\/(hp i=none/\∀b,Rel none b))(y:∀p∈c.args.toList.map (Da tm'),∀i∈Cy p,S i)(G:∀p∈c.args.toList.map (Da tm'),∀i∈Cy p,∀c,Fs i=some (.st c)->∀q∈c,∀k∈A6 q,S k)(z:∀d,o.dst=some d->hp d=Fs d)(n:∀i,N<=i->hp i=Fs i)(H:∀v Ek My,Tch N S o.dst hp Fs Ek My->Rel (K ⟨Dp tm o.dst v,Ek⟩) (K' ⟨Dp tm' o.dst v,My⟩)):Rel (UX C P N F ⟨tm,hp⟩ o f c K) (UX C P N F ⟨tm',Fs⟩ o f c K'):=by
 unfold UX;simp only[Sa];refine Abp e E y G λvs m x l s=>Bf e λt=>Aeb e λV ro=>UC e λW bs A=>Bf e λ_=>?_;simp only[Gh] at t;have J:0<N:=kw (Vc t.1.2);rw[Akp n J];by_cases Awr:∃i∈l.flatMap Ko.ids,hp i≠Fs i
 ·obtain⟨i,hi,L⟩:=Awr;obtain⟨B,M⟩:=s i (B8.2 (.inr hi));rcases E i M with h|⟨h,_⟩
  ·exact absurd h L
  ·exact absurd h B
 have O:∀i∈l.flatMap Ko.ids,hp i≠none/\S i/\hp i=Fs i:=λi hi=>⟨(s i (B8.2 (.inr hi))).1,(s i (B8.2 (.inr hi))).2,Classical.byContradiction λh=>Awr ⟨i,hi,h⟩⟩;have D:Tch N S o.dst hp Fs (IA (Aj hp m) x) (IA (Aj Fs m) x):=Bby λi hi=>s i (B8.2 (.inl hi));refine KH e D O λQ B r w Bqa=>?_
 have Awx:∀q∈bs++r,N<=q.1\/o.dst=some q.1:=by
  intro q a;rcases B8.1 a with a|a
  ·obtain⟨j,g⟩:=A q a;cases hd:o.dst with
   |none=>
    rw[hd] at g;left;rw[g];exact Nat.le_add_right _ _
   |some d=>
    rw[hd] at g;change q.1=d+N*j at g;cases j with
    |zero=>right;rw[g];simp
    |succ j=>left;rw[g,kq];omega
  ·obtain⟨k,T⟩:=Bqa q a;left;rw[T];unfold nid;exact gj _ Ω
 have VJ:∀q∈bs++r,Q q.1=B q.1:=by
  intro q a;refine w.same q.1 ?_;rcases Awx q a with h|h
  ·exact n _ h
  ·exact z _ h
 rw[Afh VJ]
 exact Bf e λt=>H _ _ _ (Aad w w Awx λq a=>by
  cases U:hp q.1 with
  |none=>rfl
  |some c=>exact absurd ((VJ q a).trans ((Cg t).1 q.1 q.2 a)) (w.keep q.1 (by rw[U];simp)))
theorem Q8(a:Rel none none){K:St->Option R}{K':St->Option R'}(Sa:∀x∈o.op.operands.toList,Da tm x=Da tm' x)(n:∀i,Rch o tm' Fs i->hp i=Fs i\/(hp i=none/\∀b,Rel none b))(l:∀d,o.dst=some d->hp d=Fs d)(s:∀i,N<=i->hp i=Fs i)(r:∀v Ek My,Tch N (Rch o tm' Fs) o.dst hp Fs Ek My->Rel (K ⟨Dp tm o.dst v,Ek⟩) (K' ⟨Dp tm' o.dst v,My⟩)):Rel (Ahy C P N F ⟨tm,hp⟩ o K) (Ahy C P N F ⟨tm',Fs⟩ o K'):=by
 unfold Ahy;have j:∀x∈o.op.operands.toList,∀i∈Cy (Da tm' x),Rch o tm' Fs i:=λx e i hi=>.inl ⟨x,e,hi⟩;have Uk:WW o.op=false->∀x∈o.op.operands.toList,∀i∈Cy (Da tm' x),∀c,Fs i=some (.st c)->∀q∈c,∀k∈A6 q,Rch o tm' Fs k:=λD x e i hi c w q E k G=>.inr ⟨D,i,c,⟨x,e,hi⟩,w,q,E,G⟩;generalize H:Rch o tm' Fs=S at *
 generalize J:o.op=op at *
 split
 ·rename_i t x y;simp only[Sa x (by simp[gs]),Sa y (by simp[gs])];refine Bf a λhd=>Ann (N:=N) a n (λi hi=>j x (by simp[gs]) i (Rb hi)) (λi hi=>j y (by simp[gs]) i (Lx hi)) λEk My z=>?_;have m:=vu.1 hd;have:=r .top Ek My (by rw[m];exact z)
  rw[m] at this;exact this
 ·rename_i c
  have Xq:∀x∈c.args.toList,x∈(Op.call c).operands.toList:=by
   intro x e;simp only[gs,Call.operands,gw,B8];exact .inr e
  split
  ·rename_i w;refine E0 a λd hd=>Cm a λx _ e=>Cm a λy _ A=>Im a (Cm a λ_ _ _=>Cm a λ_ _ _=>?_);subst A;have g:=Xq x (by rw[e];simp)
   have h:=Xq y (by rw[e];simp)
   simp only[Sa x g,Sa y h];refine Ai9 a n (l d hd) (λi hi=>j x g i (Lx hi)) (λi hi=>j y h i (Lx hi)) λv Ek My z=>?_;have:=r v Ek My (by rw[hd];exact z N)
   rw[hd] at this;exact this
  ·rename_i w;refine Cm a λx _ e=>Cm a λy _ A=>Im a (Cm a λ_ _ _=>Cm a λ_ _ _=>?_);subst A;have g:=Xq x (by rw[e];simp)
   have h:=Xq y (by rw[e];simp)
   simp only[Sa x g,Sa y h];exact Apc a n (λi hi=>j x g i (Lx hi)) (λi hi=>j y h i (Lx hi)) r
  ·rename_i f B;refine Anf a (vz λx e=>Sa x (Xq x e)) n (λp hp i hi=>?_) (λp hp i hi=>?_) l s r
   ·obtain⟨x,e,rfl⟩:=kl.1 hp;exact j x (Xq x e) i hi
   ·obtain⟨x,e,rfl⟩:=kl.1 hp;exact Uk (by simp only[WW,B]) x (Xq x e) i hi
  ·exact a
 ·exact a
theorem ZW(b:Rel none none){K:St->Option R}{K':St->Option R'}(Sa:∀x∈o.op.operands.toList,Da tm x=Da tm' x)(c:∀v Ek,(∀i,hp i≠none->Ek i≠none)->Rel (K ⟨Dp tm o.dst v,Ek⟩) (K' ⟨Dp tm' o.dst v,Ek⟩)):Rel (Ahy C P N F ⟨tm,hp⟩ o K) (Ahy C P N F ⟨tm',hp⟩ o K'):=
 Q8 b Sa (λ_ _=>.inl rfl) (λ_ _=>rfl) (λ_ _=>rfl) λv Ek My a=>by
  have:Ek=My:=funext λi=>a.same i rfl;subst this;exact c v Ek a.keep
end
section
variable {R:Type}{r:R}{C:Lf}{P:Program}{N:Nat}{F:An}{ops:Array Oper}{o x:Oper}{s:St}{K:St->Option R}
theorem Agt{Ek:Nat->Option Co}{q:IP}(a:Ma P o.op=false)(ht:∀t∈looks ops o,tm t=tm' t)(h:gE C P N F ops o ⟨tm,hp⟩=some q):gE C P N F ops o ⟨tm',Ek⟩=some q:=
 PE (s:=⟨tm,hp⟩) (s':=⟨tm',Ek⟩) ht (λh=>by rw[a] at h;cases h) h
theorem TY(a:Ma P o.op=false)(h:Fq C P N F ops o ⟨tm,hp⟩ K=some r):
  ∃v nw,gE C P N F ops o ⟨tm,hp⟩=some (v,[],nw)/\Jr N o.dst=true/\Cs hp nw=true/\(∀p∈nw,o.dst=some p.1)/\K ⟨Dp tm o.dst v,A8 hp nw⟩=some r:=by
 have f:FU C P o.op=false:=by
  cases g:FU C P o.op
  ·rfl
  ·rw[RB g] at a;cases a
 rw[Q9 (by simp[L8,f])] at h;cases e:gE C P N F ops o ⟨tm,hp⟩ with
 |none=>rw[e] at h;cases h
 |some q=>
  obtain⟨v,fz,nw⟩:=q;obtain⟨c,d⟩:=(GT e).1 a;simp only at c d;subst c;rw[e] at h;obtain⟨b,h⟩:=Ax h;simp only[Gh] at b;exact⟨v,nw,rfl,b.1,b.2,d,h⟩
theorem ZE{v:PV}(b:Ma P o.op=false)(e:gE C P N F ops o ⟨tm,hp⟩=some (v,[],nw))(hd:Jr N o.dst=true)(c:Cs hp nw=true)(h:K ⟨Dp tm o.dst v,A8 hp nw⟩=some r):Fq C P N F ops o ⟨tm,hp⟩ K=some r:=by
 have d:FU C P o.op=false:=by
  cases f:FU C P o.op
  ·rfl
  ·rw[RB f] at b;cases b
 rw[Q9 (by simp[L8,d]),e];show As _ _=_;have a:Cs hp nw=true:=c;rw[hd,a];exact h
theorem Va(a:Cs hp nw=true)(hi:∀p∈nw,p.1≠i):A8 hp nw i=hp i:=
 (Gq (Cg a).2).2 i λb c=>hi _ c rfl
theorem Azd{Ek:Nat->Option Co}(d:Cs hp nw=true){g:Nat->Option Co}(f:∀i,(∀p∈nw,p.1≠i)->g i=Ek i)(k:∀i,(∃p∈nw,p.1=i)->g i=A8 hp nw i)(a:Cs Ek nw=true):g=A8 Ek nw:=by
 funext i
 by_cases h:∃p∈nw,p.1=i
 ·rw[k i h];obtain⟨⟨j,b⟩,hp,rfl⟩:=h;rw[(Gq (Cg d).2).1 j b hp,(Gq (Cg a).2).1 j b hp]
 ·have c:∀p∈nw,p.1≠i:=λp hp e=>h ⟨p,hp,e⟩;rw[f i c,Va a c]
theorem A63(g:OV C P ops x o)(l:L8 C P ops x s.tm=true)(h:Fq C P N F ops x s (λs1=>Fq C P N F ops o s1 K)=some r):Fq C P N F ops o s (λs1=>Fq C P N F ops x s1 K)=some r:=by
 have m:Ma P o.op=false:=g.mx (by unfold L8 at l;simp only[Gh] at l;exact l.1)
 rw[Wd l] at h;obtain⟨tm,hp⟩:=s;have look:∀v,∀t∈looks ops o,Dp tm x.dst v t=tm t:=λv=>Is g.xo
 have D:=Q8 (P:=P) (N:=N) (o:=x) (tm:=tm) (tm':=tm) (hp:=hp) (Fs:=hp) (K:=λs1=>Fq C P N F ops o s1 K) (K':=λ_=>none)
  (Rel:=λ(a:Option R)(_:Option R)=>a=some r->∃v nw,gE C P N F ops o ⟨tm,hp⟩=some (v,[],nw)/\Jr N o.dst=true/\(∀p∈nw,o.dst=some p.1)/\Cs hp nw=true) (λh=>by cases h) (λ_ _=>rfl) (λ_ _=>.inl rfl) (λ_ _=>rfl) (λ_ _=>rfl) (λv Ek _ n h=>by
   obtain⟨u,nw,E,hd,f,k,_⟩:=TY m h;refine⟨u,nw,Agt m (look v) E,hd,k,AD f λi b hi=>?_⟩;cases q:hp i with
   |none=>rfl
   |some c=>exact absurd ((Cg f).1 i b hi) (n.keep i (by rw[q];simp))) h
 obtain⟨v,nw,A,hd,k,f⟩:=D;refine ZE m A hd f ?_;have B:∀t∈looks ops x,tm t=Dp tm o.dst v t:=λt ht=>(Is g.ox t ht).symm;rw[Wd (by rw[<-Rs B];exact l)]
 refine Q8 (P:=P) (N:=N) (o:=x) (tm:=tm) (tm':=Dp tm o.dst v) (hp:=hp) (Fs:=A8 hp nw) (Rel:=λ(a b:Option R)=>a=some r->b=some r) (λh=>by cases h) (Kn B) (λi _=>?_) (λd w=>?_) (λi hi=>(Va f λp hp e=>by have:=AW hd (k p hp);omega).symm) (λu Ek My n h=>?_) h
 ·by_cases hi:∃p∈nw,p.1=i
  ·obtain⟨⟨j,b⟩,Fs,rfl⟩:=hi;exact .inr ⟨(Cg f).1 j b Fs,λ_ h=>by cases h⟩
  ·exact .inl (Va f λp hp e=>hi ⟨p,hp,e⟩).symm
 ·refine (Va f λp hp e=>?_).symm;have:=k p hp;rw[e] at this;exact g.ne d w this
 ·obtain⟨J,G,Yb,_,y,_,H⟩:=TY m h;have z:=Agt (Ek:=hp) m (look u) Yb;rw[A] at z;simp only[Option.some.injEq,Prod.mk.injEq,true_and] at z;obtain⟨rfl,rfl⟩:=z
  have q:My=A8 Ek nw:=by
   refine Azd f (λi hi=>?_) (λi hi=>?_) y
   ·exact (n.same i (Va f hi).symm).symm
   ·obtain⟨⟨j,b⟩,Fs,rfl⟩:=hi;refine (n.off j (AW hd (k _ Fs)) (λe=>g.ne j e (k _ Fs)) (.inr ((Cg f).1 j b Fs))).2
  rw[q,<-Wv g.ne];exact H
theorem A66(E:Has C P o s)(k:OV C P ops x o)(g:L8 C P ops o s.tm=true)(h:Fq C P N F ops x s (λs1=>Fq C P N F ops o s1 K)=some r):Fq C P N F ops o s (λs1=>Fq C P N F ops x s1 K)=some r:=by
 have q:Ma P x.op=false:=k.mo (by unfold L8 at g;simp only[Gh] at g;exact g.1)
 obtain⟨tm,hp⟩:=s;obtain⟨v,nw,M,hd,j,n,w⟩:=TY q h;have G:∀t∈looks ops o,Dp tm x.dst v t=tm t:=Is k.xo;change Fq C P N F ops o ⟨Dp tm x.dst v,A8 hp nw⟩ K=some r at w;rw[Wd (by rw[Rs G];exact g)] at w
 rw[Wd g];have z:FU C P o.op=true:=by unfold L8 at g;simp only[Gh] at g;exact g.1
 have Bbl:∀i,Rch o tm hp i->hp i≠none:=by
  rintro i (⟨y,A,hi⟩|⟨B,id,c,⟨y,A,hi⟩,O,p,Fs,Q⟩)
  ·exact E.1 y A i hi
  ·exact E.2 z B y A id hi c O p Fs i Q
 refine Q8 (P:=P) (N:=N) (o:=o) (tm:=Dp tm x.dst v) (tm':=tm) (hp:=A8 hp nw) (Fs:=hp) (Rel:=λ(a b:Option R)=>a=some r->b=some r) (λh=>by cases h) (Kn G) (λi hi=>?_) (λd D=>?_) (λi hi=>Va j λp hp e=>by have:=AW hd (n p hp);omega) (λu Ek My H h=>?_) w
 ·refine .inl (Va j λp Ek e=>Bbl i hi ?_);rw[<-e];exact (Cg j).1 p.1 p.2 Ek
 ·refine Va j λp Ek e=>?_;have:=n p Ek;rw[e] at this;exact k.ne d this D
 ·have J:∀p∈nw,Ek p.1=A8 hp nw p.1/\My p.1=none:=by
   intro p f;have l:=(Cg j).1 p.1 p.2 f;have L:=H.off p.1 (AW hd (n p f)) (λe=>k.ne p.1 (n p f) e) (.inl λS=>Bbl _ S l);exact⟨L.1,L.2.trans l⟩
  have m:Cs My nw=true:=AD j λi b hi=>(J (i,b) hi).2;refine ZE q (Agt q (λt ht=>(Is k.ox t ht).symm) M) hd m ?_
  have T:Ek=A8 My nw:=by
   refine Azd j (λi hi=>?_) (λi hi=>?_) m
   ·exact H.same i (Va j hi)
   ·obtain⟨p,f,rfl⟩:=hi;exact (J p f).1
  rw[<-Wv k.ne,<-T];exact h
theorem Bj9(b:Has C P o s)(a:OV C P ops x o)(h:Fq C P N F ops x s (λs1=>Fq C P N F ops o s1 K)=some r):Fq C P N F ops o s (λs1=>Fq C P N F ops x s1 K)=some r:=by
 cases c:L8 C P ops x s.tm
 ·cases d:L8 C P ops o s.tm
  ·exact Atk b a.xo a.ne a.ox c d h
  ·exact A66 b a d h
 ·exact A63 a c h
theorem Rr(h:HB P o.op=true):FU C P o.op=false:=by
 unfold HB at h;split at h
 ·rename_i a;rw[a];rfl
 ·rename_i a;rw[a];rfl
 ·cases h
def Adl(P:Program)(ops:Array Oper)(o:Oper)(tm:Nat->PV):Prop:=HB P o.op=true\/K4 ops o tm=some false
theorem MW(h:∀t∈looks ops o,tm t=tm' t)(a:Adl P ops o tm):Adl P ops o tm':=by
 rcases a with a|a
 ·exact .inl a
 ·exact .inr (by rw[<-Rt h];exact a)
theorem Agf(a:Adl P ops o tm):L8 C P ops o tm=false:=by
 rcases a with a|a
 ·simp[L8,Rr a]
 ·simp[L8,a]
theorem Asy{q:IP}(d:Adl P ops o s.tm)(h:gE C P N F ops o s=some q):q.2.1=[]/\q.2.2=[]:=by
 unfold gE at h;split at h
 ·cases h
 ·rename_i i
  have d:HB P o.op=true:=by
   rcases d with d|d
   ·exact d
   ·rw[i] at d;cases d
  rw[Rr d] at h;have h:Ayb C P N F o s=some q:=h;unfold HB at d;split at d
  ·rename_i t a e;unfold Ayb Aa2 at h;rw[e] at h
   have:=Ael (nz:=C.nz N) (P:=P) (f:=rd s.hp) (f':=rd s.hp) (g:=Pf s.hp) (g':=Pf s.hp) (t:=t) (x:=Da s.tm a) (Rel:=λ(a b:Option IP)=>∀q,a=some q->q.2.1=[]/\q.2.2=[])
    (K:=λv=>some (v,[],[])) (K':=λv=>some (v,[],[])) (λ_ h=>by cases h) (λ_ _=>.inl ⟨rfl,rfl⟩) (λv q j=>by cases j;exact⟨rfl,rfl⟩)
   exact this q h
  ·rename_i k l y e;unfold Ayb Aa2 at h;rw[e] at h;simp only at h;unfold ZQ at h;split at d
   ·rename_i hd;rw[hd] at h;simp only at h;split at h
    ·obtain⟨_,_,h⟩:=E8 h;obtain⟨_,_,h⟩:=Dh h;cases h;exact⟨rfl,rfl⟩
    ·split at h
     ·exact AL (f:=Pf s.hp) (f':=Pf s.hp) (K':=λ_ _=>(none:Option IP)) (Rel:=λ(a _:Option IP)=>a=some q->q.2.1=[]/\q.2.2=[]) (λh=>by cases h) (λ_ _=>.inl rfl) (λn c h=>by
       obtain⟨_,h⟩:=Ax h;obtain⟨_,_,h⟩:=Dh h;obtain⟨_,_,h⟩:=Dh h;cases h;exact⟨rfl,rfl⟩) h
     ·exact AL (f:=Pf s.hp) (f':=Pf s.hp) (K':=λ_ _=>(none:Option IP)) (Rel:=λ(a _:Option IP)=>a=some q->q.2.1=[]/\q.2.2=[]) (λh=>by cases h) (λ_ _=>.inl rfl) (λn c h=>by
       obtain⟨_,h⟩:=Ax h;obtain⟨_,_,h⟩:=Dh h;obtain⟨_,_,h⟩:=Dh h;cases h;exact⟨rfl,rfl⟩) h
     ·cases h
    ·cases h
   ·cases d
  ·cases d
 ·cases h;exact⟨rfl,rfl⟩
theorem Awy(h:∀t∈looks ops o,tm t=tm' t)(hi:Rch o tm hp i):Rch o tm' hp i:=by
 have d:=Kn (ops:=ops) (o:=o) h;rcases hi with⟨y,a,hi⟩|⟨b,id,c,⟨y,a,hi⟩,e,q⟩
 ·exact .inl ⟨y,a,by rw[<-d y a];exact hi⟩
 ·exact .inr ⟨b,id,c,⟨y,a,by rw[<-d y a];exact hi⟩,e,q⟩
theorem Bag{Ek:Nat->Option Co}(h:Ek i=hp i):rd Ek i=rd hp i/\Pf Ek i=Pf hp i:=by unfold rd Pf;rw[h];exact⟨rfl,rfl⟩
theorem UR(a:Adl P ops o tm)(h:Fq C P N F ops o ⟨tm,hp⟩ K=some r):
  ∃v,gE C P N F ops o ⟨tm,hp⟩=some (v,[],[])/\Jr N o.dst=true/\K ⟨Dp tm o.dst v,hp⟩=some r:=by
 rw[Q9 (Agf a)] at h;cases e:gE C P N F ops o ⟨tm,hp⟩ with
 |none=>rw[e] at h;cases h
 |some q=>
  obtain⟨v,fz,nw⟩:=q;obtain⟨b,c⟩:=Asy a e;simp only at b c;subst b;subst c;rw[e] at h;obtain⟨d,h⟩:=Ax h;simp only[Gh] at d;exact⟨v,rfl,d.1,h⟩
theorem ZY{v:PV}(a:Adl P ops o tm)(e:gE C P N F ops o ⟨tm,hp⟩=some (v,[],[]))(hd:Jr N o.dst=true)(h:K ⟨Dp tm o.dst v,hp⟩=some r):Fq C P N F ops o ⟨tm,hp⟩ K=some r:=by rw[Q9 (Agf a),e];show As _ _=_;have b:Cs hp []=true:=rfl;simp only[hd,b,Bool.and_self];exact h
theorem A6a(l:Has C P o s)(xo:∀d,x.dst=some d->d ∉ looks ops o)(ne:∀d,x.dst=some d->o.dst≠some d)(ox:∀d,o.dst=some d->d ∉ looks ops x)(g:Adl P ops o s.tm)(A7g:∀y∈o.op.operands.toList,∀i∈Cy (Da s.tm y),¬Rch x s.tm s.hp i)(m:L8 C P ops x s.tm=true)(h:Fq C P N F ops x s (λs1=>Fq C P N F ops o s1 K)=some r):Fq C P N F ops o s (λs1=>Fq C P N F ops x s1 K)=some r:=by
 rw[Wd m] at h;obtain⟨tm,hp⟩:=s;have look:∀v,∀t∈looks ops o,Dp tm x.dst v t=tm t:=λv=>Is xo
 have A7s:∀{u:PV} {Ek:Nat->Option Co} {q:IP},(∀y∈o.op.operands.toList,∀i∈Cy (Da tm y),Ek i=hp i)->gE C P N F ops o ⟨Dp tm x.dst u,Ek⟩=some q->gE C P N F ops o ⟨tm,hp⟩=some q:=
  λp e=>PE (s:=⟨Dp tm x.dst _,_⟩) (s':=⟨tm,hp⟩) (look _) (λ_ y c i hi=>.inl (Bag (p y c i hi))) e
 have w:=Q8 (P:=P) (N:=N) (o:=x) (tm:=tm) (tm':=tm) (hp:=hp) (Fs:=hp) (K:=λs1=>Fq C P N F ops o s1 K) (K':=λ_=>none)
  (Rel:=λ(a:Option R)(_:Option R)=>a=some r->∃v,gE C P N F ops o ⟨tm,hp⟩=some (v,[],[])/\Jr N o.dst=true) (λh=>by cases h) (λ_ _=>rfl) (λ_ _=>.inl rfl) (λ_ _=>rfl) (λ_ _=>rfl) (λv Ek _ f h=>by
   obtain⟨u,z,hd,_⟩:=UR (MW (λt ht=>(look v t ht).symm) g) h;exact⟨u,A7s (λy c i hi=>f.far i (A7g y c i hi) (l.1 y c i hi)) z,hd⟩) h
 obtain⟨v,n,hd⟩:=w;refine ZY g n hd ?_;have j:∀t∈looks ops x,tm t=Dp tm o.dst v t:=λt ht=>(Is ox t ht).symm;rw[Wd (by rw[<-Rs j];exact m)]
 refine Q8 (P:=P) (N:=N) (o:=x) (tm:=tm) (tm':=Dp tm o.dst v) (hp:=hp) (Fs:=hp) (Rel:=λ(a b:Option R)=>a=some r->b=some r) (λh=>by cases h) (Kn j) (λ_ _=>.inl rfl) (λ_ _=>rfl) (λ_ _=>rfl) (λu Ek My f h=>?_) h;have A:Ek=My:=funext λi=>f.same i rfl;subst A;obtain⟨E,Yb,_,B⟩:=UR (MW (λt ht=>(look u t ht).symm) g) h;have k:=A7s (λy c i hi=>f.far i (λD=>A7g y c i hi (Awy (λt ht=>(j t ht).symm) D)) (l.1 y c i hi)) Yb;rw[n] at k;simp only[Option.some.injEq,Prod.mk.injEq,and_true] at k;subst k;rw[<-Wv ne];exact B
theorem A8o(xo:∀d,x.dst=some d->d ∉ looks ops o)(ne:∀d,x.dst=some d->o.dst≠some d)(ox:∀d,o.dst=some d->d ∉ looks ops x)(f:Adl P ops x s.tm)(A7g:∀y∈x.op.operands.toList,∀i∈Cy (Da s.tm y),¬Rch o s.tm s.hp i)(g:L8 C P ops o s.tm=true)(h:Fq C P N F ops x s (λs1=>Fq C P N F ops o s1 K)=some r):Fq C P N F ops o s (λs1=>Fq C P N F ops x s1 K)=some r:=by
 obtain⟨tm,hp⟩:=s;obtain⟨v,n,hd,j⟩:=UR f h;have k:∀t∈looks ops o,Dp tm x.dst v t=tm t:=Is xo;rw[Wd (by rw[Rs k];exact g)] at j
 rw[Wd g];refine Q8 (P:=P) (N:=N) (o:=o) (tm:=Dp tm x.dst v) (tm':=tm) (hp:=hp) (Fs:=hp) (Rel:=λ(a b:Option R)=>a=some r->b=some r) (λh=>by cases h) (Kn k) (λ_ _=>.inl rfl) (λ_ _=>rfl) (λ_ _=>rfl) (λu Ek My l h=>?_) j;have p:Ek=My:=funext λi=>l.same i rfl;subst p;have c:∀t∈looks ops x,tm t=Dp tm o.dst u t:=λt ht=>(Is ox t ht).symm;refine ZY (MW c f) (PE (s:=⟨tm,hp⟩) (s':=⟨Dp tm o.dst u,Ek⟩) c (λ_ y m i hi=>?_) n) hd ?_
 ·have hi:i∈Cy (Da tm y):=by rw[Kn c y m];exact hi
  by_cases e:hp i=none
  ·exact .inr ⟨Ate e,R8 e⟩
  ·obtain⟨q,w⟩:=Bag (l.far i (A7g y m i hi) e);exact .inl ⟨q.symm,w.symm⟩
 ·rw[<-Wv ne];exact h
def Aeg(P:Program)(x:Oper)(s s1:St):Prop:=(∀t,x.dst≠some t->s1.tm t=s.tm t)/\(∀i,s.hp i≠none->s1.hp i≠none)/\(Ma P x.op=false->∀i,s.hp i≠none->s1.hp i=s.hp i)
theorem Yf{d:Option Tmp}{v:PV}{t:Nat}(h:d≠some t):Dp tm d v t=tm t:=by
 cases d with
 |none=>rfl
 |some d=>exact Au _ _ (by rintro rfl;exact h rfl)
theorem Aba{K':St->Option R}(h:Fq C P N F ops x s K=some r)(g:∀s1,Aeg P x s s1->K s1=some r->K' s1=some r):Fq C P N F ops x s K'=some r:=by
 cases c:L8 C P ops x s.tm
 ·rw[Q9 c] at h ⊢;cases f:gE C P N F ops x s with
  |none=>rw[f] at h;cases h
  |some q=>
   rw[f] at h;obtain⟨d,j⟩:=Ax h;simp only[Gh] at d;show As _ _=_;rw[d.1,d.2];refine g _ ⟨λt ht=>Yf ht,λi hi=>Wf d.2 hi,λe i hi=>?_⟩ j;show A8 (Aj s.hp q.2.1) q.2.2 i=s.hp i;rw[Ja d.2 hi,((GT f).1 e).1];simp
 ·rw[Wd c] at h ⊢
  exact ZW (P:=P) (N:=N) (o:=x) (tm:=s.tm) (tm':=s.tm) (hp:=s.hp) (Rel:=λ(a b:Option R)=>a=some r->b=some r) (λh=>by cases h) (λ_ _=>rfl) (λv Ek k h=>g _ ⟨λt ht=>Yf ht,k,λe=>by
   have l:FU C P x.op=true:=by unfold L8 at c;simp only[Gh] at c;exact c.1
   rw[RB l] at e;cases e⟩ h) h
theorem Has.keeps{s1:St}(h:Has C P o s)(g:OV C P ops x o)(d:Aeg P x s s1):Has C P o s1:=by
 have b:∀y∈o.op.operands.toList,Da s1.tm y=Da s.tm y:=λy a=>Kn (ops:=ops) (o:=o) (λt ht=>d.1 t λhd=>g.xo t hd ht) y a;refine⟨λy a i hi=>?_,λj m y a i hi c l p hp k e=>?_⟩
 ·rw[b y a] at hi;exact d.2.1 i (h.1 y a i hi)
 ·rw[b y a] at hi;have f:=h.1 y a i hi;rw[d.2.2 (g.mo j) i f] at l;exact d.2.1 k (h.2 j m y a i hi c l p hp k e)
theorem YU:∀(l:List Oper){s:St}{K:St->Option R},Has C P o s->(∀x∈l,OV C P ops x o)->Vy C P N F ops l s (λs1=>Fq C P N F ops o s1 K)=some r->Fq C P N F ops o s (λs1=>Vy C P N F ops l s1 K)=some r
 |[],_,_,_,_,h=>h
 |x::l,s,K,b,a,h=>by
  refine Bj9 b (a x Ψ) ?_;refine Aba (K:=λs1=>Vy C P N F ops l s1 (λs2=>Fq C P N F ops o s2 K)) h λs1 c d=>?_;exact YU l (b.keeps (a x Ψ) c) (λy e=>a y (BL _ e)) d
theorem HZ:∀(l a:List Oper){s:St}{K:St->Option R},Vy C P N F ops (l++a) s K=Vy C P N F ops l s (λs1=>Vy C P N F ops a s1 K)
 |[],_,_,_=>rfl
 |x::l,a,s,K=>by
  show Fq C P N F ops x s (λs1=>Vy C P N F ops (l++a) s1 K)=Fq C P N F ops x s (λs1=>Vy C P N F ops l s1 _)
  congr 1
  funext s1
  exact HZ l a
theorem Ayd{l a:List Oper}(b:Has C P o s)(c:∀x∈l,OV C P ops x o)(h:Vy C P N F ops (l++o::a) s K=some r):Fq C P N F ops o s (λs1=>Vy C P N F ops (l++a) s1 K)=some r:=by rw[HZ] at h;have:=YU l b c h;refine Aba this λs1 _ d=>?_;rw[HZ];exact d
end
open Go.RowKit
section
variable {R:Type}{r:R}{P:Program}{N:Nat}{w0:World}{X0:M0}{Y:Nat->Prop}{β β':Bt}{s:St}{a:Act}{w w':World}{o:Oper}{ops:Array Oper}{C:Lf}{F:An}{K:St->Option R}
theorem Aal(h:D3 N w0 X0 Y β s a w)(hd:(ops[j]?).bind (·.dst)=some d)(ht:s.tm d=.sc v):yielded ops a.tmps j=match v with | .bool b=>some b|_=>none:=by
 have Ct:d<N:=by
  rcases Kp d N with e|e
  ·exact e
  ·rw[h.tmo d e] at ht;cases ht
 have c:=h.tms d Ct;rw[ht] at c;have c:=TP c;have Azs:d<a.tmps.size:=by rw[h.tsz];exact Ct
 have f:a.tmps[d]?=some v:=by
  rw[gx Azs];simp[Azs] at c;rw[c]
 unfold yielded;rw[hd];simp only[Option.bind_some,f];cases v<;>rfl
theorem OG(h:D3 N w0 X0 Y β s a w)(Rv:Env P G w0 X0)(Fp:∀f args g,F f args=some g->Ep G P f args g)(hi:ops[i]?=some o)(e:Fq C P N F ops o s K=some r):
  ∃s',K s'=some r/\∀(next:Act->World->Prop) (Q:Exit->Act->World->Prop),(∀m w' β',D3 N w0 X0 Y β' s' m w'->next m w')->wpOp P ops Q i next a w:=by
 rw[Agu] at e
 have n:∀b,K4 ops o s.tm=some b->Region.wanted o (yielded ops a.tmps)=b:=by
  intro b c;unfold K4 at c;unfold Region.wanted;cases p:o.guard with
  |none=>rw[p] at c;simpa using c
  |some q=>
   obtain⟨j,want⟩:=q;rw[p] at c;simp only at c ⊢;cases hd:(ops[j]?).bind (·.dst) with
   |none=>rw[hd] at c;cases c
   |some d=>
    rw[hd] at c;simp only at c;split at c
    ·rename_i t ht;rw[Aal h hd ht];simp at c;rw[<-c];cases t<;>cases want<;>rfl
    ·rename_i ht;rw[Aal h hd ht];simp at c;rw[c];rfl
    ·cases c
 split at e
 ·cases e
 ·rename_i k;obtain⟨s',l,v⟩:=Aqj h Rv Fp e;refine⟨s',l,λnext Q A0s=>?_⟩;unfold wpOp;rw[hi];simp only[n _ k,if_true];exact .inl (v next Q A0s)
 ·rename_i k;obtain⟨hd,e⟩:=Ax e;refine⟨_,e,λnext Q A0s=>?_⟩;unfold wpOp;rw[hi];simp only[n _ k];refine A0s _ _ β (h.put hd (A7.sc _) (by simp[Cy,Dj,A6]))
theorem D3.known(h:D3 N w0 X0 Y β s a w)(hd:s.tm d=.ub):∃b,D3 N w0 X0 Y β ⟨Dy s.tm d (.sc (.bool b)),s.hp⟩ a w:=by
 have Ct:d<N:=by
  rcases Kp d N with c|c
  ·exact c
  ·rw[h.tmo d c] at hd;cases hd
 have f:=h.tms d Ct;rw[hd] at f;have Oy:A7 w (Em s.hp β Y) .ub (a.tmps.getD d undef):=f
 obtain⟨b,g⟩:∃b,a.tmps.getD d undef=.bool b:=by
  generalize a.tmps.getD d undef=x at Oy;cases Oy with
  |ub b=>exact⟨b,rfl⟩
 refine⟨b,⟨h.dfr,h.tsz,λi hi=>?_,λi hi=>?_,h.box,h.inj,h.blt,λi hi=>?_,h.wfB,h.ownd,h.rngB,h.pin,h.stp,h.Yx,h.Ylt,h.fr⟩⟩
 ·show Dy s.tm d _ i=_;rw[Au _ _ Ω];exact h.tmo i hi
 ·by_cases e:i=d
  ·subst e;show Gw _ _ _ (Dy s.tm i _ i) _;rw[Ay,g];exact A7.sc _
  ·show Gw _ _ _ (Dy s.tm d _ i) _;rw[Au _ _ e];exact h.tms i hi
 ·by_cases e:i=d
  ·subst e;show ∀id∈Cy (Dy s.tm i _ i),_;rw[Ay];simp[Cy,Dj,A6]
  ·show ∀id∈Cy (Dy s.tm d _ i),_;rw[Au _ _ e];exact h.wfT i hi
theorem Afp{x y:Option R}(h:MP x y=some r):x=some r/\y=some r:=by
 unfold MP at h;split at h
 ·rename_i e;exact⟨h,e ▸ h⟩
 ·cases h
theorem Ail(h:D3 N w0 X0 Y β s a w){F:St->Option R}(c:Ar3 ops o s F=some r):∃s',F s'=some r/\D3 N w0 X0 Y β s' a w:=by
 unfold Ar3 at c;split at c
 ·exact⟨s,c,h⟩
 ·split at c
  ·exact⟨s,c,h⟩
  ·split at c
   ·rename_i d _ ht;obtain⟨b,e⟩:=h.known ht;obtain⟨f,g⟩:=Afp c;cases b
    ·exact⟨_,g,e⟩
    ·exact⟨_,f,e⟩
   ·exact⟨s,c,h⟩
theorem PP{G:MD}(Rv:Env P G w0 X0)(Fp:∀f args b,F f args=some b->Ep G P f args b){Q:Exit->Act->World->Prop}(m:∀s' e w' β',K s'=some r->D3 N w0 X0 Y β' s' e w'->Q .normal e w'):
  ∀(l:Cl) (os:List Oper),l.length=os.length->(∀(k i:Nat),l[k]?=some i->ops[i]?=os[k]?)->∀{s:St} {a:Act} {w:World} {β:Bt},D3 N w0 X0 Y β s a w->Ag9 C P N F ops os s K=some r->wpOps P ops Q l a w
 |[],[],_,_,s,a,w,β,h,c=>by
  show Q .normal a w;exact m s a w β c h
 |[],_::_,d,_,_,_,_,_,_,_=>by cases d
 |_::_,[],d,_,_,_,_,_,_,_=>by cases d
 |i::l,o::os,d,hi,s,a,w,β,h,c=>by
  rw[wpOps_cons];obtain⟨s1,c,h⟩:=Ail h c;obtain⟨s',g,n⟩:=OG h Rv Fp (by simpa using hi 0 i rfl) c;exact n _ _ λe w' β' p=>PP Rv Fp m l os (by simpa using d) (λk j q=>by simpa using hi (k+1) j (by simpa using q)) p g
theorem D3.drew(h:D3 N w0 X0 Y β s a w):D3 N w0 X0 Y β s a { w with drawn:=w.drawn+1 }:=by
 have:=h.stepR (d:=none) (v:=.top) (nw:=[]) (val:=undef) (w':={ w with drawn:=w.drawn+1 }) (β':=β) rfl rfl
  ⟨rfl,rfl,rfl,⟨Cz _,λ_ _ _=>rfl,λ_ _=>Kk.refl _ _⟩,λ_ _=>rfl,Ψ,Ψ,Ψ,Ψ,Ψ,.top _,by simp[Cy,Dj,A6]⟩
 exact this
theorem Ai5(h:D3 N w0 X0 Y β s a w)(Rv:Env P G w0 X0)(Fp:∀f args b,F f args=some b->Ep G P f args b){id:Nat}(e:Ag9 C P N F ops ops.toList s K=some r)(g:∀s' d w' β',K s'=some r->D3 N w0 X0 Y β' s' d w'->Q .normal d w'):(Code.region id ops false).wp P Q a w:=by
 refine wp_region (PP Rv Fp g (za ops.size) ops.toList Ψ (λk i hi=>?_) h e);rw[List.getElem?_range] at hi
 ·simp at hi;subst hi;simp
 ·rcases Kp k ops.size with c|c
  ·exact c
  ·rw[zh (by simpa using c)] at hi;cases hi
def Vf(n:Nat)(listed:Array Bool):Cl:=(za n).filter λi=> !listed.getD i true
def Bb0(ops:Array Oper)(listed:Array Bool)(o:Oper):Prop:=∀e∈o.after,Region.binds .any e=true->listed.getD e.on false=true
theorem testBit_or{a b:Nat}:(a ||| b).testBit j=(a.testBit j||b.testBit j):=gk a b j
theorem Ae9{a:Cl}{j:Nat}:∀(es:List Edge)(v:Nat),(es.foldl (λs e=>bif Region.binds .any e then s ||| 2 ^ e.on ||| a.getD e.on 0 else s) v).testBit j=true ->
  v.testBit j=true\/∃e∈es,Region.binds .any e=true/\(j=e.on\/(a.getD e.on 0).testBit j=true)
 |[],v,h=>.inl h
 |e::es,v,h=>by
  rcases Ae9 es _ h with h|⟨d,b,h⟩
  ·cases c:Region.binds .any e<;>simp only[c] at h
   ·exact .inl h
   ·simp only[cond_true,gk,gt] at h;rcases h with (h|h)|h
    ·exact .inl h
    ·refine .inr ⟨e,Ψ,c,.inl ?_⟩;rw[Nat.testBit_two_pow] at h;exact (of_decide_eq_true h).symm
    ·exact .inr ⟨e,Ψ,c,.inr h⟩
  ·exact .inr ⟨d,by simp[b],h⟩
theorem CV{listed:Array Bool}(r:∀(j:Nat) t,ops[j]?=some t->listed.getD j false=true->Bb0 ops listed t):
  ∀(rest done:List Oper) (a:Cl),ops.toList=done++rest->a.length=done.length ->
   (∀(k:Nat) o,done[k]?=some o->Bb0 ops listed o->∀j,(a.getD k 0).testBit j=true->listed.getD j false=true) ->
   ∀(k:Nat) o,ops[k]?=some o->Bb0 ops listed o->∀j,((Nt rest a).getD k 0).testBit j=true->listed.getD j false=true
 |[],done,a,g,_,h,k,o,c,f,j,b=>by
  refine h k o ?_ f j b;rw[vy] at g;rw[<-g]
  simpa using c
 |v::rest,done,a,g,l,h,k,o,c,f,j,b=>by
  refine CV r rest (done++[v]) _ (by rw[g];simp) (by simp[l]) ?_ k o c f j b
  intro k o c f j b;rcases Nat.lt_trichotomy k done.length with Ct|m|w
  ·rw[zi Ct] at c;rw[zj,zi Ω,<-zj] at b;exact h k o c f j b
  ·subst m;simp at c;subst c;rw[<-l] at b;simp only[zj,kf (Cz _),Nat.sub_self,ya,Option.getD_some] at b
   have b:(v.after.toList.foldl (λs e=>bif Region.binds .any e then s ||| 2 ^ e.on ||| a.getD e.on 0 else s) 0).testBit j=true:=by
    simpa only[zj] using b
   rcases Ae9 _ _ b with x|⟨e,y,z,d⟩
   ·simp at x
   ·have i:=f e (by simpa using y) z;rcases d with d|d
    ·rw[d];exact i
    ·cases hd:done[e.on]? with
     |none=>
      have:a.getD e.on 0=0:=by
       rw[zj,zh (by rw[l];exact List.getElem?_eq_none_iff.1 hd)]
       rfl
      rw[this] at d;simp at d
     |some n=>
      have p:ops[e.on]?=some n:=by
       rw[<-gy,g,zi (by
        rcases Kp e.on done.length with q|q
        ·exact q
        ·rw[zh q] at hd;cases hd)]
       exact hd
      exact h e.on n hd (r e.on n p i) j d
  ·rw[zh (by simp;omega)] at c
   cases c
theorem QU{bs:Cl}:∀(l:List Oper)(n:Nat),YL C P ops bs l n=true->∀(k:Nat) o,l[k]?=some o->∀(j:Nat) x,ops[j]?=some x->j<n+k->Aa5 C P ops x o=true->(bs.getD (n+k) 0).testBit j=true
 |[],_,_,k,o,a,_,_,_,_,_=>by simp at a
 |d::l,n,h,k,o,a,j,x,c,e,Sf=>by
  simp only[YL,Gh] at h;cases k with
  |zero=>
   simp at a;subst a
   have:=yb.1 h.1 (x,j) (by
    rw[yc]
    simpa using c)
   simp only[Sf,Gc,vd,gt,qg] at this;rcases this with b|b
   ·have:jh j n=true:=gl Ω;rw[this] at b;cases b
   ·exact b
  |succ k=>
   have:=QU l (n+1) h.2 k o (by simpa using a) j x c Ω Sf
   rwa [show n+(k+1)=n+1+k by omega]
theorem Pt:i∈Vf n listed↔i<n/\listed.getD i true=false:=by unfold Vf;simp[yd]
theorem MZ(hi:i∈Vf n listed)(e:listed.size=n):∃b c,Vf n listed=b++i::c/\Vf n (listed.setIfInBounds i true)=b++c/\∀j∈b,j<i:=by
 obtain⟨Ct,f⟩:=Pt.1 hi
 have d:za n=za i++i::(za (n-i-1)).map (i+1 + ·):=by
  conv=>lhs;rw[show n=i+(1+(n-i-1)) by omega]
  rw[ye,ye];simp[Ld]
 refine⟨(za i).filter λi=> !listed.getD i true,((za (n-i-1)).map (i+1 + ·)).filter λi=> !listed.getD i true,?_,?_,λj a=>?_⟩
 ·unfold Vf;rw[d,yf,List.filter_cons_of_pos (by rw[f];rfl)]
 ·unfold Vf;rw[d,yf,List.filter_cons_of_neg (by simp[e,Ct])]
  congr 1
  ·refine yg λj a=>?_;rw[getD_set_ne true (by have:=yh.1 a;omega)]
  ·refine yg λj a=>?_;obtain⟨k,_,rfl⟩:=kl.1 a;rw[getD_set_ne true Ω]
 ·exact yh.1 (yd.1 a).1
theorem Ay8(h:D3 N w0 X0 Y β s a w)(o:Oper):Has C P o s:=by refine⟨λy _ i hi=>Hs h y i hi,λ_ _ y _ i hi c b p hp k d=>h.wfB i c b p hp k d⟩
theorem Aes(A2f:(ops.toList.zipIdx.all λq=>q.1.after.toList.all λe=> !Region.binds .any e||jh e.on q.2)=true)(a:HeadInv .any ops ops.size listed)(g:Region.ready .any ops listed=[]):Vf ops.size listed=[]:=by
 cases hp:Vf ops.size listed with
 |nil=>rfl
 |cons i l=>
  exfalso;have hi:i∈Vf ops.size listed:=by rw[hp];simp
  obtain⟨Ct,h⟩:=Pt.1 hi;obtain⟨b,p,c,_,k⟩:=MZ hi a.size
  have d:b=[]:=by
   cases b with
   |nil=>rfl
   |cons j b=>
    rw[hp] at c;simp at c;have:=k j Ψ;omega
  subst d
  have Bpq:∀j,j<i->listed.getD j false=true:=by
   intro j r;cases m:listed.getD j false with
   |true=>rfl
   |false=>
    have:j∈Vf ops.size listed:=Pt.2 ⟨Ω,getD_in (by rw[a.size];omega) m⟩
    have f:(Vf ops.size listed).Pairwise (· < ·):=List.Pairwise.filter _ List.pairwise_lt_range;rw[c] at this f;simp at this;rcases this with e|e
    ·omega
    ·have:=(List.pairwise_cons.1 f).1 j e;omega
  have:i∈Region.ready .any ops listed:=by
   refine mem_ready.2 ⟨h,ops[i],gx Ct,λe n o=>Bpq _ ?_⟩
   have:=yb.1 A2f (ops[i],i) (by
    rw[yc];simp[Ct])
   have:=yb.1 this e (Array.mem_toList_iff.2 n);simp only[o,Gc,gv] at this;exact kw (Vc this)
  rw[g] at this;simp at this
theorem Ag4(Rv:Env P G w0 X0)(Fp:∀f args g,F f args=some g->Ep G P f args g)(c:Afx C P ops=true)(D:∀s' n w' β',K s'=some r->D3 N w0 X0 Y β' s' n w'->Q .normal n w'):
  ∀(fuel:Nat) {listed:Array Bool} {s:St} {a:Act} {w:World} {β:Bt},HeadInv .any ops ops.size listed->(Vf ops.size listed).length=fuel->D3 N w0 X0 Y β s a w->Vy C P N F ops ((Vf ops.size listed).filterMap (ops[·]?)) s K=some r->wpAny P .any ops Q fuel listed a w:=by
 unfold Afx at c;simp only[Gh] at c;obtain⟨A2f,Bca⟩:=c;intro fuel
 induction fuel with
 |zero=>
  intro listed s a w β b e h k;have hp:=kb e;rw[hp] at k;refine⟨?_,D s a w β k h⟩;cases p:Region.ready .any ops listed with
  |nil=>rfl
  |cons i l=>
   exfalso;have hi:i∈Region.ready .any ops listed:=by rw[p];simp
   obtain⟨q,o,d,_⟩:=mem_ready.1 hi;have:i∈Vf ops.size listed:=Pt.2 ⟨(gz.1 d).1,q⟩;rw[hp] at this;simp at this
 |succ fuel E=>
  intro listed s a w β b e h k;refine⟨λp=>?_,λi hi=>?_⟩
  ·rw[Aes A2f b p] at e;cases e
  ·obtain⟨q,o,d,H⟩:=mem_ready.1 hi;have Ct:i<ops.size:=(gz.1 d).1;obtain⟨J,U,t,B,L⟩:=MZ (Pt.2 ⟨Ct,q⟩) b.size;rw[t,yi,List.filterMap_cons_some d] at k
   have v:∀x∈J.filterMap (ops[·]?),OV C P ops x o:=by
    intro x M;obtain⟨j,m,y⟩:=v8.1 M;refine A1u ?_;cases Sf:Aa5 C P ops x o with
    |false=>rfl
    |true=>
     exfalso;have Xz:=QU ops.toList 0 Bca i o (by simpa using d) j x y (by have:=L j m;omega) Sf
     rw[I8] at Xz;have z:=CV (listed:=listed) (λj O m R=>b.closed j O m R) ops.toList [] [] Ψ rfl Ψ i o d H j Xz;have:j∈Vf ops.size listed:=by rw[t];simp[m]
     have:=getD_both (Pt.1 this).2;rw[z] at this;cases this
   obtain⟨s',A,S⟩:=OG h Rv Fp d (Ayd (Ay8 h o) v k);refine S _ _ λn w' β' T=>E (b.set hi Ct) ?_ T ?_
   ·rw[B];rw[t] at e;simp at e ⊢;omega
   ·rw[B,yi];exact A
theorem TB(h:D3 N w0 X0 Y β s a w)(Rv:Env P G w0 X0)(Fp:∀f args b,F f args=some b->Ep G P f args b)(p:P.follows .mixedOrders=true)(c:Afx C P ops=true)(g:Vy C P N F ops ops.toList s K=some r)(l:∀s' d w' β',K s'=some r->D3 N w0 X0 Y β' s' d w'->Q .normal d w'):wpAny P .any ops Q ops.size (g0 ops.size false) a { w with drawn:=w.drawn+1 }:=by
 have hp:Vf ops.size (g0 ops.size false)=za ops.size:=by
  unfold Vf;refine yj.2 λi hi=>?_;have:=yh.1 hi;simp[this]
 refine Ag4 (C:=C) Rv Fp c l ops.size ⟨Ψ,λj q _ e=>(by rw[getD_replicate_false] at e;cases e),λt ht m=>Ω⟩ (by rw[hp];simp) h.drew ?_
 rw[hp]
 have:(za ops.size).filterMap (ops[·]?)=ops.toList:=by
  refine List.ext_getElem? λk=>?_
  have:∀(n:Nat),n<=ops.size->(za n).filterMap (ops[·]?)=ops.toList.take n:=by
   intro n
   induction n with
   |zero=>intro _;rfl
   |succ n o=>
    intro v;rw[yk,yi,o Ω,yl]
    congr 1
    have:ops[n]?=some ops[n]:=gx Ω;simp[this]
  rw[this ops.size (Cz _)]
  congr 1
  exact Gp Ψ
 rw[this];exact g
theorem Ahr(h:D3 N w0 X0 Y β s a w)(Rv:Env P G w0 X0)(Fp:∀f args b,F f args=some b->Ep G P f args b)(d:P.follows .mixedOrders=true)(c:Afx C P ops=true){id:Nat}(g:Vy C P N F ops ops.toList s K=some r)(i:∀s' e w' β',K s'=some r->D3 N w0 X0 Y β' s' e w'->Q .normal e w'):(Code.region id ops true).wp P Q a w:=
 wp_region_any d (TB h Rv Fp d c g i)
end
end
section
open Go.RowKit
section
variable {R R':Type}{Rel:Option R->Option R'->Prop}{P:Program}{N:Nat}{tm tm':Nat->PV}{hp Fs:Nat->Option Co}{o:Oper}
end
section
variable {R R':Type}{r:R}{r':R'}{C:Lf}{P:Program}{N:Nat}{F:An}{ops:Array Oper}{o x:Oper}{s s1 s2:St}{K:St->Option R}
theorem IE(h:L8 C P ops o tm=true):FU C P o.op=true:=by unfold L8 at h;simp only[Gh] at h;exact h.1
theorem ON(h:Fq C P N F ops x s K=some r):∃s1,Fq C P N F ops x s some=some s1/\Aeg P x s s1/\(HB P x.op=true->s1.hp=s.hp)/\K s1=some r:=by
 cases d:L8 C P ops x s.tm
 ·rw[Q9 d] at h ⊢;cases e:gE C P N F ops x s with
  |none=>rw[e] at h;cases h
  |some q=>
   rw[e] at h;obtain⟨c,g⟩:=Ax h;simp only[Gh] at c;refine⟨_,?_,⟨λt ht=>Yf ht,λi hi=>Wf c.2 hi,λf i hi=>?_⟩,λj=>?_,g⟩
   ·show As _ _=_;rw[c.1,c.2];rfl
   ·show A8 (Aj s.hp q.2.1) q.2.2 i=s.hp i;rw[Ja c.2 hi,((GT e).1 f).1];simp
   ·show A8 (Aj s.hp q.2.1) q.2.2=s.hp;obtain⟨g,k⟩:=Asy (.inl j) e;rw[g,k]
    funext i
    show Aj s.hp [] i=_;rw[Cv];simp
 ·rw[Wd d] at h ⊢
  exact ZW (P:=P) (N:=N) (o:=x) (tm:=s.tm) (tm':=s.tm) (hp:=s.hp) (K':=some) (Rel:=λ(a:Option R) (b:Option St)=>a=some r->∃s1,b=some s1/\Aeg P x s s1/\(HB P x.op=true->s1.hp=s.hp)/\K s1=some r) (λh=>by cases h) (λ_ _=>rfl) (λv Ek l h=>⟨_,rfl,⟨λt ht=>Yf ht,l,λf=>(by
   rw[RB (IE d)] at f;cases f)⟩,λj=>(by
   have:=IE d;rw[Rr j] at this;cases this),h⟩) h
theorem Agi{K':St->Option R'}(h:Fq C P N F ops x s some=some s1)(c:K' s1=some r'):Fq C P N F ops x s K'=some r':=by
 cases d:L8 C P ops x s.tm
 ·rw[Q9 d] at h ⊢;cases e:gE C P N F ops x s with
  |none=>rw[e] at h;cases h
  |some q=>
   rw[e] at h;obtain⟨f,g⟩:=Ax h;show As _ _=_;rw[f];cases g;exact c
 ·rw[Wd d] at h ⊢;exact ZW (P:=P) (N:=N) (o:=x) (tm:=s.tm) (tm':=s.tm) (hp:=s.hp) (K:=some) (Rel:=λ(a:Option St) (b:Option R')=>a=some s1->b=some r') (λh=>by cases h) (λ_ _=>rfl) (λv Ek i h=>by cases h;exact c) h
theorem Ag7(d:FU C P o.op=true)(h:Rch o s.tm s.hp i):i∈Un C P s o:=by
 unfold Un;rw[d];cases e:WW o.op
 ·simp only[Ix,Bool.and_self,cond_true,B8];rcases h with⟨y,a,hi⟩|⟨_,id,c,⟨y,a,hi⟩,f,p,hp,g⟩
  ·exact .inl (zk.2 ⟨y,a,hi⟩)
  ·refine .inr (zk.2 ⟨id,zk.2 ⟨y,a,hi⟩,?_⟩);rw[f];exact zk.2 ⟨p,hp,g⟩
 ·simp only[Gc,Zzt,cond_false,Bool.or_true,cond_true];rcases h with⟨y,a,hi⟩|⟨b,_⟩
  ·exact zk.2 ⟨y,a,hi⟩
  ·rw[e] at b;cases b
theorem Ahl(a:FU C P o.op=true\/HB P o.op=true){y:Operand}(b:y∈o.op.operands.toList)(h:i∈Cy (Da s.tm y)):i∈Un C P s o:=by
 rcases a with c|a
 ·exact Ag7 c (.inl ⟨y,b,h⟩)
 ·unfold Un;rw[Rr a,a];exact zk.2 ⟨y,b,h⟩
theorem Akz(ht:∀t∈looks ops o,s1.tm t=s.tm t)(f:FU C P o.op=true->WW o.op=false->∀y∈o.op.operands.toList,∀i∈Cy (Da s.tm y),s1.hp i=s.hp i):Un C P s1 o=Un C P s o:=by
 have g:=Kn (ops:=ops) (o:=o) ht
 have j:(o.op.operands.toList.flatMap λy=>Cy (Da s1.tm y))=o.op.operands.toList.flatMap λy=>Cy (Da s.tm y):=by
  have Bd9:∀l:List Operand,(∀y∈l,Da s1.tm y=Da s.tm y)->(l.flatMap λy=>Cy (Da s1.tm y))=l.flatMap λy=>Cy (Da s.tm y):=by
   intro l
   induction l with
   |nil=>intro _;rfl
   |cons a l d=>intro h;simp only[Le];rw[h a Ψ,d λy b=>h y (by simp[b])]
  exact Bd9 _ g
 unfold Un;simp only[j];cases e:(FU C P o.op && !WW o.op)
 ·rfl
 ·simp only[cond_true];simp only[Gh,qg] at e
  congr 1
  have Bd9:∀l:Cl,(∀i∈l,s1.hp i=s.hp i)->(l.flatMap λi=>match s1.hp i with|some (.st c)=>c.flatMap A6|_=>[])=l.flatMap λi=>match s.hp i with|some (.st c)=>c.flatMap A6|_=>[]:=by
   intro l
   induction l with
   |nil=>intro _;rfl
   |cons a l d=>intro h;simp only[Le];rw[h a Ψ,d λy b=>h y (by simp[b])]
  exact Bd9 _ λi hi=>by
   obtain⟨y,b,hi⟩:=zk.1 hi;exact f e.1 e.2 y b i hi
theorem Aa1{a b:Cl}(h:Av9 a b=true)(c:i∈a)(d:i∈b):False:=by have:=yb.1 h i c;have e:b.any (Nat.beq i)=true:=zm.2 ⟨i,d,Uz i⟩;rw[e] at this;cases this
theorem Awv{a b:Cl}(h:Av9 a b=true):Av9 b a=true:=by
 refine yb.2 λi hi=>?_;cases c:a.any (Nat.beq i)
 ·rfl
 ·obtain⟨j,d,e⟩:=zm.1 c;rw[Ed e] at hi;exact (Aa1 h d hi).elim
theorem OH:Qm C P x o=Qm C P o x:=by unfold Qm;cases FU C P x.op<;>cases FU C P o.op<;>cases HB P x.op<;>cases HB P o.op<;>cases WW x.op<;>cases WW o.op<;>rfl
structure Tu(C:Lf)(P:Program)(ops:Array Oper)(x o:Oper):Prop where
 xo:∀d,x.dst=some d->d ∉ looks ops o
 ne:∀d,x.dst=some d->o.dst≠some d
 ox:∀d,o.dst=some d->d ∉ looks ops x
 me:DH C P x o=false\/Qm C P x o=true
theorem Ax0(h:A06 C P ops x o=false):Tu C P ops x o:=by
 unfold A06 at h;simp only[ve] at h;obtain⟨a,c⟩:=h;have f:=a;unfold A1t at a;simp only[ve] at a
 have g:Aa5 C P ops x o=false\/DH C P x o=true:=by
  cases b:DH C P x o
  ·left;unfold Aa5;unfold DH at b;simp only[ve] at b ⊢;exact⟨⟨⟨a.1,a.2⟩,b.1⟩,b.2⟩
  ·exact .inr rfl
 refine⟨λd hd=>?_,λd hd e=>?_,λd hd=>?_,?_⟩
 ·have:=a.1;simp only[hd,ve] at this;exact DX this.1
 ·have:=a.1;simp only[hd,e,ve] at this;rw[Uz] at this;cases this.2
 ·have:=a.2;simp only[hd] at this;exact DX this
 ·cases b:DH C P x o
  ·exact .inl rfl
  ·rw[b] at c;right
   simpa using c
theorem Tu.apart(a:Tu C P ops x o)(h:DH C P x o=false):OV C P ops x o:=by
 unfold DH at h;simp only[ve,gu] at h;refine⟨a.xo,a.ne,a.ox,λb=>?_,λb=>?_⟩
 ·rcases h.1 with h|h
  ·rw[b] at h;cases h
  ·exact h
 ·rcases h.2 with h|h
  ·rw[b] at h;cases h
  ·exact h
theorem Tu.same(b:Tu C P ops x o)(c:Aeg P x s s1)(d:HB P x.op=true->s1.hp=s.hp)(a:FU C P o.op=true)(e:WW o.op=false)(hi:s.hp i≠none):s1.hp i=s.hp i:=by
 rcases b.me with h|h
 ·exact c.2.2 ((b.apart h).mo a) i hi
 ·unfold Qm at h;simp only[Zzt,vd,gt,Gh] at h;rcases h with h|h
  ·have:=h.2;rw[Rr (C:=C) (P:=P) this] at a;cases a
  ·rw[d h.2]
theorem Has.keepsS(h:Has C P o s)(f:Tu C P ops x o)(d:Aeg P x s s1)(m:HB P x.op=true->s1.hp=s.hp):Has C P o s1:=by
 have b:∀y∈o.op.operands.toList,Da s1.tm y=Da s.tm y:=λy a=>Kn (ops:=ops) (o:=o) (λt ht=>d.1 t λhd=>f.xo t hd ht) y a;refine⟨λy a i hi=>?_,λg j y a i hi c l p hp k e=>?_⟩
 ·rw[b y a] at hi;exact d.2.1 i (h.1 y a i hi)
 ·rw[b y a] at hi;rw[f.same d m g j (h.1 y a i hi)] at l;exact d.2.1 k (h.2 g j y a i hi c l p hp k e)
theorem Tu.symm(a:Tu C P ops x o):Tu C P ops o x:=by
 refine⟨a.ox,λd hd b=>a.ne d b hd,a.xo,?_⟩;rcases a.me with h|h
 ·left;unfold DH at h ⊢;rw[Bool.or_comm];exact h
 ·right;rw[OH];exact h
theorem Bj6(n:Has C P o s)(j:Qm C P x o=true->∀i∈Un C P s x,s.hp i≠none)(d:Tu C P ops x o)(hd:Qm C P x o=true->Av9 (Un C P s x) (Un C P s o)=true)(h:Fq C P N F ops x s (λs1=>Fq C P N F ops o s1 K)=some r):Fq C P N F ops o s (λs1=>Fq C P N F ops x s1 K)=some r:=by
 rcases d.me with a|a
 ·exact Bj9 n (d.apart a) h
 ·have hd:=hd a;have j:=j a;cases g:L8 C P ops x s.tm
  ·cases f:L8 C P ops o s.tm
   ·exact Atk n d.xo d.ne d.ox g f h
   ·have c:=IE f
    have p:Adl P ops x s.tm:=by
     cases k:HB P x.op
     ·right
      have e:FU C P x.op=true:=by
       unfold Qm at a;simp only[k,Zzt,vd,gt,Gh] at a;exact a.1
      cases l:K4 ops x s.tm with
      |none=>
       exfalso;rw[Q9 g] at h;unfold gE at h;rw[l] at h;cases h
      |some b=>
       cases b
       ·rfl
       ·unfold L8 at g;rw[e,l] at g;cases g
     ·exact .inl k
    refine A8o d.xo d.ne d.ox p (λy q i hi v=>?_) f h;refine Aa1 hd (Ahl ?_ q hi) (Ag7 c v);unfold Qm at a;simp only[gt,Gh] at a;rcases a with a|a
    ·exact .inl a.1
    ·exact .inr a.2
  ·have e:=IE g;cases f:L8 C P ops o s.tm
   ·have w:Adl P ops o s.tm:=by
     cases k:HB P o.op
     ·right
      have c:FU C P o.op=true:=by
       unfold Qm at a;simp only[k,Zzt,gv,gt,Gh] at a;exact a.1
      cases l:K4 ops o s.tm with
      |none=>
       exfalso;obtain⟨s1,_,z,_,h⟩:=ON h;have m:K4 ops o s1.tm=none:=by rw[Rt (λt ht=>z.1 t λhd=>d.xo t hd ht)];exact l
       rw[Q9 (by unfold L8;rw[m];cases FU C P o.op<;>rfl)] at h
       unfold gE at h;rw[m] at h;cases h
      |some b=>
       cases b
       ·rfl
       ·unfold L8 at f;rw[c,l] at f;cases f
     ·exact .inl k
    refine A6a n d.xo d.ne d.ox w (λy q i hi v=>?_) g h;refine Aa1 hd (Ag7 e v) (Ahl ?_ q hi);unfold Qm at a;simp only[gt,Gh] at a;rcases a with a|a
    ·exact .inr a.2
    ·exact .inl a.1
   ·have c:=IE f;unfold Qm at a;simp only[gt,Gh] at a;rcases a with a|a
    ·rw[Rr (C:=C) (P:=P) a.2] at c;cases c
    ·rw[Rr (C:=C) (P:=P) a.2] at e;cases e
theorem A0g{α:Type}(a b:α)(l:List α)(f:α->Bool):(a::b::l).all f=(b::a::l).all f:=by simp only[ym];cases f a<;>cases f b<;>rfl
theorem UZ{bs:List Cl}:∀(l:Cl){dn a:List (Nat × Oper × Cl)} {s:St}{K:St->Option R},(∀f,dn.all f=a.all f)->Mz C P N F ops bs dn l s K=Mz C P N F ops bs a l s K
 |[],_,_,_,_,_=>rfl
 |i::l,dn,a,s,K,h=>by
  unfold Mz;cases ops[i]? with
  |none=>rfl
  |some o=>
   simp only[Dq,h]
   congr 2
   funext b
   exact UZ l λf=>by simp only[ym,h]
theorem YQ{bs:Cl}(hi:ops[i]?=some o):(WI C P ops bs).getD i []=RA C P ops bs i o:=by unfold WI;rw[zj,zr,List.getElem?_zipIdx,gy,hi];simp
theorem ED{bs:Cl}:j∈RA C P ops bs i o↔∃x,ops[j]?=some x/\Qm C P x o=true/\(jh j i&&(bs.getD i 0).testBit j)=false/\(jh i j&&(bs.getD j 0).testBit i)=false:=by
 unfold RA;simp only[kl,yd,Gh,qg,Prod.exists];constructor
 ·rintro⟨x,k,⟨d,⟨a,b⟩,c⟩,rfl⟩
  rw[yc] at d;exact⟨x,by simpa using d,a,b,c⟩
 ·rintro⟨x,e,a,b,c⟩
  refine⟨x,j,⟨?_,⟨a,b⟩,c⟩,rfl⟩;rw[yc]
  simpa using e
theorem YK{a:List Cl}(h:j∈a.getD i []):WY C P a s i o=Un C P s o:=by
 unfold WY;split
 ·rename_i e;rw[e] at h;simp at h
 ·rfl
theorem Az6{a:List Cl}(h:a.getD i []≠[]->Un C P s1 o=Un C P s o):WY C P a s1 i o=WY C P a s i o:=by
 unfold WY;split
 ·rfl
 ·rename_i e;exact h (by rw[e];simp)
theorem Asv{l:Cl}:l.any (Nat.beq j)=true↔j∈l:=by
 constructor
 ·intro h;obtain⟨k,a,e⟩:=zm.1 h;rw[Ed e];exact a
 ·intro h;exact zm.2 ⟨j,h,Uz j⟩
theorem OZ{bs:Cl}{a:List Cl}(d:a=WI C P ops bs){i:Nat}(hi:ops[i]?=some o){z:Cl}:∀(l:Cl){dn:List (Nat × Oper × Cl)} {s:St}{K:St->Option R},Has C P o s ->
  (∀j∈l,j<i/\(bs.getD i 0).testBit j=false/\∀x,ops[j]?=some x->Tu C P ops x o)->Mz C P N F ops a dn (l++i::z) s K=some r ->
  dn.all (Ac5 C P a s i o)=true/\Fq C P N F ops o s (λs1=>Mz C P N F ops a ((i,o,WY C P a s i o)::dn) (l++z) s1 K)=some r
 |[],dn,s,K,J,_,h=>by
  simp only[SJ] at h ⊢;unfold Mz at h;rw[hi] at h;simp only[Dq] at h;obtain⟨v,h⟩:=Ax h;simp only[Gh] at v;exact⟨v.1,h⟩
 |j::l,dn,s,K,J,W,h=>by
  simp only[Zzp] at h ⊢;unfold Mz at h;obtain⟨hji,Xz,M⟩:=W j Ψ;cases m:ops[j]? with
  |none=>rw[m] at h;cases h
  |some x=>
   rw[m] at h;simp only[Dq] at h;obtain⟨v,h⟩:=Ax h;simp only[Gh] at v;have w:=M x m
   have n:∀k∈WY C P a s j x,s.hp k≠none:=λk c=>by
    have:=yb.1 v.2 k c;intro e;rw[e] at this;cases this
   obtain⟨s1,e1,O,A,h1⟩:=ON h;obtain⟨Q,X⟩:=OZ d hi l (J.keepsS w O A) (λk c=>W k (by simp[c])) h1;have Bos:Un C P s1 o=Un C P s o:=Akz (ops:=ops) (λt ht=>O.1 t λhd=>w.xo t hd ht) λL S y T k c=>w.same O A L S (J.1 y T k c);have p:WY C P a s1 i o=WY C P a s i o:=Az6 λ_=>Bos;rw[ym,Gh] at Q
   have Bjj:jh i j=false:=by
    cases U:jh i j
    ·rfl
    ·have:=Vc U;omega
   have B:Qm C P x o=true->j∈a.getD i []:=λb=>by
    rw[d,YQ hi];exact ED.2 ⟨x,m,b,by rw[Xz,Zzt],by rw[Bjj,SK]⟩
   have D:Qm C P x o=true->i∈a.getD j []:=λb=>by
    rw[d,YQ m];exact ED.2 ⟨o,hi,by rw[OH];exact b,by rw[Bjj,SK],by rw[Xz,Zzt]⟩
   have Baz:Qm C P x o=true->Av9 (WY C P a s j x) (WY C P a s i o)=true:=by
    intro b;have:=Q.1;unfold Ac5 at this;rw[Asv.2 (B b),p] at this
    simpa using this
   have V:∀q,Ac5 C P a s1 i o q=Ac5 C P a s i o q:=λq=>by unfold Ac5;rw[p]
   have P9:dn.all (Ac5 C P a s i o)=true:=by
    refine yb.2 λq E=>?_;rw[<-V];exact yb.1 Q.2 q E
   refine⟨P9,?_⟩;rw[p] at X
   have h3:=Bj6 J (λb k c=>n k (by rw[YK (D b)];exact c)) w (λb=>by have:=Baz b;rw[YK (D b),YK (B b)] at this;exact this)
    (Agi (K':=λs1=>Fq C P N F ops o s1 (λs2=>Mz C P N F ops a ((i,o,WY C P a s i o)::(j,x,WY C P a s j x)::dn) (l++z) s2 K)) e1 X)
   obtain⟨s2,e2,Hn,Uk,h4⟩:=ON h3;refine Agi e2 ?_
   have g:WY C P a s2 j x=WY C P a s j x:=Az6 λF4=>by
    obtain⟨q,E⟩:=List.exists_mem_of_ne_nil _ F4;refine Akz (ops:=ops) (λt ht=>Hn.1 t λhd=>w.ox t hd ht) λL S y T k c=>w.symm.same Hn Uk L S (n k ?_);rw[YK E];exact Ahl (.inl L) T c
   unfold Mz;rw[m];simp only[Dq]
   have hc:(((i,o,WY C P a s i o)::dn).all (Ac5 C P a s2 j x)&&(WY C P a s2 j x).all λk=>(s2.hp k).isSome)=true:=by
    simp only[ym,Gh];refine⟨⟨?_,?_⟩,?_⟩
    ·unfold Ac5;simp only[g];cases b:(a.getD j []).any (Nat.beq i)
     ·rfl
     ·have Y:=Asv.1 b;rw[d,YQ m] at Y;obtain⟨o',G,H,_⟩:=ED.1 Y;rw[hi] at G;cases G;rw[OH] at H;rw[Awv (Baz H)];rfl
    ·refine yb.2 λq E=>?_;have:=yb.1 v.1 q E;unfold Ac5 at this ⊢;rw[g];exact this
    ·rw[g];refine yb.2 λk c=>?_;have:=Hn.2.1 k (n k c);cases U:s2.hp k with
     |none=>exact absurd U this
     |some _=>rfl
   rw[hc,g];show Fq C P N F ops x s2 _=some r
   have:(λZ=>Mz C P N F ops a ((j,x,WY C P a s j x)::(i,o,WY C P a s i o)::dn) (l++z) Z K)=λs2=>Mz C P N F ops a ((i,o,WY C P a s i o)::(j,x,WY C P a s j x)::dn) (l++z) s2 K:=by
    funext Z
    exact UZ _ λf=>A0g _ _ _ f
   rw[this];exact h4
end
section
variable {R:Type}{r:R}{P:Program}{N:Nat}{w0:World}{X0:M0}{Y:Nat->Prop}{β β':Bt}{s:St}{a:Act}{w w':World}{o:Oper}{ops:Array Oper}{C:Lf}{F:An}{K:St->Option R}
theorem MA{bs:Cl}:∀(l:List Oper)(n:Nat),SC C P ops bs l n=true->∀(k:Nat) o,l[k]?=some o->∀(j:Nat) x,ops[j]?=some x->j<n+k->A06 C P ops x o=true->(bs.getD (n+k) 0).testBit j=true
 |[],_,_,k,o,a,_,_,_,_,_=>by simp at a
 |d::l,n,h,k,o,a,j,x,c,e,Sf=>by
  simp only[SC,Gh] at h;cases k with
  |zero=>
   simp at a;subst a
   have:=yb.1 h.1 (x,j) (by
    rw[yc]
    simpa using c)
   simp only[Sf,Gc,vd,gt,qg] at this;rcases this with b|b
   ·have:jh j n=true:=gl Ω;rw[this] at b;cases b
   ·exact b
  |succ k=>
   have:=MA l (n+1) h.2 k o (by simpa using a) j x c Ω Sf
   rwa [show n+(k+1)=n+1+k by omega]
theorem Ag5(Rv:Env P G w0 X0)(Fp:∀f args k,F f args=some k->Ep G P f args k)(d:ZV C P ops=true)(J:∀s' p w' β',K s'=some r->D3 N w0 X0 Y β' s' p w'->Q .normal p w'):
  ∀(fuel:Nat) {dn:List (Nat × Oper × Cl)} {listed:Array Bool} {s:St} {a:Act} {w:World} {β:Bt},HeadInv .any ops ops.size listed->(Vf ops.size listed).length=fuel->D3 N w0 X0 Y β s a w->Mz C P N F ops (WI C P ops (Nt ops.toList [])) dn (Vf ops.size listed) s K=some r->wpAny P .any ops Q fuel listed a w:=by
 unfold ZV at d;simp only[Gh] at d;obtain⟨A2f,Bca⟩:=d;intro fuel
 induction fuel with
 |zero=>
  intro dn listed s a w β b g h m;have hp:=kb g;rw[hp] at m;refine⟨?_,J s a w β m h⟩;cases q:Region.ready .any ops listed with
  |nil=>rfl
  |cons i l=>
   exfalso;have hi:i∈Region.ready .any ops listed:=by rw[q];simp
   obtain⟨t,o,e,_⟩:=mem_ready.1 hi;have:i∈Vf ops.size listed:=Pt.2 ⟨(gz.1 e).1,t⟩;rw[hp] at this;simp at this
 |succ fuel L=>
  intro dn listed s a w β b g h m;refine⟨λq=>?_,λi hi=>?_⟩
  ·rw[Aes A2f b q] at g;cases g
  ·obtain⟨t,o,e,M⟩:=mem_ready.1 hi;have Ct:i<ops.size:=(gz.1 e).1;obtain⟨v,U,y,E,H⟩:=MZ (Pt.2 ⟨Ct,t⟩) b.size;rw[y] at m
   have n:∀j∈v,((Nt ops.toList []).getD i 0).testBit j=false:=by
    intro j c;cases Xz:((Nt ops.toList []).getD i 0).testBit j with
    |false=>rfl
    |true=>
     exfalso;have z:=CV (listed:=listed) (λj O c R=>b.closed j O c R) ops.toList [] [] Ψ rfl Ψ i o e M j Xz;have:j∈Vf ops.size listed:=by rw[y];simp[c]
     have:=getD_both (Pt.1 this).2;rw[z] at this;cases this
   have A:∀j∈v,j<i/\((Nt ops.toList []).getD i 0).testBit j=false/\∀x,ops[j]?=some x->Tu C P ops x o:=by
    intro j c;refine⟨H j c,n j c,λx B=>Ax0 ?_⟩;cases Sf:A06 C P ops x o with
    |false=>rfl
    |true=>
     exfalso;have Xz:=MA ops.toList 0 Bca i o (by simpa using e) j x B (by have:=H j c;omega) Sf
     rw[I8,n j c] at Xz;cases Xz
   obtain⟨s',D,S⟩:=OG h Rv Fp e (OZ rfl e v (Ay8 h o) A m).2;refine S _ _ λp w' β' T=>L (dn:=(i,o,WY C P (WI C P ops (Nt ops.toList [])) s i o)::dn) (b.set hi Ct) ?_ T ?_
   ·rw[E];rw[y] at g;simp at g ⊢;omega
   ·rw[E];exact D
theorem XT(h:D3 N w0 X0 Y β s a w)(Rv:Env P G w0 X0)(Fp:∀f args b,F f args=some b->Ep G P f args b)(m:P.follows .mixedOrders=true)(c:ZV C P ops=true)(g:Mz C P N F ops (WI C P ops (Nt ops.toList [])) [] (za ops.size) s K=some r)(k:∀s' d w' β',K s'=some r->D3 N w0 X0 Y β' s' d w'->Q .normal d w'):wpAny P .any ops Q ops.size (g0 ops.size false) a { w with drawn:=w.drawn+1 }:=by
 have hp:Vf ops.size (g0 ops.size false)=za ops.size:=by
  unfold Vf;refine yj.2 λi hi=>?_;have:=yh.1 hi;simp[this]
 refine Ag5 (C:=C) (dn:=[]) Rv Fp c k ops.size ⟨Ψ,λj n _ e=>(by rw[getD_replicate_false] at e;cases e),λt ht l=>Ω⟩ (by rw[hp];simp) h.drew ?_
 rw[hp];exact g
theorem Ang(h:D3 N w0 X0 Y β s a w)(Rv:Env P G w0 X0)(Fp:∀f args b,F f args=some b->Ep G P f args b)(d:P.follows .mixedOrders=true)(c:ZV C P ops=true){id:Nat}(g:Mz C P N F ops (WI C P ops (Nt ops.toList [])) [] (za ops.size) s K=some r)(i:∀s' e w' β',K s'=some r->D3 N w0 X0 Y β' s' e w'->Q .normal e w'):(Code.region id ops true).wp P Q a w:=
 wp_region_any d (XT h Rv Fp d c g i)
end
open Go.RowKit
section
variable {R:Type}{r:R}{N:Nat}{w0:World}{X0:M0}{Y:Nat->Prop}{β β':Bt}{s:St}{a:Act}{w w':World}
theorem A1r(hi:i<a.tmps.size):a.put (some i) (a.tmps.getD i undef)=a:=by
 obtain⟨tmps,dfr⟩:=a;change i<tmps.size at hi
 have:tmps.setIfInBounds i (tmps.getD i undef)=tmps:=by
  apply Array.ext_getElem?;intro k;by_cases e:i=k
  ·subst e;simp[hi]
  ·rw[Array.getElem?_setIfInBounds_ne e]
 simp only[Act.put,this]
theorem Aue{A:Nat->Prop}(h:A7 w A (.lst true es 0 []) v):v=.slice none 0 0:=by cases h;rfl
theorem Ar8{id:Nat}(Ce:s.hp id=none){v:PV}{val:Value}(f:Gw w (Em (A8 s.hp [(id,.ar false [])]) (Dy β id none) Y) (Dy β id none) v val)(g:∀i∈Cy v,s.hp i≠none\/i=id):
  Afs Y β s w v [(id,.ar false [])] val w (Dy β id none):=by
 refine⟨rfl,rfl,rfl,Df.refl _ _,λj b=>Au _ _ (by rintro rfl;exact b Ce),?_,?_,?_,?_,?_,f,?_⟩
 ·intro j c a;simp at a;rw[a.2];trivial
 ·intro j c a;simp at a;obtain⟨rfl,rfl⟩:=a;exact .inl ⟨Ay _ _ _,rfl⟩
 ·intro j c k q a d;simp at a;obtain⟨rfl,rfl⟩:=a;rw[Ay] at d;cases d
 ·intro j c m l k q n a e _ _;simp at a e;rw[a.1,e.1]
 ·intro j cells a;simp at a
 ·intro j b;rcases g j b with h|rfl
  ·exact .inl h
  ·exact .inr ⟨.ar false [],Ψ⟩
theorem Adq(h:D3 N w0 X0 Y β s a w)(i:Nat):∃β',D3 N w0 X0 Y β' (YG N s i) a w:=by
 unfold YG;split
 ·rename_i es ht
  have Ct:i<N:=by
   rcases Kp i N with e|e
   ·exact e
   ·rw[h.tmo i e] at ht;cases ht
  have b:=h.tms i Ct;rw[ht] at b;have b:=Aue b;have hd:Jr N (some i)=true:=by simp[Jr,jh];omega
  have g:∀j,s.hp j=none->∃β',D3 N w0 X0 Y β' ⟨Dy s.tm i (.view j es 0 0),Dy s.hp j (some (.ar false []))⟩ a w:=by
   intro j c;have:=h.stepR (d:=some i) hd (by simp[Cs,c]) (Ar8 (v:=.view j es 0 0) (val:=.slice none 0 0) c (.inl ⟨Ay _ _ _,rfl,rfl,none,rfl⟩) (by simp[Cy,Dj,A6]));rw[<-b,A1r (by rw[h.tsz];exact Ct)] at this
   exact⟨_,this⟩
  cases c:(s.hp i).isNone
  ·cases f:(s.hp (i+N*3000)).isNone
   ·exact⟨β,h⟩
   ·exact g _ (by simpa using f)
  ·exact g _ (by simpa using c)
 ·exact⟨β,h⟩
theorem D3.recell(h:D3 N w0 X0 Y β s a w){id:Nat}{c c':Ae}(l:s.hp id=some (.st c))(g:c'.length=c.length)(z:∀(j:Nat) p,c'[j]?=some p->∃q,c[j]?=some q/\(∀v,C4 w (Em s.hp β Y) β q v->C4 w (Em s.hp β Y) β p v)/\∀i∈A6 p,s.hp i≠none):
  D3 N w0 X0 Y β ⟨s.tm,Dy s.hp id (some (.st c'))⟩ a w:=by
 have Kc:∀i,Eo (Dy s.hp id (some (.st c')) i)↔Eo (s.hp i):=by
  intro i;by_cases e:i=id
  ·subst e;rw[Ay,l];exact Iff.rfl
  ·rw[Au _ _ e]
 have r:Xof (Dy s.hp id (some (.st c'))) β=Xof s.hp β:=by
  funext b
  apply propext;constructor
  ·rintro⟨i,o,g,d⟩;exact⟨i,o,(Kc i).1 g,d⟩
  ·rintro⟨i,o,g,d⟩;exact⟨i,o,(Kc i).2 g,d⟩
 have A:Em (Dy s.hp id (some (.st c'))) β Y=Em s.hp β Y:=by
  funext b;unfold Em;rw[r]
 have n:∀i,s.hp i≠none->Dy s.hp id (some (.st c')) i≠none:=by
  intro i hi;by_cases e:i=id
  ·subst e;rw[Ay];simp
  ·rw[Au _ _ e];exact hi
 have Bb8:∀i,Dy s.hp id (some (.st c')) i≠none->s.hp i≠none:=by
  intro i hi;by_cases e:i=id
  ·subst e;rw[l];simp
  ·rw[Au _ _ e] at hi;exact hi
 refine⟨h.dfr,h.tsz,h.tmo,?_,?_,?_,?_,?_,?_,?_,?_,λi hi=>⟨n _ (h.pin i hi).1,(h.pin i hi).2⟩,?_,?_,h.Ylt,h.fr⟩
 ·intro i hi;show Gw w (Em (Dy s.hp id _) β Y) β _ _;rw[A];exact h.tms i hi
 ·intro i b d;show EB w (Em (Dy s.hp id _) β Y) β i b;rw[A];by_cases e:i=id
  ·subst e;change Dy s.hp i (some (.st c')) i=some b at d;rw[Ay] at d;cases d;obtain⟨b,o,D,E,G⟩:=h.box i _ l;refine⟨b,o,D,λj p f=>?_,λj f=>G j (by rw[<-g];exact f)⟩
   obtain⟨q,H,t,_⟩:=z j p f;obtain⟨v,J,x⟩:=E j q H;exact⟨v,J,t v x⟩
  ·change Dy s.hp id (some (.st c')) i=some b at d;rw[Au _ _ e] at d;exact h.box i b d
 ·intro i B b o K g Rj d Mv;exact h.inj i B b o K ((Kc i).1 g) ((Kc B).1 Rj) d Mv
 ·intro i b o L d;exact h.blt i b o (Bb8 i L) d
 ·intro i hi j f;exact n j (h.wfT i hi j f)
 ·intro i cells d p hp j f;change Dy s.hp id (some (.st c')) i=_ at d;by_cases e:i=id
  ·subst e;rw[Ay] at d;cases d;obtain⟨k,M⟩:=zq.1 hp;obtain⟨_,_,_,x⟩:=z k p M;exact n j (x j f)
  ·rw[Au _ _ e] at d;exact n j (h.wfB i cells d p hp j f)
 ·intro b d;exact h.ownd b (by rw[<-r];exact d)
 ·intro i C b o d y m Ct j f;change Dy s.hp id (some (.st c')) i=some C at d;by_cases e:i=id
  ·subst e;rw[Ay] at d;cases d;exact h.rngB i _ b o l trivial m Ct j (by unfold BR at f ⊢;simp only[g] at f;exact f)
  ·rw[Au _ _ e] at d;exact h.rngB i C b o d y m Ct j f
 ·intro i c1 b o d m Ct;change Dy s.hp id (some (.st c')) i=_ at d;by_cases e:i=id
  ·subst e;exact h.stp i c b o l m Ct
  ·rw[Au _ _ e] at d;exact h.stp i c1 b o d m Ct
 ·intro b O d;exact h.Yx b O (by rw[<-r];exact d)
theorem Ac8(h:D3 N w0 X0 Y β s a w)(id j:Nat):∃β',D3 N w0 X0 Y β' (Agz N id s j) a w:=by
 unfold Agz;split
 ·rename_i c f;split
  ·rename_i es g;cases b:(s.hp (id+N*(j+1))).isNone
   ·exact⟨β,h⟩
   ·have b:s.hp (id+N*(j+1))=none:=by simpa using b
    have o:id≠id+N*(j+1):=by
     intro e;rw[<-e,f] at b;cases b
    have q:=h.stepR (d:=none) (v:=.top) (val:=undef) rfl (by simp[Cs,b]) (Ar8 b (.top _) (by simp[Cy,Dj,A6]));change D3 N w0 X0 Y (Dy β (id+N*(j+1)) none) ⟨s.tm,Dy s.hp (id+N*(j+1)) (some (.ar false []))⟩ a w at q
    have l:=q.recell (id:=id) (c:=c) (c':=c.set j (.view (id+N*(j+1)) es 0 0)) (by show Dy _ _ _ _=_;rw[Au _ _ o];exact f) Ψ (by
     intro k p hp;by_cases e:k=j
     ·subst e
      have Ct:k<c.length:=by
       rcases Kp k c.length with m|m
       ·exact m
       ·rw[zh m] at g;cases g
      rw[List.getElem?_set_self Ct] at hp;cases hp;refine⟨_,g,λv n=>.inl ⟨Ay _ _ _,rfl,rfl,none,Aue n⟩,λi hi=>?_⟩;simp[A6] at hi;subst hi;show Dy _ _ _ _≠none;rw[Ay];simp
     ·rw[List.getElem?_set_ne (λh=>e h.symm)] at hp;refine⟨p,hp,λ_ n=>n,λi hi=>?_⟩;have:=h.wfB id c f p (zn hp) i hi;show Dy _ _ _ _≠none;by_cases r:i=id+N*(j+1)
      ·subst r;rw[Ay];simp
      ·rw[Au _ _ r];exact this)
    refine⟨Dy β (id+N*(j+1)) none,?_⟩;have t:Dy (Dy s.hp (id+N*(j+1)) (some (.ar false []))) id (some (.st (c.set j (.view (id+N*(j+1)) es 0 0))))=Dy (Dy s.hp id (some (.st (c.set j (.view (id+N*(j+1)) es 0 0))))) (id+N*(j+1)) (some (.ar false [])):=Akf _ _ _ (λh=>o h.symm);change D3 N w0 X0 Y (Dy β (id+N*(j+1)) none) ⟨s.tm,Dy (Dy s.hp (id+N*(j+1)) (some (.ar false []))) id (some (.st (c.set j (.view (id+N*(j+1)) es 0 0))))⟩ a w at l;rw[t] at l;exact l
  ·exact⟨β,h⟩
 ·exact⟨β,h⟩
theorem Yt{f:St->Nat->St}(b:∀s β,D3 N w0 X0 Y β s a w->∀i,∃β',D3 N w0 X0 Y β' (f s i) a w):∀(l:Cl){s:St}{β:Bt},D3 N w0 X0 Y β s a w->∃β',D3 N w0 X0 Y β' (l.foldl f s) a w
 |[],_,β,h=>⟨β,h⟩
 |i::l,s,β,h=>by
  obtain⟨β1,c⟩:=b s β h i;exact Yt b l c
theorem Ah4(h:D3 N w0 X0 Y β s a w)(i:Nat):∃β',D3 N w0 X0 Y β' (Aja N s i) a w:=by
 unfold Aja;split
 ·split
  ·exact Yt (λs β h i=>Ac8 h _ i) _ h
  ·exact⟨β,h⟩
 ·exact⟨β,h⟩
theorem Afd:∀{m:List (Nat × Nat)},F3 (m.map (·.2))=true->∀{i b j:Nat},(i,j)∈m->(b,j)∈m->i=b
 |[],_,_,_,_,h,_=>by simp at h
 |(x,y)::m,c,i,b,j,h,a=>by
  simp only[ER,F3,Gh,qg] at c
  have d:∀k,(k,y) ∉ m:=by
   intro k f;exact DX c.1 (kl.2 ⟨(k,y),f,rfl⟩)
  rcases zl.1 h with e|h
  ·cases e;rcases zl.1 a with e|a
   ·cases e;rfl
   ·exact absurd a (d _)
  ·rcases zl.1 a with e|a
   ·cases e;exact absurd h (d _)
   ·exact Afd c.2 h a
theorem TA:∀{m:List (Nat × Nat)},F3 (m.map (·.1))=true->∀{i j b:Nat},(i,j)∈m->(i,b)∈m->j=b
 |[],_,_,_,_,h,_=>by simp at h
 |(x,y)::m,c,i,j,b,h,a=>by
  simp only[ER,F3,Gh,qg] at c
  have d:∀k,(x,k) ∉ m:=by
   intro k f;exact DX c.1 (kl.2 ⟨(x,k),f,rfl⟩)
  rcases zl.1 h with e|h
  ·cases e;rcases zl.1 a with e|a
   ·cases e;rfl
   ·exact absurd a (d _)
  ·rcases zl.1 a with e|a
   ·cases e;exact absurd h (d _)
   ·exact TA c.2 h a
theorem Uv(h:Nat.beq i j=false):i≠j:=by rintro rfl;rw[Uz] at h;cases h
theorem RX:∀{m:List (Nat × Nat)} {i j:Nat},LQ m i=some j->(i,j)∈m
 |[],_,_,h=>by cases h
 |(x,y)::m,i,j,h=>by
  unfold LQ at h;cases a:Nat.beq i x<;>rw[a] at h
  ·exact BL _ (RX h)
  ·have:=Ed a;cases h;rw[this];simp
theorem SX{m:List (Nat × Nat)}{hp:Nat->Option Co}:∀{l:List (Nat × Nat)} {j:Nat}{b:Co},Fb (T5 m hp l) j=some b->∃i b0,(i,j)∈l/\hp i=some b0/\b=A6n m b0
 |[],_,_,h=>by cases h
 |(x,y)::l,j,b,h=>by
  unfold T5 at h;cases a:hp x with
  |none=>
   rw[a] at h;obtain⟨i,b0,c,d⟩:=SX h;exact⟨i,b0,BL _ c,d⟩
  |some f=>
   rw[a] at h;simp only[Fb] at h;cases e:Nat.beq j y<;>rw[e] at h
   ·obtain⟨i,b0,c,d⟩:=SX h;exact⟨i,b0,BL _ c,d⟩
   ·have:=Ed e;subst this;cases h;exact⟨x,f,Ψ,a,rfl⟩
theorem Wt{m:List (Nat × Nat)}{hp:Nat->Option Co}:∀{l:List (Nat × Nat)} {i j:Nat},(i,j)∈l->hp i≠none->Fb (T5 m hp l) j≠none
 |[],_,_,h,_=>by simp at h
 |(x,y)::l,i,j,h,hi=>by
  unfold T5;cases a:hp x with
  |none=>
   rcases zl.1 h with e|h
   ·cases e;exact absurd a hi
   ·exact Wt h hi
  |some c=>
   simp only[Fb];cases b:Nat.beq j y
   ·rcases zl.1 h with e|h
    ·cases e;exact absurd rfl (Uv b)
    ·exact Wt h hi
   ·simp
def lkr(m:List (Nat × Nat))(j:Nat):Option Nat:=
 match m with
 |[]=>none
 |(x,y)::r=>bif Nat.beq j y then some x else lkr r j
theorem Asl:∀{m:List (Nat × Nat)} {i j:Nat},lkr m j=some i->(i,j)∈m
 |[],_,_,h=>by cases h
 |(x,y)::m,i,j,h=>by
  unfold lkr at h;cases a:Nat.beq j y<;>rw[a] at h
  ·exact BL _ (Asl h)
  ·have:=Ed a;cases h;rw[this];simp
theorem Akh:∀{m:List (Nat × Nat)} {i j:Nat},(i,j)∈m->∃k,lkr m j=some k
 |[],_,_,h=>by simp at h
 |(x,y)::m,i,j,h=>by
  unfold lkr;cases a:Nat.beq j y
  ·rcases zl.1 h with e|h
   ·cases e;exact absurd rfl (Uv a)
   ·exact Akh h
  ·exact⟨x,rfl⟩
theorem Ajf{f:Nat->PV}:∀{l:Cl}{i:Nat},lk (l.map λi=>(i,f i)) i=if i∈l then f i else .top
 |[],_=>rfl
 |x::l,i=>by
  simp only[ER,lk];cases a:Nat.beq i x
  ·have:=Uv a;simp only[cond_false,Ajf,zl,this,false_or]
  ·have:=Ed a;subst this;simp
theorem Aed{m:Nat}:∀{n i:Nat},i∈Ts m n->i<n
 |0,_,h=>by simp[Ts] at h
 |n+1,i,h=>by
  simp only[Ts,B8] at h;rcases h with h|h
  ·have:=Aed h;omega
  ·cases a:m.testBit n<;>rw[a] at h
   ·simp at h
   ·simp at h;omega
theorem Ag2(h:D3 N w0 X0 Y β s a w)(U:F3 (m.map (·.1))=true)(V:F3 (m.map (·.2))=true){ls:Cl}(P:∀i∈ls,i<N)(H:∀i,X0.pn i->(E3 N i,E3 N i)∈m):
  ∃β',D3 N w0 X0 Y β' ⟨lk (ls.map λi=>(i,Avw m (s.tm i))),Fb (T5 m s.hp m)⟩ a w:=by
 refine⟨λj=>(lkr m j).bind β,?_⟩
 have M:∀{i j:Nat},(i,j)∈m->(lkr m j).bind β=β i:=by
  intro i j l;obtain⟨k,g⟩:=Akh l;rw[g];have:=Afd V (Asl g) l;subst this;rfl
 have r:∀{j:Nat} {b:Co},Fb (T5 m s.hp m) j=some b->∃i t,(i,j)∈m/\s.hp i=some t/\b=A6n m t/\(lkr m j).bind β=β i:=by
  intro j b f;obtain⟨i,t,l,A,C⟩:=SX f;exact⟨i,t,l,A,C,M l⟩
 have Kc:∀{j:Nat},Eo (Fb (T5 m s.hp m) j)->∃i,(i,j)∈m/\Eo (s.hp i)/\(lkr m j).bind β=β i:=by
  intro j G;cases f:Fb (T5 m s.hp m) j with
  |none=>rw[f] at G;exact G.elim
  |some b=>
   obtain⟨i,t,l,A,rfl,W⟩:=r f;refine⟨i,l,?_,W⟩;rw[f] at G;rw[A];cases t<;>exact G
 have Q:∀b,Xof (Fb (T5 m s.hp m)) (λj=>(lkr m j).bind β) b->Xof s.hp β b:=by
  rintro b ⟨j,o,G,f⟩
  obtain⟨i,_,Rj,e⟩:=Kc G;exact⟨i,o,Rj,by rw[<-e];exact f⟩
 have O:∀b,Em (Fb (T5 m s.hp m)) (λj=>(lkr m j).bind β) Y b->Em s.hp β Y b:=λb f=>f.imp (Q b) id
 have J:∀p v,C4 w (Em s.hp β Y) β p v->C4 w (Em (Fb (T5 m s.hp m)) (λj=>(lkr m j).bind β) Y) (λj=>(lkr m j).bind β) (Apu m p) v:=by
  intro p v hp;cases p with
  |view id es off n=>
   show C4 _ _ _ (match LQ m id with|some j=>.view j es off n|none=>.top) v;cases d:LQ m id with
   |some j=>
    have e:=M (RX d);rcases hp with⟨B,y⟩|⟨b,o,x,cap,B,y⟩
    ·exact .inl ⟨by show (lkr m j).bind β=none;rw[e];exact B,y⟩
    ·exact .inr ⟨b,o,x,cap,by show (lkr m j).bind β=_;rw[e];exact B,y⟩
   |none=>exact A7.top _
  |ptr id off=>
   show C4 _ _ _ (match LQ m id with|some j=>.ptr j off|none=>.top) v;cases d:LQ m id with
   |some j=>
    have e:=M (RX d);obtain⟨b,o,B,y⟩:=hp;exact⟨b,o,by show (lkr m j).bind β=_;rw[e];exact B,y⟩
   |none=>exact A7.top _
  |sc v=>exact A7.step (Df.refl _ _) (λb _=>O b) hp
  |lst z es n c=>exact A7.step (Df.refl _ _) (λb _=>O b) hp
  |iptr c off=>exact C4.step (p:=.iptr c off) (Df.refl _ _) (λb _=>O b) (by simp[A6]) hp
  |_=>exact A7.top _
 have X:∀p v,Gw w (Em s.hp β Y) β p v->Gw w (Em (Fb (T5 m s.hp m)) (λj=>(lkr m j).bind β) Y) (λj=>(lkr m j).bind β) (Avw m p) v:=by
  intro p v hp;cases p with
  |agg c=>
   obtain⟨vs,B,y⟩:=hp;refine⟨vs,B,B4.of_at (by simp;exact y.len) λi q u D Z=>?_⟩
   rw[zr] at D;cases K:c[i]? with
   |none=>rw[K] at D;cases D
   |some q0=>
    rw[K] at D;cases D;exact J _ _ (y.at_ K Z)
  |view id es off n=>
   have:=J (.view id es off n) v hp;change C4 _ _ _ (match LQ m id with|some j=>.view j es off n|none=>.top) v at this;show Gw _ _ _ (match LQ m id with|some j=>.view j es off n|none=>.top) v;cases d:LQ m id<;>rw[d] at this<;>exact this
  |ptr id off=>
   have:=J (.ptr id off) v hp;change C4 _ _ _ (match LQ m id with|some j=>.ptr j off|none=>.top) v at this;show Gw _ _ _ (match LQ m id with|some j=>.ptr j off|none=>.top) v;cases d:LQ m id<;>rw[d] at this<;>exact this
  |sc v'=>exact J (.sc v') v hp
  |lst z es n c=>exact J (.lst z es n c) v hp
  |iptr c off=>exact J (.iptr c off) v hp
  |_=>exact A7.top _
 have E:∀p i,i∈A6 (Apu m p)->∃k∈A6 p,(k,i)∈m:=by
  intro p i hi;cases p with
  |view id es off n=>
   change i∈A6 (match LQ m id with|some j=>.view j es off n|none=>.top) at hi;cases d:LQ m id<;>rw[d] at hi
   ·simp[A6] at hi
   ·simp[A6] at hi;subst hi;exact⟨id,by simp[A6],RX d⟩
  |ptr id off=>
   change i∈A6 (match LQ m id with|some j=>.ptr j off|none=>.top) at hi;cases d:LQ m id<;>rw[d] at hi
   ·simp[A6] at hi
   ·simp[A6] at hi;subst hi;exact⟨id,by simp[A6],RX d⟩
  |_=>simp[Apu,A6] at hi
 have R:∀p i,i∈Cy (Avw m p)->∃k∈Cy p,(k,i)∈m:=by
  intro p i hi;cases p with
  |agg c=>
   simp only[Avw,Cy,Dj,zk,kl] at hi;obtain⟨_,⟨q,D,rfl⟩,hi⟩:=hi;obtain⟨k,g,l⟩:=E q i hi;exact⟨k,by simp only[Cy,Dj,zk];exact⟨q,D,g⟩,l⟩
  |view id es off n=>
   refine (E (.view id es off n) i ?_).imp λk g=>g;change i∈Cy (match LQ m id with|some j=>.view j es off n|none=>.top) at hi;show i∈A6 (match LQ m id with|some j=>.view j es off n|none=>.top);cases d:LQ m id<;>rw[d] at hi<;>exact hi
  |ptr id off=>
   refine (E (.ptr id off) i ?_).imp λk g=>g;change i∈Cy (match LQ m id with|some j=>.ptr j off|none=>.top) at hi;show i∈A6 (match LQ m id with|some j=>.ptr j off|none=>.top);cases d:LQ m id<;>rw[d] at hi<;>exact hi
  |_=>simp[Avw,Apu,Cy,Dj,A6] at hi
 refine⟨h.dfr,h.tsz,?_,?_,?_,?_,?_,?_,?_,?_,?_,?_,?_,?_,h.Ylt,h.fr⟩
 ·intro i hi;show lk _ i=_;rw[Ajf,Bd (λl=>by have:=P i l;omega)]
 ·intro i hi;show Gw w _ _ (lk _ i) _;rw[Ajf];split
  ·exact X _ _ (h.tms i hi)
  ·exact A7.top _
 ·intro j b f;obtain⟨i,t,l,A,rfl,e⟩:=r f;have Tn:=h.box i t A;cases t with
  |st c=>
   obtain⟨b,o,B,y,e3⟩:=Tn;refine⟨b,o,by show (lkr m j).bind β=_;rw[e];exact B,λk p hp=>?_,λk g=>e3 k (by simpa using g)⟩
   rw[zr] at hp;cases K:c[k]? with
   |none=>rw[K] at hp;cases hp
   |some q=>
    rw[K] at hp;cases hp;obtain⟨v,hv,hr⟩:=y k q K;exact⟨v,hv,J _ _ hr⟩
  |ar fz c=>
   have:=EB.step' O Tn;show EB _ _ _ _ (.ar fz c);rcases this with⟨B,y⟩|⟨b,o,B,y⟩
   ·exact .inl ⟨by show (lkr m j).bind β=_;rw[e];exact B,y⟩
   ·exact .inr ⟨b,o,by show (lkr m j).bind β=_;rw[e];exact B,y⟩
  |mv=>exact trivial
 ·intro j j' b o o' G Rj f Mv;obtain⟨i,l,S,e⟩:=Kc G;obtain⟨i',N0,Bqx,e'⟩:=Kc Rj;have:=h.inj i i' b o o' S Bqx (by rw[<-e];exact f) (by rw[<-e'];exact Mv)
  subst this;exact TA U l N0
 ·intro j b o hn f;cases d:Fb (T5 m s.hp m) j with
  |none=>exact absurd d hn
  |some bx=>
   obtain⟨i,t,_,A,_,e⟩:=r d;exact h.blt i b o (by rw[A];simp) (by rw[<-e];exact f)
 ·intro i hi j d;change j∈Cy (lk _ i) at d;rw[Ajf] at d;split at d
  ·obtain⟨k,g,l⟩:=R _ j d;exact Wt l (h.wfT i hi k g)
  ·simp[Cy,Dj,A6] at d
 ·intro j cells f p hp k g;obtain⟨i,t,_,A,C,_⟩:=r f;cases t with
  |st c=>
   cases C;obtain⟨q,D,rfl⟩:=kl.1 hp;obtain⟨k',P7,l⟩:=E q k g;exact Wt l (h.wfB i c A q D k' P7)
  |ar fz c=>cases C
  |mv=>cases C
 ·intro b f;exact h.ownd b (Q b f)
 ·intro j bx b o f T L Ct k g;obtain⟨i,t,_,A,C,e⟩:=r f;subst C;refine h.rngB i t b o A ?_ (by rw[<-e];exact L) Ct k ?_
  ·cases t<;>exact T
  ·cases t with
   |st c=>simpa [BR,A6n] using g
   |ar fz c=>exact g
   |mv=>exact g
 ·intro i hi;exact⟨Wt (H i hi) (h.pin i hi).1,(M (H i hi)).trans (h.pin i hi).2⟩
 ·intro j c b o f L Ct;obtain⟨i,t,l,A,C,e⟩:=r f;cases t with
  |st c0=>
   obtain⟨k,rfl,g⟩:=h.stp i c0 b o A (by rw[<-e];exact L) Ct
   exact⟨k,TA U l (H k g),g⟩
  |ar fz c0=>cases C
  |mv=>cases C
 ·intro b hY f;exact h.Yx b hY (Q b f)
theorem KI{o:Nat}(h:q∈m):q∈Afj m o n:=by
 unfold Afj;split
 ·exact h
 ·exact B8.2 (.inl h)
theorem Sk{q:Nat × Nat}{new:Nat}:∀{c:Ae}{j:Nat}{m:List (Nat × Nat)},q∈m->q∈DQ N new c j m
 |[],_,_,h=>h
 |p::c,j,m,h=>by
  unfold DQ;split
  ·rename_i e;cases e
  ·rename_i e;cases e;exact Sk (KI h)
  ·rename_i e;cases e;exact Sk h
theorem Amn(h:q∈m):q∈YO N s m i:=by
 unfold YO;split
 ·exact KI h
 ·split
  ·exact h
  ·split
   ·exact Sk (KI h)
   ·exact KI h
 ·exact Sk h
 ·exact h
theorem PG{q:Nat × Nat}:∀{l:Cl}{m:List (Nat × Nat)},q∈m->q∈l.foldl (YO N s) m
 |[],_,h=>h
 |_::l,_,h=>PG (l:=l) (Amn h)
theorem DM{q:Nat × Nat}{m:List (Nat × Nat)}(h:q∈m):∀k,q∈II N s.hp k m
 |0=>h
 |k+1=>by
  unfold II;split
  ·exact Sk (DM h k)
  ·exact DM h k
theorem Af4:∀{k i:Nat},i<k->s.hp (E3 N i)≠none->(E3 N i,E3 N i)∈Anq N s.hp k
 |0,_,h,_=>Ω
 |k+1,i,h,a=>by
  unfold Anq;by_cases e:i=k
  ·subst e
   have:(s.hp (E3 N i)).isSome=true:=by
    cases c:s.hp (E3 N i) with
    |none=>exact absurd c a
    |some b=>rfl
   rw[this];simp
  ·have:=Af4 (k:=k) (i:=i) Ω a;cases (s.hp (E3 N k)).isSome
   ·exact this
   ·exact B8.2 (.inl this)
theorem WE(h:D3 N w0 X0 Y β s a w){q:Bool}{K:St->Option R}(d:Aub N (Ts L N) q s K=some r):∃β' s',K s'=some r/\D3 N w0 X0 Y β' s' a w:=by
 unfold Aub at d;obtain⟨c,e⟩:=Ax d;simp only[Gh] at c
 obtain⟨β2,b⟩:∃β2,D3 N w0 X0 Y β2 (bif q then s else (Ts L N).foldl (Aja N) ((Ts L N).foldl (YG N) s)) a w:=by
  cases q
  ·obtain⟨β1,f⟩:=Yt (λs β h i=>Adq h i) (Ts L N) h;obtain⟨β2,b⟩:=Yt (λs β h i=>Ah4 h i) (Ts L N) f;exact⟨β2,b⟩
  ·exact⟨β,h⟩
 obtain⟨β3,g⟩:=Ag2 b c.1 c.2 (ls:=Ts L N) (λi hi=>Aed hi) (λi hi=>PG (DM (Af4 (X0.p8 i hi) (b.pin i hi).1) 8));exact⟨β3,_,e,g⟩
theorem GX(h:D3 N w0 X0 Y β s a w){K:St->Option R}(b:OY N L s K=some r):∃β' s',K s'=some r/\D3 N w0 X0 Y β' s' a w:=WE h b
theorem Am5(h:D3 N w0 X0 Y β s a w){K:St->Option R}(b:As6 N L s K=some r):∃β' s',K s'=some r/\D3 N w0 X0 Y β' s' a w:=WE h b
end
open Go.RowKit
section
variable {R:Type}{r:R}{P:Program}{N:Nat}{w0:World}{X0:M0}{Y:Nat->Prop}{C:Lf}{F:An}
theorem Af1{F:St->Option R}{s:St}(h:Aaa n F s=some r):F s=some r:=by
 unfold Aaa at h;split at h
 ·cases h
 ·exact h
theorem Alv{β:Bt}{s:St}{a:Act}{w:World}(h:D3 N w0 X0 Y β s a w){c:Operand}{g i:St->Option R}(e:A3e s c g i=some r):(a.eval c=.bool true/\g s=some r)\/(a.eval c=.bool false/\i s=some r):=by
 unfold A3e at e;split at e
 ·rename_i d;split at e
  ·rename_i b ht;have f:a.eval (.tmp d)=.bool b:=Db h (x:=.tmp d) ht;cases b
   ·change i ⟨Dy s.tm d (.sc (.bool false)),s.hp⟩=some r at e;rw[QB s.tm ht] at e;exact .inr ⟨f,e⟩
   ·change g ⟨Dy s.tm d (.sc (.bool true)),s.hp⟩=some r at e;rw[QB s.tm ht] at e;exact .inl ⟨f,e⟩
  ·rename_i ht;have j:=Ec h (.tmp d);change Gw _ _ _ (s.tm d) _ at j;rw[ht] at j;have Oy:A7 w _ .ub (a.eval (.tmp d)):=j
   obtain⟨b,f⟩:∃b,a.eval (.tmp d)=.bool b:=by
    generalize a.eval (.tmp d)=x at Oy;cases Oy with
    |ub b=>exact⟨b,rfl⟩
   obtain⟨k,l⟩:=Afp e;cases b
   ·exact .inr ⟨f,l⟩
   ·exact .inl ⟨f,k⟩
  ·cases e
 ·exact .inl ⟨rfl,e⟩
 ·exact .inr ⟨rfl,e⟩
 ·cases e
theorem ZH{c:Code}{Q:Exit->Act->World->Prop}{F:(St->Option R)->St->Option R}{nm:St->(St->Option R)->Option R}(XO:∀{β s a w} {K:St->Option R},D3 N w0 X0 Y β s a w->nm s K=some r->∃β' s',K s'=some r/\D3 N w0 X0 Y β' s' a w)(e:∀{β s a w} {K:St->Option R}{f:Act->World->Prop},D3 N w0 X0 Y β s a w->F K s=some r->(∀s' b w' β',K s'=some r->D3 N w0 X0 Y β' s' b w'->f b w')->c.wp P (Exit.then f Q) a w):
  ∀(n:Nat) {β s a w},D3 N w0 X0 Y β s a w->A1k F nm n s=some r->Code.rounds P c Q n a w
 |0,_,_,_,_,_,d=>by cases d
 |n+1,β,s,a,w,h,d=>by
  rw[rounds_succ];refine e h d λs' b w' β' g i=>?_;obtain⟨β1,s1,j,k⟩:=XO i g;exact ZH XO e n k j
theorem Are(Rv:Env P G w0 X0)(Fp:∀f args z,F f args=some z->Ep G P f args z)(E:P.follows .mixedOrders=true){u:Nat}:
  ∀(c:Code) {q:Nat} {t:Nat->Nat} {v:Nat} {n:St->Option R} {kx:Nat->St->Option R} {kr:St->Option R} {β:Bt} {s:St} {a:Act} {w:World} {Q:Exit->Act->World->Prop},D3 N w0 X0 Y β s a w ->
   Z1 C P u N F c q t v n kx kr s=some r->(∀s' d w' β',n s'=some r->D3 N w0 X0 Y β' s' d w'->Q .normal d w') ->
   (∀id s' d w' β',kx id s'=some r->D3 N w0 X0 Y β' s' d w'->Q (.exit id) d w')->(∀s' d w' β',kr s'=some r->D3 N w0 X0 Y β' s' d w'->Q .ret d w')->c.wp P Q a w:=by
 intro c
 induction c with
 |skip=>intro q t v n kx kr β s a w Q h b i l m;exact wp_skip (i s a w β b h)
 |region id ops draw=>
  intro q t v n kx kr β s a w Q h b i l m;unfold Z1 at b;cases draw
  ·simp only[Am8,SK,cond_false] at b;exact Ai5 h Rv Fp b i
  ·simp only[Am8,A96,Zzm,cond_true] at b;cases B:Afx C P ops<;>rw[B] at b
   ·obtain⟨Mv,o⟩:=Ax (show As _ _=some r from b);exact Ang h Rv Fp E Mv o i
   ·exact Ahr h Rv Fp E B b i
 |seq c1 c2 x p=>
  intro q t v n kx kr β s a w Q h b i l m;unfold Z1 at b
  refine wp_seq (x h b (λs' d w' β' g k=>by
    cases y:Az3 P c1 c2
    ·rw[y] at g;exact p k g i l m
    ·rw[y] at g;cases H:XZ c1 c2
     ·rw[H] at g;obtain⟨β1,s1,o,A⟩:=GX k (show OY _ _ _ _=some r from g);exact p A (Af1 o) i l m
     ·rw[H] at g;obtain⟨β1,s1,o,A⟩:=Am5 k (show As6 _ _ _ _=some r from g);exact p A (Af1 o) i l m) (λid s' d w' β' g k=>l id s' d w' β' g k) (λs' d w' β' g k=>m s' d w' β' g k))
 |cond c c1 c2 x p=>
  intro q t v n kx kr β s a w Q h b i l m;unfold Z1 at b;rcases Alv h b with⟨y,o⟩|⟨y,o⟩
  ·exact wp_cond_true y (x h o i l m)
  ·exact wp_cond_false y (p h o i l m)
 |block id c D=>
  intro q t v n kx kr β s a w Q h b i l m;unfold Z1 at b;refine wp_block (D h b (λs' d w' β' g k=>i s' d w' β' g k) (λj s' d w' β' g k=>?_) (λs' d w' β' g k=>m s' d w' β' g k));show (if j=id then _ else _);by_cases e:j=id
  ·subst e;rw[Bv rfl];rw[Uz] at g;exact i s' d w' β' g k
  ·rw[Bd e]
   have:Nat.beq j id=false:=by
    cases B:Nat.beq j id
    ·rfl
    ·exact absurd (Ed B) e
   rw[this] at g;exact l j s' d w' β' g k
 |loop c D=>
  intro q t v n kx kr β s a w Q h b i l m;unfold Z1 at b;obtain⟨β1,s1,o,A⟩:=GX h b;refine wp_loop_rounds u (ZH (λh b=>GX h b) (λh b J=>?_) u A o);exact D h b J (λid s' d w' β' g k=>l id s' d w' β' g k) (λs' d w' β' g k=>m s' d w' β' g k)
 |«exit» id=>intro q t v n kx kr β s a w Q h b i l m;exact wp_exit (l id s a w β b h)
 |ret=>intro q t v n kx kr β s a w Q h b i l m;exact wp_ret (m s a w β b h)
 |_=>intro q t v n kx kr β s a w Q h b i l m;cases b
end
open Go.RowKit
theorem Us:∀{l:List (Nat × Co)} {i:Nat}{b:Co},Fb l i=some b->(i,b)∈l
 |[],_,_,h=>by cases h
 |(j,c)::l,i,b,h=>by
  unfold Fb at h;cases a:Nat.beq i j<;>rw[a] at h
  ·exact BL _ (Us h)
  ·have:=Ed a;cases h;rw[this];simp
theorem Ahn:∀{l:List (Nat × Co)},(l.map (·.1)).Nodup->∀{i b},(i,b)∈l->Fb l i=some b
 |[],_,_,_,h=>by cases h
 |(j,c)::l,a,i,b,h=>by
  simp only[ER,ko] at a;unfold Fb;rcases zl.1 h with e|h
  ·cases e;simp only[Uz,cond_true]
  ·have:Nat.beq i j=false:=by
    cases d:Nat.beq i j
    ·rfl
    ·exact absurd (Ed d ▸ kl.2 ⟨_,h,rfl⟩) a.1
   simp only[this,cond_false];exact Ahn a.2 h
section
variable {R:Type}{r:R}{P:Program}{N:Nat}{w0:World}{X0:M0}{Y:Nat->Prop}{β β':Bt}{s:St}{a:Act}{w w':World}{A:Nat->Prop}
theorem A1p{id:Nat}{t:CT}{K:PV->List (Nat × Co)->Option R}(a:A2p id t p K=some r):
  (∃c,K c []=some r/\MN c/\∀w A q u,Jq w A q p u->A7 w A c u)\/∃es n cc,p=.own es n cc/\K (.view id es 0 n) [(id,.ar false cc)]=some r:=by
 have tree:∀e,(TN e p λc=>K c [])=some r->∃c,K c []=some r/\MN c/\∀w A q u,Jq w A q p u->A7 w A c u:=by
  intro e a;obtain⟨c,a,g,b,i⟩:=Vb a;refine⟨c,a,g,λw A q u h=>(i w A (λ_=>none) u ?_).1⟩;cases p<;>first|exact h|exact b.elim
 unfold A2p at a;cases t with
 |sl es=>
  dsimp only at a;split at a
  ·rename_i d n c;cases f:Nat.beq d es<;>rw[f] at a
   ·cases a
   ·have:=Ed f;subst this;exact .inr ⟨_,_,_,rfl,a⟩
  ·exact .inl (tree (.sl es) a)
 |int k=>exact .inl (tree _ a)
 |bool=>exact .inl (tree _ a)
 |str=>exact .inl (tree _ a)
 |any=>exact .inl (tree _ a)
theorem BG:∀{ts:List CT}{id:Nat}{ps:Ae}{K:Ae->List (Nat × Co)->Option R},VC N id ts ps K=some r ->
  ∃cs bs,∃g:List (Nat × Nat),K cs bs=some r/\cs.length=ps.length/\ps.length=ts.length/\bs.map (·.1)=g.map (·.1)/\(∀q∈g,∀o∈g,q.2=o.2->q.1=o.1) /\
   (∀i d,(i,d)∈bs->∃c,d=.ar false c)/\(∀c∈cs,isF c)/\(∀c∈cs,∀i∈A6 c,∃d,(i,d)∈bs) /\
   ∀(w:World) (A:Nat->Prop) (own β':Bt) (k:Nat) (us:List Value),(∀q∈g,β' q.1=own (k+q.2))->Hj w A own k ps us->B4 (C4 w A β') cs us/\∀i d,(i,d)∈bs->EB w A β' i d
 |[],id,ps,K,m=>by
  obtain⟨rfl,m⟩:=Fj m;refine⟨[],[],[],m,rfl,rfl,rfl,Ψ,Ψ,Ψ,Ψ,λw A own β' k us _ h=>⟨?_,Ψ⟩⟩;cases us with
  |nil=>trivial
  |cons u us=>exact h.elim
 |t::ts,id,ps,K,m=>by
  unfold VC at m;obtain⟨p,Q,WV,S⟩:=B5 m;subst WV;rcases A1p S with⟨c,Hn,O,T⟩|⟨es,n,cc,rfl,Hn⟩
  ·obtain⟨cs,bs,g,Tl,z,Uk,B,Td,C,D,Ke,Ox⟩:=BG Hn;refine⟨c::cs,bs,g.map (λq=>(q.1,q.2+1)),Tl,by simp[z],by simp[Uk],by rw[B];simp,?_,C,?_,?_,λw A own β' k us s j=>?_⟩
   ·intro q f o Iw e;obtain⟨v,OO,rfl⟩:=kl.1 f;obtain⟨E,G,rfl⟩:=kl.1 Iw;exact Td v OO E G (by simp only at e;omega)
   ·intro y a;rcases zl.1 a with rfl|a
    ·exact DS O
    ·exact D y a
   ·intro y a i hi;rcases zl.1 a with rfl|a
    ·rw[Mc O] at hi;cases hi
    ·exact Ke y a i hi
   ·cases us with
    |nil=>exact j.elim
    |cons u us=>
     obtain⟨H,J⟩:=Ox w A own β' (k+1) us (λq f=>by rw[s _ (km f)];congr 1;simp only;omega) j.2
     exact⟨⟨A1d (T w A _ u j.1),H⟩,J⟩
  ·obtain⟨cs,bs,g,Tl,z,Uk,B,Td,C,D,Ke,Ox⟩:=BG Hn;refine⟨_::cs,(id,.ar false cc)::bs,(id,0)::g.map (λq=>(q.1,q.2+1)),Tl,by simp[z],by simp[Uk],by simp only[ER,B];simp,?_,?_,?_,?_,λw A own β' k us s j=>?_⟩
   ·intro q f o Iw e;rcases zl.1 f with rfl|f
    ·rcases zl.1 Iw with rfl|Iw
     ·rfl
     ·obtain⟨v,OO,rfl⟩:=kl.1 Iw;simp only at e;omega
    ·obtain⟨v,OO,rfl⟩:=kl.1 f;rcases zl.1 Iw with rfl|Iw
     ·simp only at e;omega
     ·obtain⟨E,G,rfl⟩:=kl.1 Iw;exact Td v OO E G (by simp only at e;omega)
   ·intro i d l;rcases zl.1 l with e|l
    ·cases e;exact⟨cc,rfl⟩
    ·exact C i d l
   ·intro y a;rcases zl.1 a with rfl|a
    ·trivial
    ·exact D y a
   ·intro y a i hi;rcases zl.1 a with rfl|a
    ·simp only[A6,Tx] at hi;subst hi;exact⟨_,OJ⟩
    ·obtain⟨d,Tn⟩:=Ke y a i hi;exact⟨d,BL _ Tn⟩
   ·cases us with
    |nil=>exact j.elim
    |cons u us=>
     obtain⟨H,J⟩:=Ox w A own β' (k+1) us (λq f=>by rw[s _ (BL _ (km f))];congr 1;simp only;omega) j.2
     have x:=s (id,0) OJ;simp only[Zzr] at x;refine⟨⟨?_,H⟩,λi d l=>?_⟩
     ·rcases j.1 with⟨L,rfl,_,M⟩|⟨b,P,cap,L,U,M,V,W,_⟩
      ·exact .inl ⟨x.trans L,rfl,rfl,M⟩
      ·exact .inr ⟨b,P,P,cap,x.trans L,U,.inl rfl,M,V,W⟩
     ·rcases zl.1 l with e|l
      ·cases e;exact QE j.1 x
      ·exact J i d l
theorem A7x{K:PV->List (Nat × Co)->Option R}(f:inK P N i t p K=some r):
  ∃v bs,∃l:List (Nat × Nat),K v bs=some r/\bs.map (·.1)=l.map (·.1)/\(∀q∈l,∀U∈l,q.2=U.2->q.1=U.1)/\(SQ p=true->(E3 N i,0)∈l/\i<8) /\
   (∀id a,(id,a)∈bs->Eo (some a)/\∀c,a=.st c->id=E3 N i/\SQ p=true)/\(∀id∈Cy v,∃a,(id,a)∈bs)/\UT bs /\
   ∀(w:World) (A:Nat->Prop) (bt β':Bt) (u:Value),(∀q∈l,β' q.1=bt q.2)->Aqi w A bt p u->Gw w A β' v u/\(∀id a,(id,a)∈bs->EB w A β' id a) /\
    ∀id a b o,(id,a)∈bs->β' id=some (b,o)->∀j,BR a o j->Bc3 bt p b j:=by
 have owns:∀{bs:List (Nat × Co)} {l:List (Nat × Nat)},bs.map (·.1)=l.map (·.1)->(∀i a,(i,a)∈bs->∃c,a=.ar false c)->∀{bt β':Bt},(∀q∈l,β' q.1=bt (1+q.2))->∀id a b o,(id,a)∈bs->β' id=some (b,o)->∀j,BR a o j->∃k y,bt (k+1)=some (b,y)/\y<=j:=by
  intro bs l z s bt β' D id a b o d V j B;have:id∈l.map (·.1):=by rw[<-z];exact kl.2 ⟨_,d,rfl⟩
  obtain⟨q,g,rfl⟩:=kl.1 this;obtain⟨c,rfl⟩:=s _ _ d;rw[D q g,jj] at V;exact⟨q.2,o,V,B⟩
 have nost:∀{bs:List (Nat × Co)},(∀i a,(i,a)∈bs->∃c,a=.ar false c)->UT bs:=by
  intro bs s id cells d;obtain⟨c,e⟩:=s id _ d;cases e
 unfold inK at f;split at f
 ·rename_i e he;obtain⟨ps,rfl,G⟩:=Aej f;obtain⟨x,Hn⟩:=Ax G;have x:i<8:=kw (Vc x);obtain⟨cs,bs,l,Tl,hl,Uk,z,Td,s,hF,Ke,H⟩:=BG Hn;refine⟨_,_,(E3 N i,0)::l.map (λq=>(q.1,q.2+1)),Tl,by simp only[ER,z];simp,?_,λ_=>⟨OJ,x⟩,?_,?_,?_,λw A bt β' u D hp=>?_⟩
  ·intro q g U Iw e;rcases zl.1 g with rfl|g
   ·rcases zl.1 Iw with rfl|Iw
    ·rfl
    ·obtain⟨Q,OO,rfl⟩:=kl.1 Iw;simp only at e;omega
   ·obtain⟨Q,OO,rfl⟩:=kl.1 g;rcases zl.1 Iw with rfl|Iw
    ·simp only at e;omega
    ·obtain⟨W,X,rfl⟩:=kl.1 Iw;exact Td Q OO W X (by simp only at e;omega)
  ·intro id a d;rcases zl.1 d with e|d
   ·cases e;exact⟨trivial,λ_ _=>⟨rfl,rfl⟩⟩
   ·obtain⟨c,rfl⟩:=s id a d;exact⟨trivial,λ_ e=>by cases e⟩
  ·intro id Ce;simp only[Cy,Dj,A6,Tx] at Ce;subst Ce;exact⟨_,OJ⟩
  ·intro id cells d c hc k f;rcases zl.1 d with e|d
   ·cases e;obtain⟨a,Tn⟩:=Ke c hc k f;exact⟨a,BL _ Tn⟩
   ·obtain⟨c,e⟩:=s id _ d;cases e
  ·obtain⟨b,o,S,rfl,_,vs,J,h4,Y⟩:=hp;have E:=D (E3 N i,0) OJ;simp only at E;have m:∀q∈l,β' q.1=bt (1+q.2):=λq g=>by rw[D _ (BL _ (km g)),jj]
   obtain⟨L,M⟩:=H w A bt β' 1 vs m J;refine⟨⟨b,o,E.trans S,Ψ⟩,λid a d=>?_,λid a T y d Mv j B=>?_⟩
   ·rcases zl.1 d with e|d
    ·cases e;refine⟨b,o,E.trans S,λk c f=>?_,λk f=>Y k Ω⟩;obtain⟨v,H,hcr⟩:=L.get f;exact⟨v,h4 k v H,hcr⟩
    ·exact M id a d
   ·rcases zl.1 d with e|d
    ·cases e;rw[E] at Mv;have B:y<=j/\j<y+cs.length:=B;exact .inr ⟨y,ps,Mv,B.1,.inl ⟨rfl,Ω⟩⟩
    ·exact .inl (owns z s m id a T y d Mv j B)
 ·split at f
  ·rename_i ps;obtain⟨e,he,G⟩:=Dh f;obtain⟨x,Hn⟩:=Ax G;have x:i<8:=kw (Vc x);obtain⟨q,qr,g,Tl⟩:=B5 Hn;subst g;obtain⟨NI,JQ⟩:=Fj Tl;subst NI;unfold K5 at JQ;split at JQ
   ·rename_i es' n c;cases z:Nat.beq es' (Bx P e)<;>rw[z] at JQ
    ·cases JQ
    ·have FZ:=Ed z;subst FZ;refine⟨_,_,[(E3 N i,0)],JQ,rfl,Ψ,λ_=>⟨Ψ,x⟩,?_,?_,?_,λw A bt β' u D hp=>?_⟩
     ·intro id a d;simp only[Tx] at d;cases d;exact⟨trivial,λ_ e=>by cases e⟩
     ·intro id Ce;simp only[Cy,Dj,A6,Tx] at Ce;subst Ce;exact⟨_,OJ⟩
     ·intro id cells d;simp only[Tx] at d;cases d
     ·obtain⟨es,n',c',S,h2⟩:=hp;cases S;have E:=D (E3 N i,0) OJ;simp only at E;refine⟨?_,λid a d=>?_,λid a T y d Mv j B=>?_⟩
      ·rcases h2 with⟨J,rfl,_,Y⟩|⟨b,ob,cap,J,h4,Y,L,M,_⟩
       ·exact .inl ⟨E.trans J,rfl,rfl,Y⟩
       ·exact .inr ⟨b,ob,ob,cap,E.trans J,h4,.inl rfl,Y,L,M⟩
      ·simp only[Tx] at d;cases d;exact QE h2 E
      ·simp only[Tx] at d;cases d;rw[E] at Mv;exact .inr ⟨y,_,Mv,B,.inr rfl⟩
   ·cases JQ
  ·rename_i Z;cases Jf:C6 P t<;>rw[Jf] at f
   ·simp only[cond_false] at f;obtain⟨cs,bs,l,Tl,hl,Uk,z,Td,s,hF,Ke,H⟩:=BG f;obtain⟨c,cs',EF,JQ⟩:=B5 Tl;subst EF;obtain⟨NI,hk5⟩:=Fj JQ;subst NI;have hFc:=hF c Ψ
    have O:SQ p=false\/∃ps,p=.pbox ps:=by
     cases p<;>first|exact .inl rfl|exact .inr ⟨_,rfl⟩|exact absurd rfl (Z _)
    have hpb:∀ps,p ≠ .pbox ps:=by
     rintro ps rfl
     cases C:M2 P t with
     |nil=>rw[C] at Uk;simp at Uk
     |cons t' ts=>
      rw[C] at f;unfold VC A2p at f;obtain⟨q,qs1,g,G⟩:=B5 f;cases g;cases t'<;>simp[TN,Y9,Bi,Bh,At,fnK] at G
    have hpa:∀ps,p ≠ .agg ps:=by
     rintro ps rfl
     cases C:M2 P t with
     |nil=>rw[C] at Uk;simp at Uk
     |cons t' ts=>
      rw[C] at f;unfold VC A2p at f;obtain⟨q,qs1,g,G⟩:=B5 f;cases g;cases t'<;>simp[TN,Y9,Bi,Bh,At,fnK] at G
    have O:SQ p=false:=O.elim id (λ⟨ps,e⟩=>absurd e (hpb ps));have ME:Cy c=A6 c:=by cases c<;>first|rfl|exact hFc.elim
    refine⟨c,bs,l.map (λq=>(q.1,q.2+1)),hk5,by rw[z];simp,?_,(λh=>by rw[O] at h;cases h),?_,λid Ce=>Ke c Ψ id (by rw[<-ME];exact Ce),nost s,λw A bt β' u D hp=>?_⟩
    ·intro q g U Iw e;obtain⟨Q,OO,rfl⟩:=kl.1 g;obtain⟨W,X,rfl⟩:=kl.1 Iw;exact Td Q OO W X (by simp only at e;omega)
    ·intro id a d;obtain⟨c,rfl⟩:=s id a d;exact⟨trivial,λ_ e=>by cases e⟩
    ·have Ek:Jq w A (bt 1) p u:=by cases p<;>first|exact hp.2|exact absurd rfl (hpa _)|exact absurd rfl (hpb _)|exact absurd rfl (Z _)
     have m:∀q∈l,β' q.1=bt (1+q.2):=λq g=>by rw[D _ (km g),jj]
     obtain⟨L,M⟩:=H w A bt β' 1 [u] m ⟨Ek,trivial⟩;refine⟨?_,M,λid a T y d Mv j B=>.inl (owns z s m id a T y d Mv j B)⟩;have h8:=L.1;cases c<;>first|exact h8|exact hFc.elim
   ·simp only[cond_true] at f;obtain⟨ps,hp0,G⟩:=Lt f;subst hp0;obtain⟨cs,bs,l,Tl,hl,Uk,z,Td,s,hF,Ke,H⟩:=BG G;refine⟨_,bs,l.map (λq=>(q.1,q.2+1)),Tl,by rw[z];simp,?_,(λh=>by cases h),?_,λid Ce=>?_,nost s,λw A bt β' u D hp=>?_⟩
    ·intro q g U Iw e;obtain⟨Q,OO,rfl⟩:=kl.1 g;obtain⟨W,X,rfl⟩:=kl.1 Iw;exact Td Q OO W X (by simp only at e;omega)
    ·intro id a d;obtain⟨c,rfl⟩:=s id a d;exact⟨trivial,λ_ e=>by cases e⟩
    ·obtain⟨c,hc,hi⟩:=zk.1 (show id∈cs.flatMap A6 from Ce);exact Ke c hc id hi
    ·obtain⟨vs,S,_,J⟩:=hp;have m:∀q∈l,β' q.1=bt (1+q.2):=λq g=>by rw[D _ (km g),jj]
     obtain⟨L,M⟩:=H w A bt β' 1 vs m J;exact⟨⟨vs,S,L⟩,M,λid a T y d Mv j B=>.inl (owns z s m id a T y d Mv j B)⟩
theorem Amt:∀{ts:List TypeId}{i:Nat}{ps:Ae}{K:List (Nat × PV)->List (Nat × Co)->Option R},A18 P N i ts ps K=some r ->
  ∃tms bs,∃x:List (Nat × Nat × Nat),K tms bs=some r/\bs.map (·.1)=x.map (·.1)/\(∀q∈x,i<=q.2.1)/\(∀q∈x,∀B∈x,q.2=B.2->q.1=B.1) /\
   (∀k p,ps[k]?=some p->SQ p=true->(E3 N (i+k),i+k,0)∈x/\i+k<8)/\(∀id a,(id,a)∈bs->Eo (some a)/\∀c,a=.st c->∃k p,ps[k]?=some p/\SQ p=true/\id=E3 N (i+k)) /\
   (∀j,∀id∈Cy (lk tms j),∃a,(id,a)∈bs)/\UT bs /\
   ∀(w:World) (A:Nat->Prop) (bt:QW) (β':Bt) (us:List Value),(∀q∈x,β' q.1=bt q.2.1 q.2.2)->Tj w A bt i ps us ->
    (∀j,(∃u,i<=j/\us[j-i]?=some u/\Gw w A β' (lk tms j) u)\/(lk tms j=.top/\(i<=j->us[j-i]?=none)))/\(∀id a,(id,a)∈bs->EB w A β' id a) /\
    ∀id a b o,(id,a)∈bs->β' id=some (b,o)->∀j,BR a o j->∃k p,ps[k]?=some p/\Bc3 (bt (i+k)) p b j
 |[],i,ps,K,n=>by
  obtain⟨WV,n⟩:=Fj n;subst WV;refine⟨[],[],[],n,rfl,Ψ,Ψ,Ψ,Ψ,(λj id Ce=>by cases Ce),(by intro i cells d;cases d),λw A bt β' us _ h=>?_⟩
  cases us with
  |nil=>exact⟨λj=>.inr ⟨rfl,λ_=>Ψ⟩,Ψ,Ψ⟩
  |cons u us=>exact h.elim
 |t::ts,i,ps,K,n=>by
  unfold A18 at n;obtain⟨p,ps',WV,F9⟩:=B5 n;subst WV;obtain⟨v,bs,x,Hn,hb,E,Aau,Tn,hr,G,hv⟩:=A7x F9;obtain⟨tms,H,J,Tl,Mv,Bc5,Bm1,Bg5,Bqw,L,Bqq,Yb⟩:=Amt Hn;refine⟨(i,v)::tms,bs++H,x.map (λq=>(q.1,i,q.2))++J,Tl,by simp only[kn,hb,Mv];simp,?_,?_,?_,?_,?_,?_,λw A bt β' us U hp=>?_⟩
  ·intro q g;rcases B8.1 g with g|g
   ·obtain⟨V,OO,rfl⟩:=kl.1 g;exact Cz _
   ·have:=Bc5 q g;omega
  ·intro q g B Iw e;rcases B8.1 g with g|g
   ·obtain⟨V,OO,rfl⟩:=kl.1 g;rcases B8.1 Iw with Iw|Iw
    ·obtain⟨W,X,rfl⟩:=kl.1 Iw;simp only[Prod.mk.injEq,true_and] at e;exact E V OO W X e
    ·have:=Bc5 B Iw;rw[<-e] at this;simp only at this;omega
   ·have m:=Bc5 q g;rcases B8.1 Iw with Iw|Iw
    ·obtain⟨W,X,rfl⟩:=kl.1 Iw;rw[e] at m;simp only at m;omega
    ·exact Bm1 q g B Iw e
  ·intro k C M Y;cases k with
   |zero=>
    simp only[ya,Option.some.injEq] at M;subst M;obtain⟨f,l⟩:=Aau Y;exact⟨B8.2 (.inl (kl.2 ⟨_,f,rfl⟩)),l⟩
   |succ k=>
    obtain⟨f,l⟩:=Bg5 k C (by simpa using M) Y;rw[show i+1+k=i+(k+1) by omega] at f l;exact⟨B8.2 (.inr f),l⟩
  ·intro id a d;rcases B8.1 d with d|d
   ·obtain⟨f,l⟩:=Tn id a d;exact⟨f,λc y=>⟨0,p,rfl,(l c y).2,(l c y).1⟩⟩
   ·obtain⟨f,l⟩:=Bqw id a d;refine⟨f,λc y=>?_⟩;obtain⟨k,C,O,z,m⟩:=l c y;exact⟨k+1,C,by simpa using O,z,by rw[m,show i+1+k=i+(k+1) by omega]⟩
  ·intro j id Ce;unfold lk at Ce;cases s:Nat.beq j i<;>rw[s] at Ce
   ·obtain⟨a,f⟩:=L j id Ce;exact⟨a,B8.2 (.inr f)⟩
   ·obtain⟨a,f⟩:=hr id Ce;exact⟨a,B8.2 (.inl f)⟩
  ·intro id cells d c y k n;rcases B8.1 d with d|d
   ·obtain⟨a,f⟩:=G id cells d c y k n;exact⟨a,B8.2 (.inl f)⟩
   ·obtain⟨a,f⟩:=Bqq id cells d c y k n;exact⟨a,B8.2 (.inr f)⟩
  ·cases us with
   |nil=>exact hp.elim
   |cons u us=>
    obtain⟨f,l,O⟩:=hv w A (bt i) β' u (λq g=>U _ (B8.2 (.inl (km g)))) hp.1;obtain⟨Q,S,T⟩:=Yb w A bt β' us (λq g=>U q (B8.2 (.inr g))) hp.2;refine⟨λj=>?_,λid a d=>?_,λid a b o d D j Z=>?_⟩
    ·unfold lk;cases s:Nat.beq j i
     ·have F4:=Uv s;simp only[cond_false];rcases Q j with⟨u',z,m,h6⟩|⟨z,m⟩
      ·refine .inl ⟨u',Ω,?_,h6⟩;rw[show j-i=(j-(i+1))+1 by omega]
       simpa using m
      ·refine .inr ⟨z,λhij=>?_⟩;rw[show j-i=(j-(i+1))+1 by omega]
       simpa using m Ω
     ·have:=Ed s;subst this;exact .inl ⟨u,Cz _,Ψ,f⟩
    ·rcases B8.1 d with d|d
     ·exact l id a d
     ·exact S id a d
    ·rcases B8.1 d with d|d
     ·exact⟨0,p,rfl,O id a b o d D j Z⟩
     ·obtain⟨k,C,z,m⟩:=T id a b o d D j Z;exact⟨k+1,C,by simpa using z,by rw[show i+(k+1)=i+1+k by omega];exact m⟩
def Ap1(bt:QW)(args:Ae)(a:∀k p,args[k]?=some p->SQ p=true->k<8):M0:=
 ⟨BtX bt,Aae bt args,λi=>∃p,args[i]?=some p/\SQ p=true,λi=>bt i 0,λi ⟨p,b,c⟩=>a i p b c⟩
theorem Au3{ts:List TypeId}{bt:QW}{K:List (Nat × PV)->List (Nat × Co)->Option R}(MK:Ins w Y bt args us)(G:A18 P N 0 ts args K=some r):
  ∃tms bs,K tms bs=some r/\(Cs (λ_=>none) bs=true->us.length<=N->∃(H:∀k p,args[k]?=some p->SQ p=true->k<8),∃β0,
   D3 N w (Ap1 bt args H) Y β0 ⟨lk tms,Fb bs⟩ { tmps:=us.toArray++g0 (N-us.toArray.size) undef,defers:=[] } w):=by
 obtain⟨tms,bs,B,F9,t,OO,J,Aau,Tn,hr,L,M⟩:=Amt G;refine⟨tms,bs,F9,λZd hN=>?_⟩;have Apg:=CY Zd
 have H:∀k p,args[k]?=some p->SQ p=true->k<8:=λk p g f=>by
  have:=(Aau k p g f).2;omega
 have O:(B.map (·.1)).Nodup:=by rw[<-t];exact Apg
 obtain⟨β0,v⟩:∃β0:Bt,∀q∈B,β0 q.1=bt q.2.1 q.2.2:=by
  have:∀(l:List (Nat × Nat × Nat)),(l.map (·.1)).Nodup->∃β0:Bt,∀q∈l,β0 q.1=bt q.2.1 q.2.2:=by
   intro l
   induction l with
   |nil=>intro _;exact⟨λ_=>none,Ψ⟩
   |cons q l ih=>
    intro C;simp only[ER,ko] at C;obtain⟨b1,g⟩:=ih C.2;refine⟨Dy b1 q.1 (bt q.2.1 q.2.2),λQ Iw=>?_⟩;rcases zl.1 Iw with rfl|Iw
    ·exact Ay _ _ _
    ·have F4:Q.1≠q.1:=λe=>C.1 (by rw[<-e];exact kl.2 ⟨Q,Iw,rfl⟩)
     rw[Au _ _ F4];exact g Q Iw
  exact this B O
 refine⟨H,β0,?_⟩;obtain⟨Z,S,hL⟩:=M w _ bt β0 us v MK.args
 have n:∀id d,(id,d)∈bs->∃A,(id,A)∈B/\β0 id=bt A.1 A.2:=by
  intro id d x;have:id∈B.map (·.1):=by rw[<-t];exact kl.2 ⟨_,x,rfl⟩
  obtain⟨q,a,rfl⟩:=kl.1 this;exact⟨q.2,a,v q a⟩
 have T:∀b,Xof (Fb bs) β0 b->BtX bt b:=by
  rintro b ⟨id,o,y,m⟩
  cases a:Fb bs id with
  |none=>rw[a] at y;exact y.elim
  |some d=>
   obtain⟨A,_,f⟩:=n id d (Us a);rw[f] at m;exact⟨_,_,_,m⟩
 have hA:∀b,Em (Fb bs) β0 Y b->BtX bt b\/Y b:=λb t=>t.imp (T b) id;have A81:∀{p:PV} {u:Value},Gw w (λb=>BtX bt b\/Y b) β0 p u->Gw w (Em (Fb bs) β0 Y) β0 p u:=λh=>h.step (Df.refl _ _) (λb _=>hA b) (λ_ _=>rfl);refine⟨rfl,by simp;omega,λi hi=>?_,λi hi=>?_,?_,?_,?_,λi hi id Ce=>?_,?_,λb t=>.inl (T b t),?_,?_,?_,λb hY U=>MK.Yx b hY (T b U),MK.Ylt,⟨rfl,rfl,rfl,Df.refl _ _,λ_ _ _ _=>⟨rfl,rfl⟩⟩⟩
 ·rcases Z i with⟨u,_,h,_⟩|⟨h,_⟩
  ·rw[gm,zh Ω] at h;cases h
  ·exact h
 ·rcases Z i with⟨u,_,h,M⟩|⟨h,E⟩
  ·rw[gm] at h
   have Ct:i<us.length:=by
    rcases Kp i us.length with E|E
    ·exact E
    ·rw[zh E] at h;cases h
   have:(us.toArray++g0 (N-us.toArray.size) undef).getD i undef=u:=by
    rw[Array.getD_eq_getD_getElem?,Array.getElem?_append_left (by simpa using Ct)];simp[h]
   show Gw w _ _ _ ((us.toArray++g0 (N-us.toArray.size) undef).getD i undef);rw[this];exact A81 M
  ·show Gw w _ _ (lk tms i) _;rw[h];exact A7.top _
 ·intro id d a;exact (S id d (Us a)).step' hA
 ·intro id z b o o' y Rj m D;cases a:Fb bs id with
  |none=>change Eo (Fb bs id) at y;rw[a] at y;exact y.elim
  |some d=>
   cases Iw:Fb bs z with
   |none=>change Eo (Fb bs z) at Rj;rw[Iw] at Rj;exact Rj.elim
   |some V=>
    obtain⟨A,g,f⟩:=n id d (Us a);obtain⟨ik',W,X⟩:=n z V (Us Iw);rw[f] at m;rw[X] at D;obtain⟨s,h4⟩:=MK.inj _ _ _ _ b o o' m D;exact J _ g _ W (Prod.ext s h4)
 ·intro id b o C m;cases a:Fb bs id with
  |none=>exact absurd a C
  |some d=>
   obtain⟨A,g,f⟩:=n id d (Us a);rw[f] at m;exact MK.lt b ⟨_,_,_,m⟩
 ·obtain⟨d,x⟩:=hr i id Ce;show Fb bs id≠none;rw[Ahn Apg x];simp
 ·intro id cells a c hc k G;obtain⟨d,x⟩:=L id cells (Us a) c hc k G;show Fb bs k≠none;rw[Ahn Apg x];simp
 ·intro id d b o a y m _ j hj;obtain⟨k,p,g,f⟩:=hL id d b o (Us a) m j hj;rw[I8] at f;exact⟨k,p,g,f⟩
 ·rintro i ⟨p,g,f⟩
  have s:=(Aau i p g f).1;rw[I8] at s;refine⟨?_,v _ s⟩;have:E3 N i∈bs.map (·.1):=by rw[t];exact kl.2 ⟨_,s,rfl⟩
  obtain⟨⟨id,d⟩,x,e⟩:=kl.1 this;show Fb bs (E3 N i)≠none;rw[<-e,Ahn Apg x];simp
 ·intro id c b o a _ _;obtain⟨k,p,g,f,s⟩:=(Tn id _ (Us a)).2 c rfl;rw[I8] at s;exact⟨k,s,p,g,f⟩
end
open Go.RowKit
def R5(β:Bt)(l:List (Option Nat))(j:Nat):Option (Nat × Nat):=((l[j]?).bind id).bind β
section
variable {R:Type}{r:R}{P:Program}{N:Nat}{w0:World}{X0:M0}{Y:Nat->Prop}{β β':Bt}{s:St}{a:Act}{w w':World}{A:Nat->Prop}
def A0f(s:St)(l:List (Option Nat)):Prop:=∀id,some id∈l->Eo (s.hp id)
def Ur(s:St)(z:Cl):Prop:=∀id∈z,∃f c,s.hp id=some (.ar f c)
theorem Ae1(h : D3 N w0 X0 Y β s a w){shr : Bool}{t : CT}{p : PV}{K : PV -> Cl -> Cl -> Option R}(d : Atj shr s.hp t p K = some r):
    ∃ c q z, K c (vv q) z = some r /\ (∀ x, c ≠ .agg x /\ c ≠ .pbox x) /\ isF p /\ (∀ id, q = some id -> ∃ c, s.hp id = some (.ar false c)) /\ Ur s z /\
      ∀ (fz : Cl) A u, (∀ i ∈ z, i ∈ fz) -> Ur s fz -> (∀ b, A b -> Em (Aj s.hp fz) β Y b) -> C4 w (Em s.hp β Y) β p u -> Jq w A (q.bind β) c u := by
  have notree : ∀ {c : PV}, MN c -> ∀ x, c ≠ .agg x /\ c ≠ .pbox x := λg x => ⟨RW g x, by rintro rfl; exact g⟩
  unfold Atj at d
  cases shr <;> simp only[cond_true, cond_false] at d
  · have tree : ∀ H, (∀ es, H ≠ .sl es) -> (TN H p λc => K c [] []) = some r -> ∃ c q z, K c (vv q) z = some r /\ (∀ x, c ≠ .agg x /\ c ≠ .pbox x) /\ isF p /\ (∀ id, q = some id -> ∃ c, s.hp id = some (.ar false c)) /\ Ur s z /\
        ∀ (fz : Cl) A u, (∀ i ∈ z, i ∈ fz) -> Ur s fz -> (∀ b, A b -> Em (Aj s.hp fz) β Y b) -> C4 w (Em s.hp β Y) β p u -> Jq w A (q.bind β) c u := by
      intro H F4 d
      obtain⟨c, y, g, J, C⟩ := Vb d
      refine⟨c, none, [], y, notree g, DS J, by simp, (by intro i hi; cases hi), λfz A u _ _ D l => Ro g ?_⟩
      exact (C w _ β u l).1.step (Df.refl _ _) (λb _ f => V6 (D b f))
    unfold Ba3 at d
    cases t with
    | sl es =>
      dsimp only at d
      split at d
      · rename_i id L off n
        cases f : (Nat.beq L es && Nat.beq off 0) <;> rw[f] at d
        · cases d
        · simp only[Gh] at f
          have T := Ed f.1
          have U := Ed f.2
          subst T U
          simp only[cond_true] at d
          split at d
          · rename_i c S
            obtain⟨hl, y⟩ := Ax d
            refine⟨_, some id, [], y, by simp, trivial, λi hi => by cases hi; exact⟨c, S⟩, (by intro i hi; cases hi), λfz A u _ _ D l => ?_⟩
            rcases l with⟨B, _, rfl, M⟩ | ⟨b, o, x, cap, B, O, P, V, M, W⟩
            · exact .inl ⟨B, rfl, by simp, M⟩
            · have P : x = o := by rcases P with e | ⟨_, e⟩ <;> omega
              subst P
              rcases h.box id _ S with⟨E, _⟩ | ⟨b', o', E, X, Z, _⟩
              · rw[B] at E; cases E
              · rw[B] at E
                cases E
                refine .inr ⟨b, x, cap, B, O, V, M, W, λj q G => ?_, λj hj X7 => Z rfl j hj X7⟩
                rw[List.getElem?_take] at G
                split at G
                · obtain⟨v, C, h9, ht⟩ := X j q G
                  exact⟨v, C, h9, ht.step (Df.refl _ _) (λb _ f => V6 (D b f))⟩
                · cases G
          · cases d
      · obtain⟨z, n, c, y, hp⟩ := Jy d
        obtain⟨hz, Hn⟩ := Ax y
        subst hz
        have Q : isF p := by rcases hp with e | ⟨e, _⟩ <;> (rw[e]; trivial)
        refine⟨_, none, [], Hn, by simp, Q, by simp, (by intro i hi; cases hi), λfz A u _ _ _ l => ?_⟩
        have hu : u = .slice none 0 0 := by
          rcases hp with rfl | ⟨rfl, _⟩
          · cases l; rfl
          · exact A7.val l
        exact .inl ⟨rfl, rfl, rfl, none, hu⟩
    | int k => exact tree _ Ψ d
    | bool => exact tree _ Ψ d
    | str => exact tree _ Ψ d
    | any => exact tree _ Ψ d
  · obtain⟨c, m, y, g, hF, hm, C⟩ := Abv h d
    exact⟨c, none, m, y, notree g, hF, by simp, hm, λfz A u B O D l => Ro g ((C fz B O u l).1.step (Df.refl _ _) (λb _ f => D b f))⟩
structure XL(s:St)(β:Bt)(Y:Nat->Prop)(w:World)(cs:Ae)(l:List (Option Nat))(z:Cl)(ps:Ae):Prop where
 len:l.length=cs.length
 pl:cs.length=ps.length
 na:∀c∈cs,∀x,c ≠ .agg x/\c ≠ .pbox x
 fr:∀p∈ps,isF p
 own:∀id,some id∈l->∃c,s.hp id=some (.ar false c)
 row:Ur s z
 sem:∀(fz:Cl) A us,(∀i∈z,i∈fz)->Ur s fz->(∀b,A b->Em (Aj s.hp fz) β Y b)->B4 (C4 w (Em s.hp β Y) β) ps us->∀own j0,(∀j,j<l.length->own (j0+j)=R5 β l j)->Hj w A own j0 cs us
theorem XL.nil:XL s β Y w [] [] [] []:=⟨rfl,rfl,Ψ,Ψ,Ψ,(by intro i hi;cases hi),λfz A us _ _ _ a own b _=>by
 cases us with
 |nil=>trivial
 |cons u us=>exact a.elim⟩
theorem XL.cons{c:PV}{q:Option Nat}{z k:Cl}{cs ps:Ae}{l:List (Option Nat)}(TW:∀x,c ≠ .agg x/\c ≠ .pbox x)(r:isF p)(t:∀id,q=some id->∃c,s.hp id=some (.ar false c))(v:Ur s z)(y:∀(fz:Cl) A u,(∀i∈z,i∈fz)->Ur s fz->(∀b,A b->Em (Aj s.hp fz) β Y b)->C4 w (Em s.hp β Y) β p u->Jq w A (q.bind β) c u)(H:XL s β Y w cs l k ps):XL s β Y w (c::cs) (q::l) (z++k) (p::ps):=by
 refine⟨by simp[H.len],by simp[H.pl],?_,?_,?_,?_,λfz A us d f m g own h n=>?_⟩
 ·intro x a;rcases zl.1 a with rfl|a
  ·exact TW
  ·exact H.na x a
 ·intro x a;rcases zl.1 a with rfl|a
  ·exact r
  ·exact H.fr x a
 ·intro id Ce;rcases zl.1 Ce with e|Ce
  ·exact t id e.symm
  ·exact H.own id Ce
 ·intro i hi;rcases B8.1 hi with hi|hi
  ·exact v i hi
  ·exact H.row i hi
 ·cases us with
  |nil=>exact g.elim
  |cons u us=>
   have o:=n 0 Ψ;rw[Zzr] at o;refine⟨?_,H.sem fz A us (λi hi=>d i (by simp[hi])) f m g.2 own (h+1) λj B=>?_⟩
   ·rw[o];exact y fz A u (λi hi=>d i (by simp[hi])) f m g.1
   ·have:=n (j+1) (by simp;omega)
    rw[show h+1+j=h+(j+1) by omega,this];simp[R5]
theorem DB(h:D3 N w0 X0 Y β s a w){shr:Bool}:∀{ts:List CT}{ps:Ae}{K:Ae->Cl->Cl->Option R},ST shr s.hp ts ps K=some r ->
  ∃cs l z,K cs (l.filterMap id) z=some r/\XL s β Y w cs l z ps
 |[],[],K,b=>⟨[],[],[],b,XL.nil⟩
 |[],_::_,K,b=>by cases b
 |_::_,[],K,b=>by cases b
 |t::ts,p::ps,K,b=>by
  unfold ST at b;obtain⟨c,q,z,d,TW,e,f,g,i⟩:=Ae1 h b;obtain⟨cs,l,j,Hn,H⟩:=DB h d;refine⟨c::cs,q::l,z++j,?_,XL.cons TW e f g i H⟩;cases q<;>exact Hn
theorem VK(h:D3 N w0 X0 Y β s a w):∀{ts:List CT}{ws ps:Ae}{K:Ae->Cl->Cl->Option R},YD s.hp ts ws ps K=some r ->
  ∃cs l z,K cs (l.filterMap id) z=some r/\cs.length=ws.length/\XL s β Y w cs l z ps
 |[],[],[],K,b=>⟨[],[],[],b,rfl,XL.nil⟩
 |[],_::_,_,K,b=>by cases b
 |[],[],_::_,K,b=>by cases b
 |_::_,[],_,K,b=>by cases b
 |_::_,_::_,[],K,b=>by cases b
 |t::ts,x::ws,p::ps,K,b=>by
  unfold YD at b;obtain⟨c,q,z,d,TW,e,f,g,i⟩:=Ae1 h b;obtain⟨cs,l,j,Hn,k,H⟩:=VK h d;refine⟨c::cs,q::l,z++j,?_,by simp[k],XL.cons TW e f g i H⟩;cases q<;>exact Hn
theorem Ao9{own:Bt}{a:Nat}(hp:∀x,p ≠ .agg x/\p ≠ .pbox x)(h:Hj w A own j [p] [u]):A5z w A own a j p u:=by cases p<;>first|exact h.1|exact absurd rfl (hp _).1|exact absurd rfl (hp _).2
theorem Ast(h:D3 N w0 X0 Y β s a w){id b o:Nat}{c cs:Ae}{l:List (Option Nat)}{z:Cl}(q:s.hp id=some (.st c))(r:β id=some (b,o))(H:XL s β Y w cs l z c){fz:Cl}{A:Nat->Prop}(t:∀i∈z,i∈fz)(x:Ur s fz)(y:∀b,A b->Em (Aj s.hp fz) β Y b){own:Bt}{g:Nat}(B:∀j,j<l.length->own (g+j)=R5 β l j):A4p w A own g b o cs:=by
 obtain⟨C,D,n,Ke,SM⟩:=h.box id _ q;rw[r] at n;cases n;refine⟨c.mapIdx (λj _=>(w.cell? ⟨b,o+j,none⟩).getD undef),H.sem fz A _ t x y ?_ own g B,?_,λk E=>SM k (by have:=H.pl;omega)⟩
 ·refine B4.of_at Ψ λj p v hp m=>?_;obtain⟨u,f,e⟩:=Ke j p hp;rw[xz,hp,jz,f] at m;simp at m;subst m;exact e
 ·intro k v d;rw[xz] at d;cases hp:c[k]? with
  |none=>rw[hp] at d;cases d
  |some p=>
   obtain⟨u,f,e⟩:=Ke k p hp;rw[hp,jz,f] at d;simp at d;subst d;exact f
theorem Axx(h:D3 N w0 X0 Y β s a w)(hp:Gw w (Em s.hp β Y) β p u){K:PV->Cl->Cl->Option R}(d:A27 P shr s.hp t p K=some r):
  ∃v l z,K v (l.filterMap id) z=some r/\l.length=plc v/\A0f s l/\Ur s z /\
   ∀(fz:Cl) A m,(∀i∈z,i∈fz)->Ur s fz->(∀b,A b->Em (Aj s.hp fz) β Y b)->(∀id c b o,some id∈l->s.hp id=some (.st c)->β id=some (b,o)->m<=b) ->
    ∀own f,(∀j,j<l.length->own (f+j)=R5 β l j)->A5z w A own m f v u:=by
 unfold A27 at d;split at d
 ·rename_i e S;split at d
  ·rename_i id off;split at d
   ·rename_i c D;obtain⟨g,n⟩:=Ax d;have g:=Ed g;subst g;obtain⟨C,l,z,Hn,H⟩:=DB h n;obtain⟨b,o,E,G⟩:=hp;refine⟨.pbox C,some id::l,z,Hn,by simp only[plc,M9,H.len];omega,?_,H.row,λfz A m q x y M own f k=>?_⟩
    ·intro i hi;rcases zl.1 hi with e|hi
     ·cases e;rw[D];trivial
     ·obtain⟨J,B⟩:=H.own i hi;rw[B];trivial
    ·have L:=k 0 Ψ;rw[Zzr] at L;refine⟨b,o,by rw[L];exact E,M id c b o Ψ D E,by rw[G,Zzr],Ast h D E H q x y λj T=>?_⟩
     have:=k (j+1) (by simp;omega)
     rw[show f+1+j=f+(j+1) by omega,this];simp[R5]
   ·cases d
  ·cases d
 ·cases Jf:C6 P t<;>rw[Jf] at d<;>simp only[cond_true,cond_false] at d
  ·obtain⟨C,l,z,n,H⟩:=DB h d;obtain⟨c,O,EF,Hn⟩:=B5 n;subst EF;obtain⟨NI,Tl⟩:=Fj Hn;subst NI;have TW:=H.na c Ψ;have LB:plc c=1:=by cases c<;>first|rfl|exact absurd rfl (TW _).1|exact absurd rfl (TW _).2
   have Q:=H.fr p Ψ;refine⟨c,l,z,Tl,by rw[LB];exact H.len,λi hi=>?_,H.row,λfz A m q x y _ own f k=>Ao9 TW (H.sem fz A [u] q x y ⟨?_,trivial⟩ own f k)⟩
   ·obtain⟨J,B⟩:=H.own i hi;rw[B];trivial
   ·cases p<;>first|exact hp|exact Q.elim
  ·obtain⟨ps,WV,n⟩:=Lt d;subst WV;obtain⟨C,l,z,Hn,H⟩:=DB h n;obtain⟨vs,G,Ox⟩:=hp;refine⟨.agg C,l,z,Hn,H.len,λi hi=>?_,H.row,λfz A m q x y _ own f k=>⟨vs,G,H.sem fz A vs q x y Ox own f k⟩⟩;obtain⟨J,B⟩:=H.own i hi;rw[B];trivial
def Ahj(P:Program)(tmps:Array Value)(w:World)(b:ResultVar)(u:Value):Prop:=
  (match b with
   |.tmp t=>(pure (tmps.getD t undef):Sem Value)
   |.cell a t=>do loadVar t (<-asAddr (tmps.getD a undef))).run P w=.ok u w
theorem A1g(h:D3 N w0 X0 Y β s a w)(t:Nat):Gw w (Em s.hp β Y) β (s.tm t) (a.tmps.getD t undef):=by
 rcases Kp t N with b|b
 ·exact h.tms t b
 ·rw[h.tmo t b];exact A7.top _
theorem Aup(h:D3 N w0 X0 Y β s a w){c:ResultVar}{K:PV->Option R}(b:A2a P s c K=some r):∃p u,K p=some r/\Ahj P a.tmps w c u/\Gw w (Em s.hp β Y) β p u:=by
 unfold A2a at b;split at b
 ·rename_i t;exact⟨_,_,b,rfl,A1g h t⟩
 ·rename_i x t;obtain⟨v,ad,val,d,e,f,g,_⟩:=Al3 h (A1g h x) b;refine⟨v,val,d,?_,g⟩;unfold Ahj;simp[e,asAddr,f]
theorem OC{l a:List (Option Nat)}(h:j<l.length):R5 β (l++a) j=R5 β l j:=by unfold R5;rw[zi h]
theorem MU{l a:List (Option Nat)}:R5 β (l++a) (l.length+j)=R5 β a j:=by unfold R5;rw[kf Ω,Nat.add_sub_cancel_left]
theorem YZ(h:D3 N w0 X0 Y β s a w){shr:Bool}:∀{rs:List ResultVar}{ts:List TypeId}{K:Ae->Cl->Cl->Option R},Ahv P shr s rs ts K=some r ->
  ∃vs l z us,K vs (l.filterMap id) z=some r/\B4 (Ahj P a.tmps w) rs us/\l.length=To vs/\A0f s l/\Ur s z /\
   ∀(fz:Cl) A e,(∀i∈z,i∈fz)->Ur s fz->(∀b,A b->Em (Aj s.hp fz) β Y b)->(∀id c b o,some id∈l->s.hp id=some (.st c)->β id=some (b,o)->e<=b) ->
    ∀own f,(∀j,j<l.length->own (f+j)=R5 β l j)->Af6 w A own e f vs us
 |[],[],K,d=>⟨[],[],[],[],d,trivial,rfl,(by intro id Ce;cases Ce),(by intro id Ce;cases Ce),λ_ _ _ _ _ _ _ _ _ _=>trivial⟩
 |[],_::_,K,d=>by cases d
 |_::_,[],K,d=>by cases d
 |Q::rs,t::ts,K,d=>by
  unfold Ahv at d;obtain⟨p,u,E,G,hp⟩:=Aup h d;obtain⟨v,l,z,Hn,n,H,J,L⟩:=Axx h hp E;obtain⟨vs,M,O,us,Tl,g,Rj,k,m,Ox⟩:=YZ h Hn;refine⟨v::vs,l++M,z++O,u::us,?_,⟨G,g⟩,by simp only[Ru,To,ER,List.sum_cons,n];rw[Rj];rfl,?_,?_,λfz A e q x y B own f C=>⟨?_,?_⟩⟩
  ·rw[yi];exact Tl
  ·intro id Ce;rcases B8.1 Ce with Ce|Ce
   ·exact H id Ce
   ·exact k id Ce
  ·intro id Ce;rcases B8.1 Ce with Ce|Ce
   ·exact J id Ce
   ·exact m id Ce
  ·exact L fz A e (λi hi=>q i (by simp[hi])) x y (λid c b o hi=>B id c b o (by simp[hi])) own f λj D=>by rw[C j (by simp;omega),OC D]
  ·refine Ox fz A e (λi hi=>q i (by simp[hi])) x y (λid c b o hi=>B id c b o (by simp[hi])) own (f+plc v) λj D=>?_;rw[<-n,Ld,C (l.length+j) (by simp;omega),MU]
theorem DD(h:D3 N w0 X0 Y β s a w){bt:QW}(g:∀i,X0.pt i=bt i 0):∀{ts:List TypeId}{i:Nat}{ps:Ae}{K:List Ae->Cl->Cl->Cl->Option R},UN P N s.hp i ts ps K=some r ->
  (∀k p,ps[k]?=some p->SQ p=true->X0.pn (i+k)) ->
  ∃os l z q,K os (l.filterMap id) z q=some r/\(∀id,some id∈l->∃c,s.hp id=some (.ar false c))/\Ur s z/\(∀id∈q,Eo (s.hp id))/\(∀k p,ps[k]?=some p->SQ p=true->E3 N (i+k)∈q) /\
   ∀(fz:Cl) A,(∀i∈z,i∈fz)->Ur s fz->(∀i∈q,i ∉ fz)->(∀b,A b->Em (Aj s.hp fz) β Y b) ->
    ∀own y,(∀j,j<l.length->own (y+j)=R5 β l j)->N9 w A own bt y i ps os
 |[],i,ps,K,G,_=>by
  obtain⟨WV,G⟩:=Fj G;subst WV;exact⟨[],[],[],[],G,Ψ,(by intro id Ce;cases Ce),Ψ,Ψ,λ_ _ _ _ _ _ _ _ _=>rfl⟩
 |t::ts,i,ps,K,G,B=>by
  unfold UN at G;obtain⟨p,C,WV,J⟩:=B5 G;subst WV
  have Bdi:∀k p,C[k]?=some p->SQ p=true->X0.pn (i+1+k):=λk L d f=>by
   have:=B (k+1) L (by simpa using d) f;rw[show i+1+k=i+(k+1) by omega];exact this
  have D:∀{q:Cl},(SQ p=true->E3 N i∈q)->(∀k p,C[k]?=some p->SQ p=true->E3 N (i+1+k)∈q)->∀k L,(p::C)[k]?=some L->SQ L=true->E3 N (i+k)∈q:=by
   intro q d f k L x M;cases k with
   |zero=>
    simp only[ya,Option.some.injEq] at x;subst x;exact d M
   |succ k=>
    have:=f k L (by simpa using x) M;rw[show i+1+k=i+(k+1) by omega] at this;exact this
  split at J
  ·rename_i ws;obtain⟨e,he,Hn⟩:=Dh J;split at Hn
   ·rename_i c O;obtain⟨cs,l,z,Tl,Sf,H⟩:=VK h Hn;obtain⟨os,S,T,q,JQ,m,n,Iw,v,U⟩:=DD h g Tl Bdi;refine⟨cs::os,l++S,z++T,E3 N i::q,by rw[yi];exact JQ,?_,?_,?_,D (λ_=>OJ) (λk p d f=>BL _ (v k p d f)),λfz A d f x E own y Q=>?_⟩
    ·intro id Ce;rcases B8.1 Ce with Ce|Ce
     ·exact H.own id Ce
     ·exact m id Ce
    ·intro id Ce;rcases B8.1 Ce with Ce|Ce
     ·exact H.row id Ce
     ·exact n id Ce
    ·intro id Ce;rcases zl.1 Ce with rfl|Ce
     ·rw[O];trivial
     ·exact Iw id Ce
    ·have Aau:=(h.pin i (by have:=B 0 _ rfl rfl;rwa [Zzr] at this)).2
     obtain⟨b,o,G2,_,_⟩:=h.box _ _ O;rw[G2,g] at Aau;refine⟨⟨b,o,Aau.symm,Sf,Ast h O G2 H (λi hi=>d i (by simp[hi])) f E λj hj=>by rw[Q j (by simp;omega),OC hj]⟩,?_⟩
     refine U fz A (λi hi=>d i (by simp[hi])) f (λi hi=>x i (by simp[hi])) E own (y+cs.length) λj hj=>?_;rw[<-H.len,Ld,Q (l.length+j) (by simp;omega),MU]
   ·cases Hn
  ·split at J
   ·rename_i c O;obtain⟨os,S,T,q,JQ,m,n,Iw,v,U⟩:=DD h g J Bdi;refine⟨c::os,S,T,E3 N i::q,JQ,m,n,?_,D (λ_=>OJ) (λk p d f=>BL _ (v k p d f)),λfz A d f x E own y Q=>⟨?_,U fz A d f (λi hi=>x i (by simp[hi])) E own y Q⟩⟩
    ·intro id Ce;rcases zl.1 Ce with rfl|Ce
     ·rw[O];trivial
     ·exact Iw id Ce
    ·have Aau:=(h.pin i (by have:=B 0 _ rfl rfl;rwa [Zzr] at this)).2
     rw[g] at Aau;rcases h.box _ _ O with⟨M,W⟩|⟨b,o,M,W,h6,_⟩
     ·exact .inl ⟨by rw[<-Aau];exact M,W⟩
     ·exact .inr ⟨b,o,by rw[<-Aau];exact M,W.weak (λb _ hb=>V6 (E b hb)),h6 rfl⟩
   ·cases J
  ·rename_i X Z;have V:SQ p=false:=by cases p<;>first|rfl|exact absurd rfl (X _)|exact absurd rfl (Z _)
   obtain⟨os,S,T,q,JQ,m,n,Iw,v,U⟩:=DD h g J Bdi;refine⟨os,S,T,q,JQ,m,n,Iw,D (λe=>by rw[V] at e;cases e) v,λfz A d f x E own y Q=>?_⟩
   have:=U fz A d f x E own y Q;cases p<;>first|exact this|cases V
theorem Anu{f:ResultVar->Sem Value}:∀{rs:List ResultVar}{us:List Value},B4 (λa u=>(f a).run P w=.ok u w) rs us->(rs.mapM f).run P w=.ok us w
 |[],[],_=>Ψ
 |[],_::_,h=>h.elim
 |_::_,[],h=>h.elim
 |a::rs,u::us,h=>by
  rw[List.mapM_cons];simp[h.1,Anu h.2]
theorem Amo(h:B4 (Ahj P a.tmps w) fn.results.toList us):(results fn a.tmps).run P w=.ok (J1 us) w:=by
 unfold results;rw[Array.mapM_eq_mapM_toList];simp only[map_eq_pure_bind,bind_assoc,pure_bind,Sem.run_bind];refine Eq.trans (congrArg (λx=>Result.andThen x _) (Anu h)) ?_;simp only[Result.andThen_ok,Sem.run_pure]
 congr 1
 clear h
 match us with
 |[]=>rfl
 |[u]=>rfl
 |u::v::us=>exact dif_neg Ψ
theorem An5:∀{l:List (Option Nat)},F3 (l.filterMap id)=true->∀{j a i:Nat},l[j]?=some (some i)->l[a]?=some (some i)->j=a
 |[],_,j,a,i,h,_=>by simp at h
 |q::l,c,j,a,i,h,b=>by
  have d:F3 (l.filterMap id)=true:=by
   cases q with
   |none=>exact c
   |some x=>
    simp only[yn,id_eq,F3,Gh] at c;exact c.2
  have f:∀(x k:Nat),q=some x->l[k]?≠some (some x):=by
   intro x k e m;subst e;simp only[yn,id_eq,F3,Gh,qg] at c;exact DX c.1 (v8.2 ⟨some x,zn m,rfl⟩)
  cases j with
  |zero=>
   cases a with
   |zero=>rfl
   |succ g=>
    simp at h b;exact absurd b (f i g h)
  |succ k=>
   cases a with
   |zero=>
    simp at h b;exact absurd h (f i k b)
   |succ g=>
    simp at h b;rw[An5 d h b]
theorem Afn{G:A3}{w:World}{Y:Nat->Prop}{bt:QW}(MK:Ins w Y bt args us){h8:∀k p,args[k]?=some p->SQ p=true->k<8}{s':St}{Q:Act}{w':World}{β':Bt}(hr:Axs C P f fn args s'=some G)(h:D3 fn.ntmps w (Ap1 bt args h8) Y β' s' Q w'):
  Q.defers=[]/\∃v,(results fn Q.tmps).run P w'=.ok v w'/\∃vs own,Ending.returned v=.returned (J1 vs)/\Out w w' Y bt args own G vs:=by
 unfold Axs at hr;obtain⟨vs,l,z,H,R,S,T,hL,hz,hv⟩:=YZ h hr;obtain⟨os,m,E,q,U,V,W,hq,y,Yb⟩:=DD h (bt:=bt) (λ_=>rfl) R (λk p d e=>by rw[I8];exact⟨p,d,e⟩)
 obtain⟨r,X⟩:=Ax U;cases X;simp only[Gh] at r;obtain⟨r,Be8⟩:=r;obtain⟨Z,hn2,A⟩:=N5 r
 have EO:∀i∈z++E,i ∉ (l.filterMap id++m.filterMap id)++q:=by
  intro i hi s;have:=yb.1 Be8 i hi;have e:((l.filterMap id++m.filterMap id)++q).any (Nat.beq i)=true:=zm.2 ⟨i,s,Uz i⟩;rw[e] at this;cases this
 have Axj:Ur s' (z++E):=by
  intro i hi;rcases B8.1 hi with hi|hi
  ·exact hz i hi
  ·exact W i hi
 refine⟨h.dfr,J1 H,Amo S,H,R5 β' (l++m),rfl,?_⟩;have Bpb:F3 ((l++m).filterMap id)=true:=by rw[yi];exact Z
 have N:∀j b o,R5 β' (l++m) j=some (b,o)->∃id,(l++m)[j]?=some (some id)/\β' id=some (b,o):=by
  intro j b o a;unfold R5 at a;cases B:(l++m)[j]? with
  |none=>rw[B] at a;cases a
  |some q=>
   cases q with
   |none=>rw[B] at a;cases a
   |some id=>
    rw[B] at a;exact⟨id,rfl,a⟩
 have Xq:∀(j i:Nat),(l++m)[j]?=some (some i)->i∈l.filterMap id++m.filterMap id:=by
  intro j i a;rw[<-yi];exact v8.2 ⟨some i,zn a,rfl⟩
 have Kc:∀(j i:Nat),(l++m)[j]?=some (some i)->Eo (s'.hp i):=by
  intro j i a;rcases B8.1 (zn a) with s|s
  ·exact hL i s
  ·obtain⟨c,hc⟩:=V i s;rw[hc];trivial
 have Bau:∀i,i∈(l.filterMap id++m.filterMap id)++q->Aj s'.hp (z++E) i=s'.hp i:=by
  intro i hi;rw[Cv,Bd (λs=>EO i s hi)]
 have Bak:∀i b o,bt i 0=some (b,o)->E3 fn.ntmps i∈q/\Eo (s'.hp (E3 fn.ntmps i))/\β' (E3 fn.ntmps i)=some (b,o):=by
  intro i b o g;obtain⟨p,d,e⟩:=MK.l0 i _ g;have n:=y i p d e;rw[I8] at n;exact⟨n,hq _ n,(h.pin i ⟨p,d,e⟩).2.trans g⟩
 have J:∀b,IK bt (R5 β' (l++m)) Y b->Em (Aj s'.hp (z++E)) β' Y b:=by
  rintro b (⟨j,o,a⟩|⟨i,o,g⟩|hY)
  ·obtain⟨id,d,e⟩:=N j b o a;refine .inl ⟨id,o,?_,e⟩;rw[Bau id (B8.2 (.inl (Xq j id d)))];exact Kc j id d
  ·obtain⟨d,e,n⟩:=Bak i b o g;refine .inl ⟨_,o,?_,n⟩;rw[Bau _ (B8.2 (.inr d))];exact e
  ·exact .inr hY
 have ND:∀(j id b o:Nat),(l++m)[j]?=some (some id)->β' id=some (b,o)->b<w.heap.size->∃i k t,bt i (k+1)=some (b,t):=by
  intro j id b o a O Ct;rcases h.ownd b ⟨id,o,Kc j id a,O⟩ with⟨i,k,t,g⟩|K
  ·cases k with
   |zero=>
    obtain⟨d,e,n⟩:=Bak i b t g;have:=h.inj id _ b o t (Kc j id a) e O n;subst this;exact absurd d (A _ (Xq j _ a))
   |succ k=>exact⟨i,k,t,g⟩
  ·omega
 refine⟨h.fr.os,h.fr.tape,h.fr.output,h.fr.step,h.fr.rng,?_,?_,?_,?_⟩
 ·refine hv (z++E) _ _ (λi hi=>B8.2 (.inl hi)) Axj J (λid c b o hi hc O=>?_) _ 0 (λj a=>by rw[I8,OC a]);rcases Kp b w.heap.size with Ct|K
  ·obtain⟨k,P7,p,d,e⟩:=h.stp id c b o hc O Ct;have n:=y k p d e;rw[I8,<-P7] at n;obtain⟨j,a⟩:=zq.1 hi;refine absurd n (A id ?_);exact B8.2 (.inl (v8.2 ⟨some id,hi,rfl⟩))
  ·exact K
 ·refine Yb (z++E) _ (λi hi=>B8.2 (.inr hi)) Axj (λi hi s=>EO i s (B8.2 (.inr hi))) J _ _ (λj a=>?_);rw[<-T,MU]
 ·intro j b o a;obtain⟨id,d,e⟩:=N j b o a;refine⟨h.blt id b o (D9 (Kc j id d)) e,λCt=>⟨ND j id b o d e Ct,λx hx=>?_⟩⟩;cases Tn:s'.hp id with
  |none=>have:=Kc j id d;rw[Tn] at this;exact this.elim
  |some bx=>
   have D:=Kc j id d;rw[Tn] at D;cases bx with
   |st c=>
    obtain⟨k,P7,p,n,h4⟩:=h.stp id c b o Tn e Ct;have h5:=y k p n h4;rw[I8,<-P7] at h5;exact absurd h5 (A _ (Xq j _ d))
   |ar fz c=>exact h.rngB id _ b o Tn D e Ct x hx
   |mv=>exact D.elim
 ·intro j j' b o t a X7;obtain⟨id,d,e⟩:=N j b o a;obtain⟨L,M,h2'⟩:=N j' b t X7;have:=h.inj id L b o t (Kc j id d) (Kc j' L M) e h2';subst this;exact An5 Bpb d M
theorem Ap3(Rv:NoNG P)(o:P.follows .mixedOrders=true){u:Nat}(Fp:∀f args a,F f args=some a->Ep G P f args a){c:Code}(k:P.funcs[f]?=some fn)(g:fn.body=some c){a:A3}(l:Bcc C P u F f fn c args=some a):Ep G P f args a:=by
 refine⟨⟨fn,k,by rw[g];rfl⟩,λw Y bt us MK p d=>?_⟩
 unfold Bcc at l;obtain⟨tms,bs,q,r⟩:=Au3 MK l;obtain⟨i,Hn⟩:=Ax q;simp only[Gh] at i
 have Ev:us.length<=fn.ntmps:=by
  rw[<-MK.args.len];exact Vc i.1
 obtain⟨s,β0,t⟩:=r i.2 Ev;refine calls_of_wp k g ?_;have v:Env P G w (Ap1 bt args s):=⟨Rv,λw' j=>G.stable w w' (λb g Ct=>j.step.keep b Ct (d b g).2) p,d⟩
 refine Are v Fp o c t Hn (λm n w' β' e h=>Afn MK e h) (λid m n w' β' e h=>by cases e) (λm n w' β' e h=>Afn MK e h)
def Aft(G:MD)(P:Program)(C:Lf):Prop:=∀f g args a,C.ext f=some g->g args=some a->Ep G P f args a
theorem L7{G:MD}(Rv:NoNG P)(b:P.follows .mixedOrders=true){C:Lf}(e:Aft G P C){u:Nat}:∀(d:Nat)(f:FuncId)(args:Ae)(a:A3),Ac C P u d f args=some a->Ep G P f args a
 |0,_,_,_,h=>by cases h
 |d+1,f,args,a,h=>by
  unfold Ac at h;split at h
  ·rename_i g i;exact e f g args a i h
  ·split at h
   ·cases h
   ·rename_i l j;split at h
    ·cases h
    ·rename_i c k;exact Ap3 Rv b (L7 Rv b e d) j k h
end
open Go.ChangeShapes Go.WideShapes Go.ChangeAt Go.RowKit Go.Deep
def Aif(P:Program):List Field->Nat->Nat->Bool
 |[],i,n=>Nat.beq i n
 |f::r,i,n=>Nat.beq f.offset i&&Aif P r (i+P.cellsOf f.type) n
def Vd(P:Program):Nat->TypeId->Bool
 |0,_=>false
 |d+1,t=>
  match P.underlying t with
  |some .bool=>true
  |some (.int _)=>true
  |some .string=>true
  |some (.slice e)=>Vd P d e&&jh 0 (P.cellsOf e)
  |some (.struct a)=>Aif P a.toList 0 (P.cellsOf t)&&a.toList.all λf=>Vd P d f.type
  |some (.array n e)=>Nat.beq (P.cellsOf t) (n*P.cellsOf e)&&Vd P d e
  |_=>false
def WT(P:Program):Nat->TypeId->Ae->Prop
 |0,_,_=>False
 |d+1,t,ps=>
  match P.underlying t with
  |some .bool=>∃b,ps=[.sc (.bool b)]
  |some (.int k)=>∃n,ps=[.sc (.int k n)]/\(Lit.int k n).wf=true
  |some .string=>∃s:ByteArray,ps=[.sc (.string s)]/\s.size<=maxLen
  |some (.slice e)=>∃rows:List Ae,ps=[.lst false (P.cellsOf e) rows.length rows.flatten]/\rows.length<=maxLen/\∀r∈rows,r.length=P.cellsOf e/\WT P d e r
  |some (.struct a)=>∃rows:List Ae,ps=rows.flatten/\B4 (λf r=>WT P d f.type r) a.toList rows
  |some (.array n e)=>∃rows:List Ae,ps=rows.flatten/\rows.length=n/\∀r∈rows,r.length=P.cellsOf e/\WT P d e r
  |_=>False
def WTv(P:Program)(t:TypeId)(p:PV):Prop:=
 match C6 P t with
 |true=>∃ps,p=.agg ps/\WT P 12 t ps
 |false=>WT P 12 t [p]
section
variable {P:Program}{d:Nat}{t e:TypeId}{ps:Ae}
theorem A64(a:P.underlying t=some .bool):WT P (d+1) t ps↔∃b,ps=[.sc (.bool b)]:=by show (match P.underlying t with|some .bool=>_|some (.int k)=>_|some .string=>_|some (.slice e)=>_|some (.struct c)=>_|some (.array n e)=>_|_=>_)↔_;rw[a]
theorem Az1(a:P.underlying t=some (.int k)):WT P (d+1) t ps↔∃n,ps=[.sc (.int k n)]/\(Lit.int k n).wf=true:=by show (match P.underlying t with|some .bool=>_|some (.int k)=>_|some .string=>_|some (.slice e)=>_|some (.struct b)=>_|some (.array n e)=>_|_=>_)↔_;rw[a]
theorem Avd(a:P.underlying t=some .string):WT P (d+1) t ps↔∃s:ByteArray,ps=[.sc (.string s)]/\s.size<=maxLen:=by show (match P.underlying t with|some .bool=>_|some (.int k)=>_|some .string=>_|some (.slice e)=>_|some (.struct b)=>_|some (.array n e)=>_|_=>_)↔_;rw[a]
theorem Anh(a:P.underlying t=some (.slice e)):WT P (d+1) t ps↔∃rows:List Ae,ps=[.lst false (P.cellsOf e) rows.length rows.flatten]/\rows.length<=maxLen/\∀r∈rows,r.length=P.cellsOf e/\WT P d e r:=by show (match P.underlying t with|some .bool=>_|some (.int k)=>_|some .string=>_|some (.slice e)=>_|some (.struct b)=>_|some (.array n e)=>_|_=>_)↔_;rw[a]
theorem Avl{a:Array Field}(b:P.underlying t=some (.struct a)):WT P (d+1) t ps↔∃rows:List Ae,ps=rows.flatten/\B4 (λf r=>WT P d f.type r) a.toList rows:=by show (match P.underlying t with|some .bool=>_|some (.int k)=>_|some .string=>_|some (.slice e)=>_|some (.struct a)=>_|some (.array n e)=>_|_=>_)↔_;rw[b]
theorem A20(a:P.underlying t=some (.array n e)):WT P (d+1) t ps↔∃rows:List Ae,ps=rows.flatten/\rows.length=n/\∀r∈rows,r.length=P.cellsOf e/\WT P d e r:=by show (match P.underlying t with|some .bool=>_|some (.int k)=>_|some .string=>_|some (.slice e)=>_|some (.struct b)=>_|some (.array n e)=>_|_=>_)↔_;rw[a]
end
inductive Ki where
 |bool
 |int (k:IntKind)
 |str
 |sl (e:TypeId)
 |st (ts:List TypeId)
 |ar (n:Nat) (e:TypeId)
 |no
def EE(P:Program)(t:TypeId):Ki:=
 match P.underlying t with
 |some .bool=>.bool
 |some (.int k)=>.int k
 |some .string=>.str
 |some (.slice e)=>.sl e
 |some (.struct a)=>.st (a.toList.map (·.type))
 |some (.array n e)=>.ar n e
 |_=>.no
section
variable {P:Program}{d:Nat}{t e:TypeId}{ps:Ae}{p:PV}
theorem B4.cons_inv{α β:Type}{R:α->β->Prop}{a:α}{c:List α}:∀{rs:List β},B4 R (a::c) rs->∃r b,rs=r::b/\R a r/\B4 R c b
 |[],h=>h.elim
 |r::rs,h=>⟨r,rs,rfl,h.1,h.2⟩
theorem B4.nil_inv{α β:Type}{R:α->β->Prop}:∀{rs:List β},B4 R ([]:List α) rs->rs=[]
 |[],_=>rfl
 |_::_,h=>h.elim
theorem A4n(a:EE P t=.int k)(h:WT P d t ps):∃n,ps=[.sc (.int k n)]/\(Lit.int k n).wf=true:=by
 cases d with
 |zero=>exact h.elim
 |succ d=>
 unfold EE at a;split at a<;>first|cases a|skip
 rename_i b;exact (Az1 b).1 h
theorem Bgn(a:EE P t=.sl e)(h:WT P d t ps):∃rows:List Ae,ps=[.lst false (P.cellsOf e) rows.length rows.flatten]/\rows.length<=maxLen/\∀r∈rows,r.length=P.cellsOf e/\WT P (d-1) e r:=by
 cases d with
 |zero=>exact h.elim
 |succ d=>
 rw[Nat.add_sub_cancel];unfold EE at a;split at a<;>first|cases a|skip
 rename_i b;exact (Anh b).1 h
theorem Ar7(a:C6 P t=false)(h:WTv P t p):WT P 12 t [p]:=by unfold WTv at h;rw[a] at h;exact h
theorem A82(a:C6 P t=false)(c:EE P t=.int k)(h:WTv P t p):∃n,p=.sc (.int k n)/\(Lit.int k n).wf=true:=by obtain⟨b,e,h⟩:=A4n c (Ar7 a h);exact⟨b,by injection e,h⟩
theorem VX{α:Type}(f:α->Ae)(Q:α->Prop):∀{rows:List Ae},(∀r∈rows,∃x,r=f x/\Q x)->∃I:List α,rows.flatten=I.flatMap f/\rows.length=I.length/\∀x∈I,Q x
 |[],_=>⟨[],rfl,rfl,Ψ⟩
 |r::rows,h=>by
  obtain⟨x,b,c⟩:=h r Ψ;obtain⟨I,d,e,g⟩:=VX (rows:=rows) f Q λr i=>h r (by simp[i]);refine⟨x::I,by simp[b,d],by simp[e],λy a=>?_⟩;rcases zl.1 a with rfl|a
  ·exact c
  ·exact g y a
end
abbrev No:Nat->Prop:=λ_=>False
section
variable {H:Type}{enc:TypeId × Value->H}{P:Program}{w:World}{base:Nat}{held:Bool}
theorem B4.flat{α β:Type}{R:α->β->Prop}:∀{l:Cl}{f:Nat->List α}{g:Nat->List β},(∀i∈l,B4 R (f i) (g i))->B4 R (l.map f).flatten (l.map g).flatten
 |[],_,_,_=>trivial
 |i::l,f,g,h=>by
  simp only[ER,yo];exact (h i Ψ).app (B4.flat λj a=>h j (by simp[a]))
theorem Avb{a:Addr}(h:w.cell? a=some v):a.spot=none/\a.block<w.heap.size:=by
 unfold World.cell? at h;split at h
 ·rename_i c t f e;refine⟨?_,?_⟩
  ·cases d:a.spot with
   |none=>rfl
   |some x=>rw[d] at h;simp at h
  ·rcases Kp a.block w.heap.size with b|b
   ·exact b
   ·rw[Array.getElem?_eq_none b] at e;cases e
 ·cases h
theorem ZN{α:Type}{g:Nat->List α}{es:Nat}:∀{n:Nat},(∀i,i<n->(g i).length=es)->((za n).map g).flatten.length=n*es
 |0,_=>Ψ
 |n+1,h=>by
  rw[yk,kn,yp,Ru,ZN (λi hi=>h i Ω)];simp[h n Ω,ji]
theorem Aah{a:Addr}{g:Nat->List Value}{es:Nat}:∀{n:Nat},(∀i,i<n->(g i).length=es)->(∀i,i<n->∀k,k<es->w.cell? (a.add (i*es+k))=(g i)[k]?) ->
  ∀j,j<n*es->w.cell? (a.add j)=(((za n).map g).flatten)[j]?
 |0,_,_,j,b=>Ω
 |n+1,c,d,j,b=>by
  have IV:=ZN (λi (hi:i<n)=>c i Ω);rw[yk,kn,yp,List.getElem?_append,IV];rw[ji] at b;split
  ·rename_i e;exact Aah (λi hi=>c i Ω) (λi hi=>d i Ω) j e
  ·rename_i e;have:=d n Ω (j-n*es) Ω;rw[show n*es+(j-n*es)=j by omega] at this
   simpa using this
abbrev TR(w:World)(c:PV)(v:Value):Prop:=(MN c/\A7 w No c v)/\v.oneCell'=true
theorem VE{d:Nat}{cs:List Value}{n:Nat}(e:cs.length=n):∀(l:List Field)(i:Nat),Aif P l i n=true ->
  (∀f∈l,∃ps,WT P d f.type ps/\B4 (TR w) ps ((cs.drop f.offset).take (P.cellsOf f.type)))->∃rows:List Ae,B4 (λf r=>WT P d f.type r) l rows/\B4 (TR w) rows.flatten (cs.drop i)
 |[],i,a,_=>by
  have:=Ed a;refine⟨[],trivial,?_⟩;rw[zb Ω];trivial
 |f::l,i,a,h=>by
  simp only[Aif,Gh] at a;have b:=Ed a.1;obtain⟨ps,j,c⟩:=h f Ψ;obtain⟨rows,k,m⟩:=VE e l _ a.2 λg o=>h g (by simp[o]);refine⟨ps::rows,⟨j,k⟩,?_⟩;rw[b] at c;have:cs.drop i=(cs.drop i).take (P.cellsOf f.type)++cs.drop (i+P.cellsOf f.type):=by rw[<-yq];exact (List.take_append_drop _ _).symm
  rw[this,yo];exact c.app m
theorem YS{d:Nat}{e:TypeId}{cs:List Value}{k:Nat}:∀(n:Nat),n*k<=cs.length ->
  (∀i,i<n->∃ps,(ps.length=k/\WT P d e ps)/\B4 (TR w) ps ((cs.drop (i*k)).take k))->∃rows:List Ae,rows.length=n/\(∀r∈rows,r.length=k/\WT P d e r)/\B4 (TR w) rows.flatten (cs.take (n*k))
 |0,_,_=>⟨[],rfl,Ψ,by simp[B4]⟩
 |n+1,b,h=>by
  rw[ji] at b;obtain⟨rows,c,f,g⟩:=YS n Ω λi hi=>h i Ω;obtain⟨ps,j,l⟩:=h n Ω;refine⟨rows++[ps],by simp[c],?_,?_⟩
  ·intro r a;rcases B8.1 a with a|a
   ·exact f r a
   ·rw[Tx.1 a];exact j
  ·rw[yp,ji,List.take_add];refine g.app ?_
   simpa using l
theorem KJ:∀(d:Nat)(t:TypeId),Vd P d t=true->∀(fuel:Nat)(cs:List Value)(x:DataW H × List MemPlace),DataW.trod enc P w base (λ_=>true) held fuel t cs=some x ->
  ∃ps,WT P d t ps/\B4 (TR w) ps cs
 |0,_,h,_,_,_,_=>by cases h
 |d+1,t,hp,fuel,cs,x,h=>by
  unfold Vd at hp;split at hp
  ·rename_i l;obtain⟨b,rfl,_⟩:=DataW.trod_bool l h;simp only[A64 l];exact⟨[.sc (.bool b)],⟨b,rfl⟩,⟨⟨trivial,A7.sc _⟩,rfl⟩,trivial⟩
  ·rename_i k l;obtain⟨n,rfl,_,N⟩:=DataW.trod_int l h;simp only[Az1 l];exact⟨[.sc (.int k n)],⟨n,rfl,N⟩,⟨⟨trivial,A7.sc _⟩,rfl⟩,trivial⟩
  ·rename_i l;obtain⟨s,rfl,_,N⟩:=DataW.trod_string l h;simp only[Avd l];exact⟨[.sc (.string s)],⟨s,rfl,N⟩,⟨⟨trivial,A7.sc _⟩,rfl⟩,trivial⟩
  ·rename_i e l;simp only[Gh] at hp;have FZ:0<P.cellsOf e:=kw (Vc hp.2);simp only[Anh l];rcases open_slice l h with⟨rfl,_⟩|⟨a,len,cap,m,n,D,Pl,rfl,_,Z,hm,G,_,hi⟩
   ·exact⟨[.lst false (P.cellsOf e) 0 []],⟨[],Ψ,Ψ,Ψ⟩,⟨⟨trivial,A7.lnil _ _⟩,rfl⟩,trivial⟩
   ·simp only[if_true] at G;subst G
    have p:∀i,i<len->∃q:Ae × List Value,(q.2.length=P.cellsOf e/\(∀k,k<P.cellsOf e->w.cell? (a.add (i*P.cellsOf e+k))=q.2[k]?))/\WT P d e q.1/\B4 (TR w) q.1 q.2:=by
     intro i Ct;obtain⟨O,hc,ht⟩:=hi i Ω;obtain⟨_,Sf,Q⟩:=World.cells?_some hc;obtain⟨ps,o,J⟩:=KJ d e hp.1 _ _ _ ht;exact⟨(ps,O),⟨Sf,λk hk=>by rw[<-Pv.add_add];exact Q k hk⟩,o,J⟩
    obtain⟨F,A⟩:=choose_lt p;refine⟨[.lst false (P.cellsOf e) len ((za len).map λi=>(F i).1).flatten],⟨(za len).map λi=>(F i).1,Ψ,by simp;omega,?_⟩,⟨⟨trivial,?_⟩,rfl⟩,trivial⟩
    ·intro r hr;obtain⟨i,R,rfl⟩:=kl.1 hr;have B:=yh.1 R;exact⟨by rw[(A i B).2.2.len];exact (A i B).1.1,(A i B).2.1⟩
    ·rcases Nat.eq_zero_or_pos len with M|M
     ·subst M;exact A7.lemp _ _ _
     ·have X:B4 (TR w) ((za len).map λi=>(F i).1).flatten ((za len).map λi=>(F i).2).flatten:=B4.flat λi hi=>(A i (yh.1 hi)).2.2;have Fc:=Aah (w:=w) (a:=a) (g:=λi=>(F i).2) (λi hi=>(A i hi).1.1) (λi hi=>(A i hi).1.2);have Ev:=ZN (g:=λi=>(F i).2) (λi (hi:i<len)=>(A i hi).1.1)
      have S:w.cell? a≠none:=by
       have:=Fc 0 (gn M FZ);rw[show a.add 0=a by unfold Addr.add;simp] at this
       rw[this,zd (by rw[Ev];exact gn M FZ)]
       simp
      obtain⟨v0,T⟩:=Option.ne_none_iff_exists'.1 S;obtain⟨hs,hb⟩:=Avb T
      have C:∀j c,(((za len).map λi=>(F i).1).flatten)[j]?=some c->∃v,w.cell? (a.add j)=some v/\TR w c v:=by
       intro j c y
       have E:j<len*P.cellsOf e:=by
        rw[<-Ev,<-X.len];rcases Kp j (((za len).map λi=>(F i).1).flatten).length with o|o
        ·exact o
        ·rw[zh o] at y;cases y
       have o:=Fc j E;rw[zd (by rw[Ev];exact E)] at o
       exact⟨_,o,X.at_ y (zd (by rw[Ev];exact E))⟩
      refine A7.lst _ _ _ a _ (λj=>(w.cell? (a.add j)).getD undef) hs hb (λh=>h) Z (λj c y=>?_) (λj c y=>?_) (λj c y=>?_)
      ·obtain⟨v,K,_⟩:=C j c y;rw[K];rfl
      ·obtain⟨v,K,ht⟩:=C j c y;rw[K];exact ht.2
      ·obtain⟨v,K,ht⟩:=C j c y;rw[K];exact ht.1.2
  ·rename_i U l;simp only[Gh] at hp;simp only[Avl l];obtain⟨I,n,_,_,Ev,V,W⟩:=DataW.trod_struct l h
   obtain⟨rows,o,J⟩:=VE (P:=P) (w:=w) (d:=d) Ev U.toList 0 hp.1 λf L=>by
    obtain⟨i,hi⟩:=zq.1 L;have p:U[i]?=some f:=by simpa using hi
    have Ct:i<U.size:=(gz.1 p).1;have z:=W i f p;rw[zd Ω] at z;exact KJ d f.type (yb.1 hp.2 f L) _ _ _ z
   exact⟨_,⟨rows,rfl,o⟩,by simpa using J⟩
  ·rename_i n e l;simp only[Gh] at hp;simp only[A20 l];obtain⟨I,m,_,_,Ev,V,W⟩:=DataW.trod_array l h;have T6:=Ed hp.1
   obtain⟨rows,o,J,z⟩:=YS (P:=P) (w:=w) (d:=d) (e:=e) (cs:=cs) (k:=P.cellsOf e) n Ω λi hi=>by
    have z:=W i hi;rw[zd Ω] at z;obtain⟨ps,h4,Y⟩:=KJ d e hp.2 _ _ _ z;refine⟨ps,⟨?_,h4⟩,Y⟩;rw[Y.len,x7,yr,Ev,T6];have:(i+1)*P.cellsOf e<=n*P.cellsOf e:=ky _ hi;rw[ji] at this;omega
   refine⟨_,⟨rows,rfl,o,J⟩,?_⟩;rw[Gp Ω] at z;exact z
  ·cases hp
theorem A2x{r:Reach}{b0:Nat}{o:DataW H}{p:List MemPlace}(hp:Vd P 12 t=true)(g:Value.okWide P w r b0 t v)(h:DataW.Trod enc P w base (λ_=>true) held t v o p):
  ∃q,WTv P t q/\DO w No q v:=by
 obtain⟨fuel,j⟩:=h;obtain⟨ps,l,f⟩:=KJ 12 t hp fuel _ _ j;unfold WTv C6
 have two:∀{i:Array Value},v=.agg i->∃q,(∃ps,q=.agg ps/\WT P 12 t ps)/\DO w No q v:=by
  intro i e;subst e;exact⟨.agg ps,⟨ps,rfl,l⟩,i.toList,Ψ,f.mono λc v h=>h.1⟩
 have one:v.cells.toList=[v]->∃q,WT P 12 t [q]/\DO w No q v:=by
  intro e;rw[e] at f
  match ps,f with
  |[q],f=>
   refine⟨q,l,?_⟩;have m:=f.1.1;cases q<;>first|exact m|exact m.1.elim
  |[],f=>exact f.elim
  |_::_::_,f=>exact f.2.elim
 unfold Vd at hp;split at hp
 ·rename_i d;simp only[d];obtain⟨b,rfl,_⟩:=open_bool d g ⟨fuel,j⟩;exact one rfl
 ·rename_i k d;simp only[d];obtain⟨b,rfl,_⟩:=open_int d g ⟨fuel,j⟩;exact one rfl
 ·rename_i d;simp only[d];obtain⟨b,rfl,_⟩:=ChangeMaps.open_string d g ⟨fuel,j⟩;exact one rfl
 ·rename_i e d;simp only[d];obtain⟨a,len,cap,rfl⟩:=okWide_slice d g;exact one rfl
 ·rename_i s d;simp only[d];obtain⟨i,rfl,_⟩:=okWide_struct d g;exact two rfl
 ·rename_i n e d;simp only[d];unfold Value.okWide at g;simp only[d] at g;obtain⟨i,rfl,_⟩:=g;exact two rfl
 ·cases hp
theorem Aei:∀{ts:List TypeId}{vs:List Value}{a:List (DataW H)} {p:List MemPlace}{r:Reach}{b0:Nat},(ts.all λt=>Vd P 12 t)=true->(∀(j:Nat) t v,ts[j]?=some t->vs[j]?=some v->Value.okWide P w r b0 t v) ->
  DataW.TrodAll enc P w base (λ_=>true) held ts vs a p->∃b,B4 (WTv P) ts b/\B4 (DO w No) b vs
 |[],[],[],_,_,_,_,_,_=>⟨[],trivial,trivial⟩
 |t::ts,v::vs,d::a,_,r,b0,hp,c,⟨p,q,e,f,_⟩=>by
  simp only[ym,Gh] at hp;obtain⟨x,g,i⟩:=A2x hp.1 (c 0 t v rfl rfl) e;obtain⟨I,k,l⟩:=Aei hp.2 (λj t v ht Yb=>c (j+1) t v ht Yb) f;exact⟨x::I,⟨g,k⟩,i,l⟩
 |[],_::_,_,_,_,_,_,_,h=>by cases h
 |[],[],_::_,_,_,_,_,_,h=>by cases h
 |_::_,[],_,_,_,_,_,_,h=>by cases h
 |_::_,_::_,[],_,_,_,_,_,h=>by cases h
theorem ML(g:laidOutB P=true){W i:World}{j:Nat->Bool}:∀{ts:List TypeId}{vs:List Value}{f:List (DataW H)} {p:List MemPlace},(ts.all λt=>P.readableRec t&&jh t P.types.size)=true ->
  DataW.TrodAll enc P W 0 (λ_=>true) true ts vs f p->(∀x∈p,W.sameAt i x)->(∀x∈p,j x.block=true)->DataW.TrodAll enc P i 0 j true ts vs f p
 |[],[],[],_,_,h,_,_=>h
 |t::ts,v::vs,d::f,_,c,⟨p,q,l,m,e⟩,k,b=>by
  simp only[ym,Gh] at c;refine⟨p,q,WideElems.Trod_stays g c.1.1 (kw (Vc c.1.2)) l (λx a=>k x ?_) (λx a=>b x ?_),ML g c.2 m (λx a=>k x ?_) (λx a=>b x ?_),e⟩
  all_goals rw[e,B8]
  ·exact .inl a
  ·exact .inl a
  ·exact .inr a
  ·exact .inr a
 |[],_::_,_,_,_,h,_,_=>by cases h
 |[],[],_::_,_,_,h,_,_=>by cases h
 |_::_,[],_,_,_,h,_,_=>by cases h
 |_::_,_::_,[],_,_,h,_,_=>by cases h
theorem Adh{f:Func}{apart fresh Ajd again:Bool}{W d:World}{args:Array Value}{e g:List (DataW H)}{before pa pv:List MemPlace}(h:DataW.Whole enc P f.params.toList s.vars apart W args.toList e g before)(Bht:∀(b:Nat)(c:Nat->Bool)(hd:Bool),DataW.TrodAll enc P d b c hd f.resultTypes.toList (v.resultList f.resultTypes.size) (s.fn H (e++g)).results [])(Hw:∀c:Nat->Bool,(∀p∈before,c p.block=true)->DataW.TrodAll enc P d 0 c true f.params.toList args.toList (s.fn H (e++g)).args pa)(Ali:∀c:Nat->Bool,(∀p∈before,c p.block=true)->DataW.TrodVars enc P d c s.vars (s.fn H (e++g)).vars pv)(WV:before=pa++pv)(k:Below W.heap.size W d)(i:∀(j:Nat)(t:TypeId)(r:Value),f.resultTypes[j]?=some t->(v.resultList f.resultTypes.size)[j]?=some r->Value.okWide P d .any 0 t r):
  s.post enc P f apart fresh Ajd again W args v d:=by
 have Ct:∀p∈before,p.block<W.heap.size:=λp hp=>h.lt p hp;have a:∀p∈before,(λb=>decide (b<W.heap.size)) p.block=true:=λp hp=>by simpa using Ct p hp
 refine⟨e,g,before,[],pa,pv,h,Bht _ _ _,Hw _ a,Ali _ a,World.keptBut_mono (λp hp=>⟨hp,?_⟩) (k.frame (· ∈ before)),λ_=>?_⟩
 ·rw[WV,B8] at hp;exact Or.inr hp
 ·obtain⟨_,_,_,_,_,l,m⟩:=h;refine⟨i,_,_,([]++pa)++pv,⟨[]++pa,pv,trodAll_append (Hw _ (λ_ _=>rfl)) (Bht _ _ _),Ali _ (λ_ _=>rfl),rfl,?_,?_⟩,?_⟩
  ·intro b off hp;have MK:MemPlace.cell b off∈before:=by rw[WV];simpa using hp
   rw[k.frozen (Ct _ MK)];exact l b off MK
  ·intro n;have:=m n;rw[WV] at this
   simpa using this
  ·intro p hp _;rw[WV]
   simpa using hp
theorem law_contract(i:Aft G P C)(Rv:NoNG P)(O:P.follows .mixedOrders=true)(Q:laidOutB P=true){tb:TypeId}(R:P.funcs[f]?=some fn)(Ali:s.vars=[])(Bjd:∀c:List (DataW H),c.length=fn.params.size->s.fn H c={ results:=[.lit (.bool true)],args:=c })(Bc8:(fn.params.toList.all λt=>Vd P 12 t)=true)(Bg8:(fn.params.toList.all λt=>P.readableRec t&&jh t P.types.size)=true)(n:fn.resultTypes = #[tb])(o:P.underlying tb=some .bool){apart fresh Ajd again:Bool}(W:World)(base:Nat)(args:Array Value)(c S:List (DataW H))(before:List MemPlace)(r:∀(j:Nat) t v,fn.params[j]?=some t->args[j]?=some v->Value.okWide P W .any base t v)(K:DataW.Whole enc P fn.params.toList s.vars apart W args.toList c S before)(Bqy:∀w:Ae,B4 (WTv P) fn.params.toList w->∃u d,Ac C P u d f w=some ⟨[.sc (.bool true)],[]⟩)(T:G.ok W)(D:∀b,G.bl b->b<W.heap.size):
  Calls P f args W λe A=>∃v,e=.returned v/\s.post enc P fn apart fresh Ajd again W args v A:=by
 have y:=K;obtain⟨p,q,E,L,rfl,EO,U⟩:=K;rw[Ali] at L;obtain⟨rfl,rfl⟩:=trodVars_none L;obtain⟨w,V,J⟩:=Aei Bc8 (λj t v ht g=>r j t v (by simpa using ht) (by simpa using g)) E;obtain⟨u,d,X⟩:=Bqy w V;have M:=(L7 Rv O i d f w _ X).2 W No Ai3 args.toList (YY (λb h=>h.elim) J) T (λb B=>⟨D b B,Yd b⟩);rw[Array.toArray_toList] at M;refine M.mono λe A ⟨vs,own,Y,m⟩=>?_;have g:=m.vals
 have Ox:vs=[.bool true]:=by
  match vs,g with
  |[a],g=>
   have:A7 A _ (.sc (.bool true)) a:=g.1;rw[this.val]
  |[],g=>exact g.elim
  |_::_::_,g=>exact g.2.elim
 subst Ox;subst Y;have B:Below W.heap.size W A:=⟨m.os,m.tape,m.output,m.ext.size,λk Z=>m.ext.keep k Z (Yd k)⟩
 have Ct:∀x∈p,x.block<W.heap.size:=λx i=>y.lt x (by simpa using i)
 have Ev:c.length=fn.params.size:=by
  have:∀{z:List TypeId} {vs:List Value} {c:List (DataW H)} {p:List MemPlace},DataW.TrodAll enc P W 0 (λ_=>true) true z vs c p->c.length=z.length:=by
   intro z
   induction z with
   |nil=>intro vs c p h;cases vs<;>cases c<;>first|rfl|cases h
   |cons t z ih=>
    intro vs c p h;cases vs with
    |nil=>cases h
    |cons v vs=>
     cases c with
     |nil=>cases h
     |cons d c=>obtain⟨_,_,_,J,_⟩:=h;simp[ih J]
  simpa using this E
 have l:=Bjd (c++[]) (by simpa using Ev);refine⟨_,rfl,Adh (pa:=p) (pv:=[]) y ?_ ?_ ?_ rfl B ?_⟩
 ·intro b N hd;rw[l,n];exact trodAll_mk1 (shut_bool o _)
 ·intro N Boo;rw[l];simp only[vy];exact ML Q Bg8 E (λx i=>B.same (Ct x i)) (λx i=>Boo x (by simpa using i))
 ·intro N _;rw[l,Ali];rfl
 ·exact ok_one n rfl (okWide_bool_mk o _)
end
end
section
open Go.Proofs.Tryz (prog)
theorem A58{ps:Ae}{e:TypeId}(b:EE prog t=.sl e)(c:prog.cellsOf e=1)(f:EE prog e=.int k)(h:WT prog d t ps):
  ∃l:Ak,ps=[.lst false 1 l.length (Af k l)]/\l.length<=maxLen/\∀n∈l,(Lit.int k n).wf=true:=by
 obtain⟨rows,rfl,o,g⟩:=Bgn b h;obtain⟨l,i,j,m⟩:=VX (A85 k) (λn=>(Lit.int k n).wf=true) λr a=>A4n f (g r a).2;refine⟨l,?_,Ω,m⟩;rw[i,j,c]
theorem Amm{e:TypeId}(a:C6 prog t=false)(b:EE prog t=.sl e)(c:prog.cellsOf e=1)(d:EE prog e=.int k)(h:WTv prog t p):
  ∃l:Ak,p=.lst false 1 l.length (Af k l)/\l.length<=maxLen/\∀n∈l,(Lit.int k n).wf=true:=by
 have f:=Ar7 (P:=prog) (t:=t) (p:=p) a h;obtain⟨l,g,i,j⟩:=A58 b c d f;exact⟨l,by injection g,i,j⟩
end
instance : Coe Int PV:=⟨λx=>.sc (.int .i64 x)⟩
instance : Coe Bool PV:=⟨λx=>.sc (.bool x)⟩
instance : Coe ByteArray PV:=⟨λx=>.sc (.string x)⟩
abbrev C3(x:Bool):PV:=.sc (.bool x)
abbrev Bg(x:ByteArray):PV:=.sc (.string x)
theorem Ba{x:Int}(a:-9223372036854775808<=x:=by omega)(b:x<=9223372036854775807:=by omega):IntKind.wrap .i64 x=x:=wrap_i64 a b
theorem Cq{x:Int}(a:0<=x:=by omega)(b:x<=18446744073709551615:=by omega):IntKind.wrap .u64 x=x:=Ab7 a b
theorem Bc{x y:Int}(a:-9223372036854775808<=x:=by omega)(b:x<=9223372036854775807:=by omega)(h:x=y:=by omega):IntKind.wrap .i64 x=y:=(wrap_i64 a b).trans h
abbrev Av(x:Int):PV:=.sc (.int .i64 x)
abbrev Ah(x:Int):PV:=.sc (.int .u64 x)
abbrev Am(k n:Nat)(l:Ae):PV:=.lst false k n l
abbrev A9(l:Ae):Option A3:=some ⟨l,[]⟩
abbrev Cn(c:Option A3)(k:PV->Ae->Option A3):Option A3:=Ao c λx y=>Ag y<|Ad x k
abbrev Bu(k:IntKind)(l:Ae)(f:Int->Ae->Option A3):Option A3:=Ad l λx y=>Bi k x λz=>f z y
abbrev Gn(k:IntKind)(c:Option A3)(f:Int->Option A3):Option A3:=Ao c λx y=>Ag y<|Ad x λz t=>Bi k z λu=>Ag t<|f u
abbrev Hd(k:Nat)(l:Ae)(f:Nat->Ae->Ae->Option A3):Option A3:=Ad l λx y=>Y9 k x λ_ n c=>f n c y
abbrev ZzO(k:Nat)(l:Ae)(f:Nat->Ae->Ae->Option A3):Option A3:=Ad l λx y=>K5 k x λn c=>f n c y
abbrev Qa(l:Ae)(f:Bool->Option A3):Option A3:=Ad l λx y=>Bh x λz=>Ag y<|f z
abbrev Bq(k:IntKind)(l:Ae)(f:Int->Option A3):Option A3:=Ad l λx y=>Bi k x λz=>Ag y<|f z
abbrev XN(n k m:Nat)(l e:Ae)(f:Nat->Ae->Option A3):Option A3:=As (decide (n*k<=l.length)&&true&&decide ((n+1)*m<=1099511627776)&&decide (n+1<=1099511627776))<|f (n+1) (yt (n*k) l++e)
abbrev Hq(u:Nat)(F:An)(i:FuncId)(f:Func):=Bgr CB prog u F i f (Bdb f)
inductive ZzQ:Bool->Bool->Prop
|t:ZzQ true true
|f:ZzQ false false
theorem H7{R:Type}{c:Bool}{x y r:Option R}(h:ZzQ b c)(k:(match (generalizing:=false) c with|true=>x|false=>y)=r):Ap b x y=r:=by cases h<;>exact k
theorem H9:type_of% gT/\type_of% gF/\type_of% @qa/\type_of% @qb/\type_of% @decide_eq_true/\type_of% @decide_eq_false/\type_of% @decide_true/\type_of% @decide_false:=⟨gT,gF,@qa,@qb,@decide_eq_true,@decide_eq_false,@decide_true,@decide_false⟩
theorem Ar(n k m:Nat)(l e:Ae)(f:Nat->Ae->Option A3):XN n k m l e f=(As (decide (n*k<=l.length)&&true&&decide ((n+1)*m<=1099511627776)&&decide (n+1<=1099511627776))<|f (n+1) (yt (n*k) l++e)):=by exact id rfl
abbrev Z5(C:Lf)(u d:Nat)(F:FuncId)(l:Ae)(b:An->Option A3):Prop:=Ac C prog u (d+1) F l=b (Ac C prog u d)
section
variable {I:FuncId->Option (Ae->Option A3)}(u d:Nat)(F:An)
theorem LJ(Z Y:Int):Z5 (CX I) u d 174 [Ah Z,Y] λF=>Aa (wrap .u64 Y) λa=>Aa (C8 .u64 a 63) λa=>As (decide (0<=a))<|Aa (Dv .u64 Z a) λb=>Aa (wrap .u64 (64-a)) λa=>As (decide (0<=a))<|Aa (E4 .u64 Z a) λa=>Aa (Vm .u64 b a) λa=>A9 [Ah a]:=Φ
def J6(Z:Nat)(Y:Ae)(X W V:Nat)(U:Ae)(T S:Int)(Q:Ae):Option A3:=Hq u F 98 Tryz.f98 [Am 1 Z Y] [.r,.r,.l,.r,.l] X ⟨lk [(3,.view 3 1 0 W),(11,Am 1 V U),(12,T),(13,S)],Fb [(3,.ar false Q)]⟩
def Ns(Z:Nat)(Y:Ae)(X W V:Nat)(U:Int)(T:Nat)(S:Ae)(Q P O:Int)(N:Ae):Option A3:=Hq u F 98 Tryz.f98 [Am 1 Z Y] [.r,.r,.l,.r,.l,.i X,.r,.r,.l,.l,.r,.r,.l] W ⟨lk [(3,.view 3 1 0 V),(5,Ah U),(11,Am 1 T S),(12,Q),(13,P),(17,O)],Fb [(3,.ar false N)]⟩
theorem Yr(T:Nat)(S:Ae)(Q Y W:Nat)(V:Ae)(U Z:Int)(X:Ae):J6 u F T S (Q+1) Y W V U Z X=(Ap (decide (Z<U)) (As (decide (0<=Z)&&decide (Z<(↑W:Int)))<|Bi .u64 (V.getD (Z.toNat*1) .top) λa=>Ns u F T S Q u Y a W V U Z 0 X) (As (decide (Y*1<=X.length))<|A9 [.own 1 Y (X.take (Y*1))])):=Κ
theorem Yj(Y:Nat)(X:Ae)(W N V:Nat)(U:Int)(T:Nat)(S:Ae)(Q P Z:Int)(O:Ae):Ns u F Y X W (N+1) V U T S Q P Z O=(Ap (decide (Z<8)) (Aa (wrap .i64 (8*Z)) λa=>Aa (wrap .i64 (56-a)) λa=>As (decide (0<=a))<|Aa (E4 .u64 U a) λa=>Aa (wrap .u8 a) λa=>XN V 1 1 O [.sc (.int .u8 a)] λa b=>Aa (wrap .i64 (Z+1)) λc=>Ns u F Y X W N a U T S Q P c b) (Aa (wrap .i64 (P+1)) λa=>J6 u F Y X W V T S Q a O)):=Κ
theorem ZS(Z:Nat)(Y:Ae):Z5 (CX I) u d 98 [Am 1 Z Y] λF=>Aa (wrap .i64 (8*(↑Z:Int))) λa=>As (decide (0<=a)&&decide (a*1<=1099511627776)&&decide (a<=1099511627776))<|J6 u F Z Y u 0 Z Y (↑Z:Int) 0 ([]):=Φ
def Mh(Z:Nat)(Y:Ae)(X:Nat)(W:Int)(V:Nat)(U:Ae)(T S:Int):Option A3:=Hq u F 152 Tryz.f152 [Am 1 Z Y] [.r,.r,.l,.r,.l] X ⟨lk [(3,Ah W),(6,Am 1 V U),(7,T),(8,S)],Fb []⟩
theorem V0(U:Nat)(T:Ae)(S:Nat)(Y:Int)(X:Nat)(W:Ae)(V Z:Int):Mh u F U T (S+1) Y X W V Z=(Ap (decide (Z<V)) (As (decide (0<=Z)&&decide (Z<(↑X:Int)))<|Bi .u8 (W.getD (Z.toNat*1) .top) λa=>Aa (wrap .u64 a) λa=>Aa (wrap .i64 (8*Z)) λb=>As (decide (0<=b))<|Aa (Dv .u64 a b) λa=>Aa (Vm .u64 Y a) λa=>Aa (wrap .i64 (Z+1)) λb=>Mh u F U T S a X W V b) (A9 [Ah Y])):=Κ
theorem WX(Z:Nat)(Y:Ae):Z5 (CX I) u d 152 [Am 1 Z Y] λF=>Mh u F Z Y u 0 Z Y (↑Z:Int) 0:=Φ
def Hb(Z Y:Int)(X W V:Int)(U:Nat)(T S:Int)(Q P:Int)(O N:Int):Option A3:=Hq u F 153 Tryz.f153 [.pbox [Ah Z,Ah Y,Ah X,Ah W],V] [.r,.l] U ⟨lk [(0,.ptr 288000 0),(4,T),(5,S)],Fb [(288000,.st [Ah Q,Ah P,Ah O,Ah N])]⟩
theorem M8(T S:Int)(Q P O:Int)(N:Nat)(X W:Int)(V Z:Int)(U Y:Int):Hb u F T S Q P O (N+1) X W V Z U Y=(Ap (decide (W<X)) (Aa (wrap .u64 (V+Z)) λa=>Gn .u64 (F 174 [Ah Z,(13:Int)]) λb=>Aa (Fh .u64 b a) λb=>Gn .u64 (F 174 [Ah a,(32:Int)]) λa=>Aa (wrap .u64 (U+Y)) λc=>Gn .u64 (F 174 [Ah Y,(16:Int)]) λe=>Aa (Fh .u64 e c) λe=>Aa (wrap .u64 (a+e)) λa=>Gn .u64 (F 174 [Ah e,(21:Int)]) λe=>Aa (Fh .u64 e a) λe=>Aa (wrap .u64 (c+b)) λc=>Gn .u64 (F 174 [Ah b,(17:Int)]) λb=>Aa (Fh .u64 b c) λb=>Gn .u64 (F 174 [Ah c,(32:Int)]) λc=>Aa (wrap .i64 (W+1)) λf=>Hb u F T S Q P O N X f a b c e) (some ⟨[],[[Ah V,Ah Z,Ah U,Ah Y]]⟩)):=Κ
theorem EV(Z Y:Int)(X W V:Int):Z5 (CX I) u d 153 [.pbox [Ah Z,Ah Y,Ah X,Ah W],V] λF=>Hb u F Z Y X W V u V 0 Z Y X (W):=Φ
theorem FK(Y X:Int)(W V Z:Int):Z5 (CX I) u d 151 [.pbox [Ah Y,Ah X,Ah W,Ah V],Ah Z] λF=>Aa (Fh .u64 V Z) λa=>Ao (F 153 [.pbox [Ah Y,Ah X,Ah W,Ah a],(2:Int)]) λa b=>Ag a<|Ad b λa b=>Bu .u64 a λa c=>Bu .u64 c λc e=>Bu .u64 e λe f=>Bq .u64 f λf=>Ag b<|Aa (Fh .u64 a Z) λa=>some ⟨[],[[Ah a,Ah c,Ah e,Ah f]]⟩:=Φ
def Nj(Z Y:Int)(X:Nat)(W:Ae)(V U:Nat)(T:Ae)(S Q:Int)(P O:Int)(N M L:Int):Option A3:=Hq u F 129 Tryz.f129 [Ah Z,Ah Y,Am 1 X W] [.r,.r,.r,.l,.r,.l] V ⟨lk [(2,Am 1 U T),(7,.ptr 7 0),(8,S),(22,Q),(23,P)],Fb [(7,.st [Ah O,Ah N,Ah M,Ah L])]⟩
theorem EJ(P O:Int)(N:Nat)(M:Ae)(L Z:Nat)(X:Ae)(W V:Int)(Y U:Int)(T S Q:Int):Nj u F P O N M (L+1) Z X W V Y U T S Q=((λg:PV=>Ap (decide (Y<V)) (Aa (wrap .i64 (8*Y)) λa=>Aa (wrap .i64 (8*Y)) λb=>Aa (wrap .i64 (b+8)) λb=>As (decide (0<=a))<|As (decide (0<=b))<|As (decide (a.toNat<=b.toNat)&&decide (b.toNat<=Z))<|Aa (b.toNat-a.toNat) λb=>Aa (yt (b*1) (X.drop (a.toNat*1))) λa=>Gn .u64 (F 152 [Am 1 b a]) λa=>Ao (F 151 [g,Ah a]) λa b=>Ag a<|Ad b λa b=>Bu .u64 a λa c=>Bu .u64 c λc e=>Bu .u64 e λe f=>Bq .u64 f λf=>Ag b<|Aa (wrap .i64 (Y+1)) λb=>Nj u F P O N M L Z X W V b a c e f) (Aa (wrap .i64 (8*W)) λa=>As (decide (0<=a))<|As (decide (a.toNat<=Z)&&decide (Z<=Z))<|Aa (Z-a.toNat) λb=>Aa (yt (b*1) (X.drop (a.toNat*1))) λa=>Gn .u64 (F 152 [Am 1 b a]) λa=>Aa (wrap .u64 (↑Z:Int)) λb=>Aa (Dv .u64 b 56) λb=>Aa (Vm .u64 a b) λa=>Ao (F 151 [g,Ah a]) λa b=>Ag a<|Ad b λa b=>Bu .u64 a λa c=>Bu .u64 c λc e=>Bu .u64 e λe f=>Bq .u64 f λf=>Ag b<|Aa (Fh .u64 e 255) λb=>Ao (F 153 [.pbox [Ah a,Ah c,Ah b,Ah f],(4:Int)]) λa b=>Ag a<|Ad b λa b=>Bu .u64 a λa c=>Bu .u64 c λc e=>Bu .u64 e λe f=>Bq .u64 f λf=>Ag b<|Aa (Fh .u64 a c) λa=>Aa (Fh .u64 a e) λa=>Aa (Fh .u64 a f) λa=>A9 [Ah a])) (.pbox [Ah U,Ah T,Ah S,Ah Q])):=Κ
theorem Aiw(Z Y:Int)(X:Nat)(W:Ae):Z5 (CX I) u d 129 [Ah Z,Ah Y,Am 1 X W] λF=>Aa (Fh .u64 Z 8317987319222330741) λa=>Aa (Fh .u64 Y 7237128888997146477) λb=>Aa (Fh .u64 Z 7816392313619706465) λc=>Aa (Fh .u64 Y 8387220255154660723) λe=>Aa (wrap .i64 (Int.tdiv (↑X:Int) 8)) λf=>Nj u F Z Y X W u X W f f 0 a b c e:=Φ
theorem Adf(Z:Int)(Y:Nat)(X:Ae):Z5 (CX I) u d 93 [Z,Am 1 Y X] λF=>Aa (wrap .u64 Z) λa=>Gn .u64 (F 129 [Ah a,Ah 0,Am 1 Y X]) λa=>A9 [Ah a]:=Φ
theorem OE(Y Z:Int):Z5 (CX I) u d 144 [Ah Y,Ah Z] λF=>As (decide (0<=Z))<|Aa (Dv .u64 Y Z) λa=>Aa (wrap .u64 (64-Z)) λb=>As (decide (0<=b))<|Aa (E4 .u64 Y b) λb=>Aa (Vm .u64 a b) λa=>A9 [Ah a]:=Φ
theorem LR(X Z:Int)(W Y:Int):Z5 (CX I) u d 115 [.agg [Ah X,Ah Z,Ah W,Ah Y]] λF=>Aa (wrap .u64 (X+Z)) λa=>Gn .u64 (F 144 [Ah Z,Ah 13]) λb=>Aa (Fh .u64 b a) λb=>Gn .u64 (F 144 [Ah a,Ah 32]) λa=>Aa (wrap .u64 (W+Y)) λc=>Gn .u64 (F 144 [Ah Y,Ah 16]) λe=>Aa (Fh .u64 e c) λe=>Aa (wrap .u64 (a+e)) λa=>Gn .u64 (F 144 [Ah e,Ah 21]) λe=>Aa (Fh .u64 e a) λe=>Aa (wrap .u64 (c+b)) λc=>Gn .u64 (F 144 [Ah b,Ah 17]) λb=>Aa (Fh .u64 b c) λb=>Gn .u64 (F 144 [Ah c,Ah 32]) λc=>A9 [.agg [Ah a,Ah b,Ah c,Ah e]]:=Φ
def Hu(Z Y:Int)(X:Nat)(W:Ae)(V U:Nat)(T:Ae)(S:Int)(Q:Ae):Option A3:=Hq u F 70 Tryz.f70 [Ah Z,Ah Y,Am 1 X W] [.r,.r,.l,.r,.l] V ⟨lk [(2,Am 1 U T),(7,.ptr 7 0),(8,S)],Fb [(7,.ar false Q)]⟩
def Gk(Z Y:Int)(X:Nat)(W:Ae)(V U T:Nat)(S:Ae)(Q P O:Int)(N:Ae):Option A3:=Hq u F 70 Tryz.f70 [Ah Z,Ah Y,Am 1 X W] [.r,.r,.l,.r,.l,.i V,.r,.l,.l,.r,.l,.r,.l] U ⟨lk [(2,Am 1 T S),(7,.ptr 7 0),(8,Q),(9,Ah P),(10,O)],Fb [(7,.ar false N)]⟩
theorem S8(W V:Int)(U:Nat)(T:Ae)(S Y:Nat)(Q:Ae)(X:Int)(Z:Ae):Hu u F W V U T (S+1) Y Q X Z=(Ap (decide (X<=(↑Y:Int))) (Gk u F W V U T S u Y Q X 0 7 Z) (Bi .u64 (Z.getD 2 .top) λa=>Aa (Fh .u64 a 255) λa=>As (decide (3<=Z.length))<|Aa (B9 Z [Ah a] 2) λa=>Bi .u64 (a.getD 0 .top) λb=>Bi .u64 (a.getD 1 .top) λc=>Bi .u64 (a.getD 2 .top) λe=>Bi .u64 (a.getD 3 .top) λf=>Cn (F 115 [.agg [Ah b,Ah c,Ah e,Ah f]]) λb c=>Cr b λb=>Bu .u64 b λb e=>Bu .u64 e λe f=>Bu .u64 f λf g=>Bq .u64 g λg=>Ag c<|Cn (F 115 [.agg [Ah b,Ah e,Ah f,Ah g]]) λb c=>Cr b λb=>Bu .u64 b λb e=>Bu .u64 e λe f=>Bu .u64 f λf g=>Bq .u64 g λg=>Ag c<|Cn (F 115 [.agg [Ah b,Ah e,Ah f,Ah g]]) λb c=>Cr b λb=>Bu .u64 b λb e=>Bu .u64 e λe f=>Bu .u64 f λf g=>Bq .u64 g λg=>Ag c<|Cn (F 115 [.agg [Ah b,Ah e,Ah f,Ah g]]) λb c=>Cr b λb=>Bu .u64 b λb e=>Bu .u64 e λe f=>Bu .u64 f λf g=>Bq .u64 g λg=>Ag c<|As (decide (4<=a.length))<|Aa (B9 a [Ah b,Ah e,Ah f,Ah g] 0) λa=>Bi .u64 (a.getD 0 .top) λb=>Bi .u64 (a.getD 1 .top) λc=>Aa (Fh .u64 b c) λb=>Bi .u64 (a.getD 2 .top) λc=>Aa (Fh .u64 b c) λb=>Bi .u64 (a.getD 3 .top) λa=>Aa (Fh .u64 b a) λa=>A9 [Ah a])):=Κ
theorem S4(T S:Int)(Q:Nat)(P:Ae)(O N Z:Nat)(V:Ae)(X U Y:Int)(W:Ae):Gk u F T S Q P O (N+1) Z V X U Y W=(Ap (decide (Y>=0)) (Aa (wrap .i64 (X+Y)) λa=>Ap (decide (a<(↑Z:Int))) (Aa (wrap .i64 (X+Y)) λa=>As (decide (0<=a)&&decide (a<(↑Z:Int)))<|Bi .u8 (V.getD (a.toNat*1) .top) λa=>Aa (Dv .u64 U 8) λb=>Aa (wrap .u64 a) λa=>Aa (Vm .u64 b a) λa=>Aa (wrap .i64 (Y-1)) λb=>Gk u F T S Q P O N Z V X a b W) (Ap (Y==7) (Aa (wrap .u8 (↑Z:Int)) λa=>Aa (Dv .u64 U 8) λb=>Aa (wrap .u64 a) λa=>Aa (Vm .u64 b a) λa=>Aa (wrap .i64 (Y-1)) λb=>Gk u F T S Q P O N Z V X a b W) (Aa (Dv .u64 U 8) λa=>Aa (Vm .u64 a 0) λa=>Aa (wrap .i64 (Y-1)) λb=>Gk u F T S Q P O N Z V X a b W))) (Bi .u64 (W.getD 3 .top) λa=>Aa (Fh .u64 a U) λa=>As (decide (4<=W.length))<|Aa (B9 W [Ah a] 3) λa=>Bi .u64 (a.getD 0 .top) λb=>Bi .u64 (a.getD 1 .top) λc=>Bi .u64 (a.getD 2 .top) λe=>Bi .u64 (a.getD 3 .top) λf=>Cn (F 115 [.agg [Ah b,Ah c,Ah e,Ah f]]) λb c=>Cr b λb=>Bu .u64 b λb e=>Bu .u64 e λe f=>Bu .u64 f λf g=>Bq .u64 g λg=>Ag c<|Cn (F 115 [.agg [Ah b,Ah e,Ah f,Ah g]]) λb c=>Cr b λb=>Bu .u64 b λb e=>Bu .u64 e λe f=>Bu .u64 f λf g=>Bq .u64 g λg=>Ag c<|As (decide (4<=a.length))<|Aa (B9 a [Ah b,Ah e,Ah f,Ah g] 0) λa=>Bi .u64 (a.getD 0 .top) λb=>Aa (Fh .u64 b U) λb=>As (decide (1<=a.length))<|Aa (B9 a [Ah b] 0) λa=>Aa (wrap .i64 (X+8)) λb=>Hu u F T S Q P O Z V b a)):=Κ
theorem PT(Z Y:Int)(X:Nat)(W:Ae):Z5 (CX I) u d 70 [Ah Z,Ah Y,Am 1 X W] λF=>Aa (Fh .u64 Z 8317987319222330741) λa=>Aa (Fh .u64 Y 7237128888997146477) λb=>Aa (Fh .u64 Z 7816392313619706465) λc=>Aa (Fh .u64 Y 8387220255154660723) λe=>Hu u F Z Y X W u X W 0 ([Ah a,Ah b,Ah c,Ah e]):=Φ
theorem MT(Z:Int)(Y:Nat)(X:Ae):Z5 (CX I) u d 45 [Z,Am 1 Y X] λF=>Aa (wrap .u64 Z) λa=>Gn .u64 (F 70 [Ah a,Ah 0,Am 1 Y X]) λa=>A9 [Ah a]:=Φ
theorem PY(Z Y:Int)(X:Nat)(W:Ae):Z5 (CX I) u d 39 [Ah Z,Y,Am 1 X W] λF=>Aa (wrap .u64 Y) λa=>Aa (wrap .u64 (1+a)) λa=>Gn .u64 (F 70 [Ah Z,Ah a,Am 1 X W]) λa=>A9 [Ah a]:=Φ
def Gy(Z:Nat)(Y:Ae)(X W:Nat)(V:Ae)(U:Nat)(T:Int)(S:Ae):Option A3:=Hq u F 38 Tryz.f38 [Am 1 Z Y] [.r,.r,.l,.r,.l] X ⟨lk [(0,Am 1 W V),(3,.view 3 1 0 U),(4,T)],Fb [(3,.ar false S)]⟩
def Id(Z:Nat)(Y:Ae)(X W V:Nat)(U:Ae)(T:Nat)(S Q:Int)(P:Ae):Option A3:=Hq u F 38 Tryz.f38 [Am 1 Z Y] [.r,.r,.l,.r,.l,.i X,.r,.l,.l,.r,.l] W ⟨lk [(0,Am 1 V U),(3,.view 3 1 0 T),(4,S),(5,Q)],Fb [(3,.ar false P)]⟩
theorem Pu(V:Nat)(U:Ae)(T X:Nat)(S:Ae)(Z:Nat)(W:Int)(Y:Ae):Gy u F V U (T+1) X S Z W Y=(Ap (decide (W<(↑X:Int))) (Id u F V U T u X S Z W 7 Y) (As (decide (Z*1<=Y.length))<|A9 [.own 1 Z (Y.take (Z*1))])):=Κ
theorem Pk(V:Nat)(U:Ae)(T P Y:Nat)(X:Ae)(S:Nat)(Z W:Int)(Q:Ae):Id u F V U T (P+1) Y X S Z W Q=(Ap (decide (W>=0)) (As (decide (0<=Z)&&decide (Z<(↑Y:Int)))<|Bi .u64 (X.getD (Z.toNat*1) .top) λa=>Aa (wrap .i64 (8*W)) λb=>Aa (wrap .u64 b) λb=>As (decide (0<=b))<|Aa (E4 .u64 a b) λa=>Aa (wrap .u8 a) λa=>XN S 1 1 Q [.sc (.int .u8 a)] λa b=>Aa (wrap .i64 (W-1)) λc=>Id u F V U T P Y X a Z c b) (Aa (wrap .i64 (Z+1)) λa=>Gy u F V U T Y X S a Q)):=Κ
theorem LN(Z:Nat)(Y:Ae):Z5 (CX I) u d 38 [Am 1 Z Y] λF=>Gy u F Z Y u Z Y 0 0 ([]):=Φ
def I2(Z:Nat)(Y:Ae)(X W:Nat)(V:Ae)(U T:Int):Option A3:=Hq u F 109 Tryz.f109 [Am 1 Z Y] [.r,.r,.l,.r,.l] X ⟨lk [(0,Am 1 W V),(3,Ah U),(4,T)],Fb []⟩
theorem Qe(V:Nat)(U:Ae)(T Y:Nat)(W:Ae)(X Z:Int):I2 u F V U (T+1) Y W X Z=(Ap (decide (Z<8)) (Ap (decide (Z<(↑Y:Int))) (Aa (Dv .u64 X 8) λa=>As (decide (0<=Z)&&decide (Z<(↑Y:Int)))<|Bi .u8 (W.getD (Z.toNat*1) .top) λb=>Aa (wrap .u64 b) λb=>Aa (Vm .u64 a b) λa=>Aa (wrap .i64 (Z+1)) λb=>I2 u F V U T Y W a b) (A9 [Ah X])) (A9 [Ah X])):=Κ
theorem MY(Z:Nat)(Y:Ae):Z5 (CX I) u d 109 [Am 1 Z Y] λF=>I2 u F Z Y u Z Y 0 0:=Φ
end
def rot(x k:Int):Int:=Vm .u64 (Dv .u64 x k) (E4 .u64 x (64-k))
structure W4 where
 a:Int
 b:Int
 c:Int
 d:Int
def W4.cells(v:W4):Ae:=[Ah v.a,Ah v.b,Ah v.c,Ah v.d]
def Bqc(v:W4):W4:=⟨rot (wrap .u64 (v.a+v.b)) 32,Fh .u64 (rot v.b 13) (wrap .u64 (v.a+v.b)),wrap .u64 (v.c+v.d),Fh .u64 (rot v.d 16) (wrap .u64 (v.c+v.d))⟩
def Bqd(v:W4):W4:=⟨wrap .u64 (v.a+v.d),Fh .u64 (rot v.b 17) (wrap .u64 (v.c+v.b)),rot (wrap .u64 (v.c+v.b)) 32,Fh .u64 (rot v.d 21) (wrap .u64 (v.a+v.d))⟩
def rnd(v:W4):W4:=Bqd (Bqc v)
def Arv:Nat->W4->W4
 |0,v=>v
 |n+1,v=>Arv n (rnd v)
def Bkq(r:W4)(m:Int):W4:=⟨Fh .u64 r.a m,r.b,r.c,r.d⟩
def BZ(v:W4)(m:Int):W4:=Bkq (Arv 2 ⟨v.a,v.b,v.c,Fh .u64 v.d m⟩) m
def BP:Ak->Int
 |[]=>0
 |b::r=>b+256*BP r
def Ac6:Nat->W4->Ak->W4
 |0,v,_=>v
 |n+1,v,l=>Ac6 n (BZ v (BP (l.take 8))) (l.drop 8)
def Bdk(a k1:Int):W4:=⟨Fh .u64 a 8317987319222330741,Fh .u64 k1 7237128888997146477,Fh .u64 a 7816392313619706465,Fh .u64 k1 8387220255154660723⟩
def Au0(v:W4):W4:=Arv 4 ⟨v.a,v.b,Fh .u64 v.c 255,v.d⟩
def Av2(v:W4):Int:=Fh .u64 (Fh .u64 (Fh .u64 v.a v.b) v.c) v.d
def Um(l:Ak):Int:=BP (l.drop (8*(l.length / 8)))+72057594037927936*((l.length:Int) % 256)
def A65(a k1:Int)(l:Ak):Int:=Av2 (Au0 (BZ (Ac6 (l.length / 8) (Bdk a k1) l) (Um l)))
def Fk(dom:Int)(l:Ak):Int:=A65 (wrap .u64 dom) 0 l
def A6s(key dom:Int)(l:Ak):Int:=A65 key (wrap .u64 (1+wrap .u64 dom)) l
def Ch(l:Ak):Prop:=∀b∈l,0<=b/\b<=255
theorem CL:∀{l:Ak},Ch l->0<=BP l/\BP l<256 ^ l.length
 |[],_=>by simp[BP]
 |b::r,h=>by
  have c:=h b Ψ;have d:=CL (l:=r) λx a=>h x (by simp[a]);have e:(256:Int) ^ (b::r).length=256 ^ r.length*256:=by rw[M9,g5]
  simp only[BP];omega
theorem OA:∀(l r:Ak),BP (l++r)=BP l+256 ^ l.length*BP r
 |[],r=>by simp[BP]
 |b::l,r=>by
  have a:=OA l r;simp only[Zzp,BP,M9,g5];rw[a,Int.mul_add];have:(256:Int)*(256 ^ l.length*BP r)=256 ^ l.length*256*BP r:=by rw[<-g6,g7 256]
  omega
theorem KD{a c:Int}(k b:Nat)(g:0<=a)(o:a<((2 ^ k:Nat):Int))(i:c=((b*2 ^ k:Nat):Int))(h:a+c<=18446744073709551615):Vm .u64 a c=a+c/\Vm .u64 c a=a+c:=by
 obtain⟨n,rfl⟩:=g8 g;subst i;have j:n<2 ^ k:=Ω
 generalize l:b*2 ^ k=m at h
 have d:(zx 64 (n:Int)).toNat=n:=by
  rw[we];omega
 have e:(zx 64 (m:Int)).toNat=m:=by
  rw[we];omega
 have f:m ||| n=m+n:=by
  have:=gp j b;rw[gq,l] at this;exact this.symm
 constructor
 ·show wrap .u64 ((zx 64 (n:Int) ||| zx 64 (m:Int)).toNat:Int)=_;rw[wg,d,e,Nat.or_comm,f,Cq];omega
 ·show wrap .u64 ((zx 64 (m:Int) ||| zx 64 (n:Int)).toNat:Int)=_;rw[wg,d,e,f,Cq];omega
theorem RK{a k:Int}(b:0<=a)(d:0<=k)(f:k<=64)(h:a*((2 ^ k.toNat:Nat):Int)<=18446744073709551615):Dv .u64 a k=a*((2 ^ k.toNat:Nat):Int):=by
 show wrap .u64 (a*2 ^ (min k.toNat IntKind.u64.bits))=_;have e:min k.toNat IntKind.u64.bits=k.toNat:=va (by show k.toNat<=64;omega)
 have c:(2:Int) ^ k.toNat=((2 ^ k.toNat:Nat):Int):=Ψ
 rw[e,c,Ab7 (Int.mul_nonneg b (Int.natCast_nonneg _)) h]
section
variable {u d:Nat}{I:FuncId->Option (Ae->Option A3)}
theorem Azm{x k:Int}(a:k=13\/k=16\/k=17\/k=21\/k=32):Ac (CX I) prog u (d+1) 174 [Ah x,Av k]=some ⟨[Ah (rot x k)],[]⟩:=by rw[LJ];rcases a with rfl|rfl|rfl|rfl|rfl<;>kernel_rfl
theorem A4b{x k:Int}(a:k=13\/k=16\/k=17\/k=21\/k=32):Ac (CX I) prog u (d+1) 144 [Ah x,Ah k]=some ⟨[Ah (rot x k)],[]⟩:=by rw[OE];rcases a with rfl|rfl|rfl|rfl|rfl<;>kernel_rfl
theorem VV{a0 a1 a2 a3 a4:Int}:∀(k i nn:Nat)(v:W4),k<nn->i+k<=100 ->
  Hb u (Ac (CX I) prog u (d+1)) a0 a1 a2 a3 a4 nn ((i+k:Nat):Int) i v.a v.b v.c v.d=some ⟨[],[(Arv k v).cells]⟩
 |_,_,0,_,h,_=>Ω
 |0,i,nn+1,v,h,hi=>by
  rw[M8,Fn _ _ _ Ω];rfl
 |k+1,i,nn+1,v,h,hi=>by
  have g:=VV (a0:=a0) (a1:=a1) (a2:=a2) (a3:=a3) (a4:=a4) k (i+1) nn (rnd v) Ω Ω;have w:wrap .i64 ((i:Int)+1)=((i+1:Nat):Int):=Bc
  have a:=λx=>Azm (I:=I) (u:=u) (d:=d) (x:=x) (k:=13) Ψ;have b:=λx=>Azm (I:=I) (u:=u) (d:=d) (x:=x) (k:=16) Ψ;have c:=λx=>Azm (I:=I) (u:=u) (d:=d) (x:=x) (k:=17) Ψ;have e:=λx=>Azm (I:=I) (u:=u) (d:=d) (x:=x) (k:=21) Ψ;have f:=λx=>Azm (I:=I) (u:=u) (d:=d) (x:=x) (k:=32) Ψ;rw[M8];simp(disch:=omega)only[Aq,Ar,a,b,c,e,f,w];rw[show i+(k+1)=i+1+k by omega];exact g
theorem Agg(k:Nat)(a:k<=4)(Be:100<=u)(v:W4):Ac (CX I) prog u (d+2) 153 [.pbox [Ah v.a,Ah v.b,Ah v.c,Ah v.d],Av k]=some ⟨[],[(Arv k v).cells]⟩:=by rw[EV];have:=VV (I:=I) (u:=u) (d:=d) (a0:=v.a) (a1:=v.b) (a2:=v.c) (a3:=v.d) (a4:=k) k 0 u v Ω Ω;rw[I8] at this;exact this
theorem Afw(Be:100<=u)(v:W4)(m:Int):Ac (CX I) prog u (d+3) 151 [.pbox [Ah v.a,Ah v.b,Ah v.c,Ah v.d],Ah m]=some ⟨[],[(BZ v m).cells]⟩:=by rw[FK];have a:=Agg (I:=I) (u:=u) (d:=d) 2 Ω Be ⟨v.a,v.b,v.c,Fh .u64 v.d m⟩;have b:((2:Nat):Int)=2:=rfl;rw[b] at a;unfold BZ;generalize Arv 2 ⟨v.a,v.b,v.c,Fh .u64 v.d m⟩=R at a ⊢;simp only[W4.cells] at a;simp only[Aq,Ar,a];rfl
theorem Bgp{a b:Int}{k:Nat}(m:k<8)(i:0<=a)(f:a<((2 ^ (8*k):Nat):Int))(j:0<=b)(Mv:b<=255):Vm .u64 a (Dv .u64 b (8*(k:Int)))=a+((2 ^ (8*k):Nat):Int)*b:=by
 obtain⟨n,rfl⟩:=g8 j;have e:(8*(k:Int)).toNat=8*k:=Ω
 have hp:n*2 ^ (8*k)<=255*2 ^ (8*k):=ky _ Ω;have g:2 ^ (8*k)<=2 ^ 56:=gr Ω Ω;have h:(2:Nat) ^ 56=72057594037927936:=Δ
 rw[h] at g;generalize d:2 ^ (8*k)=p at *
 have Akr:n*p<=255*p:=hp
 have l:Dv .u64 (n:Int) (8*(k:Int))=(n:Int)*((2 ^ (8*(k:Int)).toNat:Nat):Int):=RK Ω Ω Ω (by
  rw[e,d];have:((n*p:Nat):Int)<=((255*p:Nat):Int):=Ω
  rw[<-g9];omega)
 rw[l,e,d]
 have:=(KD (a:=a) (c:=((n*p:Nat):Int)) (8*k) n i (by rw[d];exact f) (by rw[d]) (by
  have:((n*p:Nat):Int)<=((255*p:Nat):Int):=Ω
  omega)).1
 rw[<-g9,this,g7 ((p:Nat):Int),<-g9]
theorem Bgk(k:Nat):((2 ^ (8*k):Nat):Int)=256 ^ k:=by rw[Nat.pow_mul];simp
theorem VO{F:An}{n:Nat}{c:Ae}{l:Ak}(e:Ch l)(j:l.length<=8):∀(r:Ak)(i nn:Nat),l.drop i=r->r.length<nn->i<=l.length ->
  Mh u F n c nn (BP (l.take i)) l.length (Af .u8 l) l.length i=some ⟨[Ah (BP l)],[]⟩
 |_,_,0,_,h,_=>Ω
 |[],i,nn+1,h,g,hi=>by
  have:=drop_nil h;rw[V0,Fn _ _ _ Ω,Gp Ω]
 |b::r,i,nn+1,h,g,hi=>by
  obtain⟨t,f,k⟩:=Cb h;simp only[M9] at g;have m:=VO (F:=F) (n:=n) (c:=c) e j r (i+1) nn k Ω Ω;have a:=e b (zn f);have w:wrap .i64 ((i:Int)+1)=((i+1:Nat):Int):=Bc
  have o:wrap .i64 (8*(i:Int))=8*(i:Int):=Ba;have p:wrap .u64 b=b:=Cq;have Bex:=CL (l:=l.take i) λx q=>e x (kg q);have d:(l.take i).length=i:=by rw[x7];omega
  rw[d] at Bex
  have s:Vm .u64 (BP (l.take i)) (Dv .u64 b (8*(i:Int)))=BP (l.take (i+1)):=by
   rw[Bgp Ω Bex.1 (by rw[Bgk];exact Bex.2) a.1 a.2,yl,f,OA,d,Bgk]
   simp[BP]
  rw[V0];simp(disch:=omega)only[Aq,Ar,Hy,Jp,Tm f,w,o,p,s];exact m
theorem Aev(a:Ch l)(b:l.length<=8)(Be:100<=u):Ac (CX I) prog u (d+1) 152 [.lst false 1 l.length (Af .u8 l)]=some ⟨[Ah (BP l)],[]⟩:=by rw[WX];exact VO a b l 0 u rfl Ω Ω
theorem G5(k:IntKind)(l:Ak)(i:Nat):List.drop i (Af k l)=Af k (l.drop i):=by
 have:=YH (IL k) l i
 simpa using this
theorem Fz(k:IntKind)(l:Ak)(i:Nat):yt i (Af k l)=Af k (l.take i):=by
 have:=Aig (IL k) l i
 simpa using this
theorem Ch.drop(h:Ch l)(i:Nat):Ch (l.drop i):=λx a=>h x (kj a)
theorem Ch.take(h:Ch l)(i:Nat):Ch (l.take i):=λx a=>h x (kg a)
theorem A7b{a0 a1:Int}{c:Ae}(h:Ch l)(s:l.length<=1099511627776)(Be:100<=u)(nn:Nat)(v:W4):
  Nj u (Ac (CX I) prog u (d+3)) a0 a1 n c (nn+1) l.length (Af .u8 l) ((l.length / 8:Nat):Int) ((l.length / 8:Nat):Int) ((l.length / 8:Nat):Int) v.a v.b v.c v.d=some ⟨[Ah (Av2 (Au0 (BZ v (Um l))))],[]⟩:=by
 have k:wrap .i64 (8*((l.length / 8:Nat):Int))=((8*(l.length / 8):Nat):Int):=Bc
 have wl:wrap .u64 (l.length:Int)=l.length:=Cq;have a:(l.drop (8*(l.length / 8))).length=l.length-8*(l.length / 8):=yr;have i:=Aev (I:=I) (u:=u) (d:=d+2) (h.drop (8*(l.length / 8))) Ω Be;rw[a] at i;have m:yt (l.length-8*(l.length / 8)) (Af .u8 (l.drop (8*(l.length / 8))))=Af .u8 (l.drop (8*(l.length / 8))):=Gp (by rw[Al,a];omega)
 have b:=CL (h.drop (8*(l.length / 8)));rw[a] at b
 have o:(256:Int) ^ (l.length-8*(l.length / 8))<=256 ^ 7:=by
  have:(256:Nat) ^ (l.length-8*(l.length / 8))<=256 ^ 7:=gr Ω Ω;have f:(((256:Nat) ^ (l.length-8*(l.length / 8)):Nat):Int)<=((256 ^ 7:Nat):Int):=Ω
  simpa using f
 have Aam:Vm .u64 (BP (l.drop (8*(l.length / 8)))) (Dv .u64 (l.length:Int) 56)=Um l:=by
  have p:Dv .u64 (l.length:Int) 56=(((l.length % 256)*2 ^ 56:Nat):Int):=by
   show wrap .u64 ((l.length:Int)*2 ^ (min (56:Int).toNat IntKind.u64.bits))=_;have f:(2:Int) ^ (min (56:Int).toNat IntKind.u64.bits)=72057594037927936:=Δ
   have j:(2:Nat) ^ 56=72057594037927936:=Δ
   rw[f,j];simp only[wrap,IntKind.signed,IntKind.bits];simp;omega
  have q:(256:Int) ^ 7=((2 ^ 56:Nat):Int):=Δ
  have j:(2:Nat) ^ 56=72057594037927936:=Δ
  rw[p,(KD 56 (l.length % 256) b.1 Ω rfl Ω).1];unfold Um;omega
 have g:=Afw (I:=I) (u:=u) (d:=d) Be v (Um l);have e:=Agg (I:=I) (u:=u) (d:=d+1) 4 Ω Be ⟨(BZ v (Um l)).a,(BZ v (Um l)).b,Fh .u64 (BZ v (Um l)).c 255,(BZ v (Um l)).d⟩;have r:((4:Nat):Int)=4:=rfl;rw[r] at e;unfold Au0;generalize BZ v (Um l)=U at g e ⊢;generalize Arv 4 ⟨U.a,U.b,Fh .u64 U.c 255,U.d⟩=R at e ⊢;simp only[W4.cells] at g e;rw[EJ];simp(disch:=omega)only[Aq,Ar,Hy,Jp,k,wl,G5,m,i,Aam,g,e];rfl
theorem Aly{a0 a1:Int}{n:Nat}{c:Ae}{l:Ak}(a:Ch l)(j:l.length<=1099511627776)(Be:100<=u):∀(k i nn:Nat)(v:W4),i+k=l.length / 8->k<nn ->
  Nj u (Ac (CX I) prog u (d+3)) a0 a1 n c nn l.length (Af .u8 l) ((l.length / 8:Nat):Int) ((l.length / 8:Nat):Int) i v.a v.b v.c v.d=some ⟨[Ah (Av2 (Au0 (BZ (Ac6 k v (l.drop (8*i))) (Um l))))],[]⟩
 |_,_,0,_,_,h=>Ω
 |0,i,nn+1,v,hi,p=>by
  have e:i=l.length / 8:=Ω
  subst e;exact A7b a j Be nn v
 |k+1,i,nn+1,v,hi,p=>by
  have w:wrap .i64 ((i:Int)+1)=((i+1:Nat):Int):=Bc
  have q:wrap .i64 (8*(i:Int))=((8*i:Nat):Int):=Bc
  have b:wrap .i64 (((8*i:Nat):Int)+8)=((8*i+8:Nat):Int):=Bc
  have f:((l.drop (8*i)).take 8).length=8:=by rw[x7,yr];omega
  have m:=Aev (I:=I) (u:=u) (d:=d+2) ((a.drop (8*i)).take 8) Ω Be;rw[f] at m;have r:8*i+8-8*i=8:=Ω
  have g:=Afw (I:=I) (u:=u) (d:=d) Be v (BP ((l.drop (8*i)).take 8));have o:=Aly (a0:=a0) (a1:=a1) (n:=n) (c:=c) a j Be k (i+1) nn (BZ v (BP ((l.drop (8*i)).take 8))) Ω Ω
  have eN:Ac6 (k+1) v (l.drop (8*i))=Ac6 k (BZ v (BP ((l.drop (8*i)).take 8))) (l.drop (8*(i+1))):=by
   rw[Ac6,yq,show 8*i+8=8*(i+1) by omega]
  rw[eN];generalize BZ v (BP ((l.drop (8*i)).take 8))=U at g o ⊢;simp only[W4.cells] at g;rw[EJ];simp(disch:=omega)only[Aq,Ar,Hy,Jp,w,q,b,r,G5,Fz,m,g];exact o
theorem Bb9(b:Ch l)(e:l.length<=1099511627776)(Be:100<=u)(g:l.length<u)(a k1:Int):Ac (CX I) prog u (d+4) 129 [Ah a,Ah k1,.lst false 1 l.length (Af .u8 l)]=some ⟨[Ah (A65 a k1 l)],[]⟩:=by
 rw[Aiw]
 have w:wrap .i64 (Int.tdiv (l.length:Int) 8)=((l.length / 8:Nat):Int):=by
  rw[Int.tdiv_eq_ediv_of_nonneg Ω,Ba];omega
 have f:=Aly (I:=I) (u:=u) (d:=d) (a0:=a) (a1:=k1) (n:=l.length) (c:=Af .u8 l) b e Be (l.length / 8) 0 u (Bdk a k1) Ω Ω;simp only[Ga,w];exact f
theorem XW(a:Ch l)(b:l.length<=1099511627776)(Be:100<=u)(c:l.length<u)(dom:Int):Ac (CX I) prog u (d+5) 93 [Av dom,.lst false 1 l.length (Af .u8 l)]=some ⟨[Ah (Fk dom l)],[]⟩:=by rw[Adf];have s:=Bb9 (I:=I) (u:=u) (d:=d) a b Be c (wrap .u64 dom) 0;simp only[Aq,Ar,s];rfl
theorem Vh(v:W4):Ac (CX I) prog u (d+2) 115 [.agg [Ah v.a,Ah v.b,Ah v.c,Ah v.d]]=some ⟨[.agg (rnd v).cells],[]⟩:=by have a:=λx=>A4b (I:=I) (u:=u) (d:=d) (x:=x) (k:=13) Ψ;have b:=λx=>A4b (I:=I) (u:=u) (d:=d) (x:=x) (k:=16) Ψ;have c:=λx=>A4b (I:=I) (u:=u) (d:=d) (x:=x) (k:=17) Ψ;have e:=λx=>A4b (I:=I) (u:=u) (d:=d) (x:=x) (k:=21) Ψ;have f:=λx=>A4b (I:=I) (u:=u) (d:=d) (x:=x) (k:=32) Ψ;rw[LR];simp(disch:=omega)only[Aq,Ar,a,b,c,e,f];rfl
def FA(l:Ak)(i k:Nat):Int:=if i+k<l.length then l.getD (i+k) 0 else if k=7 then (l.length:Int) % 256 else 0
def pc(l:Ak)(i:Nat):Ak:=(za 8).map (FA l i)
theorem Boy(a:Ch l)(i:Nat):Ch (pc l i):=by
 intro x b;obtain⟨k,c,rfl⟩:=kl.1 b;unfold FA;split
 ·rename_i h;rw[zj,zd h];exact a _ (List.getElem_mem h)
 ·split<;>omega
theorem A77(h:i+8<=l.length):pc l i=(l.drop i).take 8:=by
 refine yu (by simp[pc];omega) λk a b=>?_
 have c:k<8:=by simpa [pc] using a
 simp only[pc,yv,yw,List.getElem_take,yx,FA];rw[Bv Ω,zj,zd Ω];rfl
theorem Aee(x:Int):∀n,BP (qz n 0++[x])=256 ^ n*x
 |0=>by simp[BP]
 |n+1=>by
  rw[List.replicate_succ,Zzp,BP,Aee x n,g5,g7 (256 ^ n) 256,g6];omega
theorem A8z:BP (pc l (8*(l.length / 8)))=Um l:=by
 have e:pc l (8*(l.length / 8))=l.drop (8*(l.length / 8))++(qz (7-(l.length-8*(l.length / 8))) 0++[(l.length:Int) % 256]):=by
  refine yu (by simp[pc];omega) λk c d=>?_
  have f:k<8:=by simpa [pc] using c
  simp only[pc,yv,yw,FA];by_cases a:8*(l.length / 8)+k<l.length
  ·rw[Bv a,yy (by rw[yr];omega),yx,zj,zd a]
   rfl
  ·rw[Bd a,yz (by rw[yr];omega)]
   by_cases b:k=7
   ·rw[Bv b,yz (by simp;omega)]
    simp
   ·rw[Bd b,yy (by simp;omega)]
    simp
 rw[e,OA,Aee];unfold Um
 have:(256:Int) ^ (l.drop (8*(l.length / 8))).length*(256 ^ (7-(l.length-8*(l.length / 8)))*((l.length:Int) % 256))=72057594037927936*((l.length:Int) % 256):=by
  rw[<-g6,<-Int.pow_add,yr];have:l.length-8*(l.length / 8)+(7-(l.length-8*(l.length / 8)))=7:=Ω
  rw[this];rfl
 rw[this]
theorem Bjk{a b:Int}(d:0<=a)(e:a<72057594037927936)(f:0<=b)(Mv:b<=255):Vm .u64 (Dv .u64 a 8) b=b+256*a:=by
 obtain⟨n,rfl⟩:=g8 d
 have g:Dv .u64 (n:Int) 8=((n*2 ^ 8:Nat):Int):=by
  have:=RK (a:=(n:Int)) (k:=8) Ω Ω Ω (by
   have:(2 ^ (8:Int).toNat:Nat)=256:=Δ
   rw[this];omega)
  rw[this];have:(2 ^ (8:Int).toNat:Nat)=256:=Δ
  rw[this];have:(2 ^ 8:Nat)=256:=Δ
  rw[this];omega
 have c:(2 ^ 8:Nat)=256:=Δ
 rw[g,(KD (a:=b) 8 n f (by rw[c];omega) rfl (by rw[c];omega)).2,c]
 omega
theorem Asf{a0 a1:Int}{n m0:Nat}{c:Ae}{l:Ak}(p:Ch l)(s:l.length<=1099511627776){i:Nat}(hi:i<=l.length)(v:W4):∀(j nn:Nat),j<=8->j<nn ->
  Gk u (Ac (CX I) prog u (d+2)) a0 a1 n c m0 nn l.length (Af .u8 l) i (BP ((pc l i).drop j)) ((j:Int)-1) v.cells =
   Hu u (Ac (CX I) prog u (d+2)) a0 a1 n c m0 l.length (Af .u8 l) ((i+8:Nat):Int) (BZ v (BP (pc l i))).cells
 |_,0,_,h=>Ω
 |0,nn+1,t,w=>by
  have x:wrap .i64 ((i:Int)+8)=((i+8:Nat):Int):=Bc
  have g:=Vh (I:=I) (u:=u) (d:=d) ⟨v.a,v.b,v.c,Fh .u64 v.d (BP (pc l i))⟩;have f:=Vh (I:=I) (u:=u) (d:=d) (rnd ⟨v.a,v.b,v.c,Fh .u64 v.d (BP (pc l i))⟩);have eA:BZ v (BP (pc l i))=Bkq (rnd (rnd ⟨v.a,v.b,v.c,Fh .u64 v.d (BP (pc l i))⟩)) (BP (pc l i)):=rfl;rw[eA];generalize rnd ⟨v.a,v.b,v.c,Fh .u64 v.d (BP (pc l i))⟩=U at g f ⊢;generalize rnd U=D at f ⊢;simp only[W4.cells] at g f;rw[S4,Fn _ _ _ Ω,Jo];simp only[W4.cells,ga,gb,OQ,Ga];simp (disch:=first|omega|(simp;done)) only[Aq,Ar,B9,ze,zs,gc,Jo,gd,Zzp,SJ,vy,M9,SO,ga,gb,g,f,x,I8,Nat.reduceAdd,Nat.reduceLeDiff,ge]
  rfl
 |j+1,nn+1,t,w=>by
  have k:=Asf (a0:=a0) (a1:=a1) (n:=n) (m0:=m0) (c:=c) p s hi v j nn Ω Ω;have y:wrap .i64 ((i:Int)+(((j+1:Nat):Int)-1))=((i+j:Nat):Int):=Bc
  have m:wrap .i64 (((j+1:Nat):Int)-1-1)=(j:Int)-1:=Bc
  have hd:(pc l i).drop j=FA l i j::(pc l i).drop (j+1):=by
   rw[List.drop_eq_getElem_cons (by simp[pc];omega)]
   simp[pc]
  have q:=Boy p i;have o:=CL (q.drop (j+1))
  have z:(256:Int) ^ ((pc l i).drop (j+1)).length<=72057594037927936:=by
   have Ev:((pc l i).drop (j+1)).length<=7:=by simp[pc]
   have:(256:Nat) ^ ((pc l i).drop (j+1)).length<=256 ^ 7:=gr Ω Ev;have A:(((256:Nat) ^ ((pc l i).drop (j+1)).length:Nat):Int)<=((256 ^ 7:Nat):Int):=Ω
   simpa using A
  have b:0<=FA l i j/\FA l i j<=255:=q _ (by rw[<-Jo (l:=pc l i)];exact kj (i:=j) (by rw[Jo,hd];simp))
  have a:Vm .u64 (Dv .u64 (BP ((pc l i).drop (j+1))) 8) (FA l i j)=BP ((pc l i).drop j):=by
   rw[Bjk o.1 Ω b.1 b.2,hd];rfl
  have wc:wrap .u64 (FA l i j)=FA l i j:=Cq;rw[S4,GN _ _ _ Ω];simp only[Ga,y];by_cases c1:i+j<l.length
  ·have e:FA l i j=l.getD (i+j) 0:=by unfold FA;rw[Bv c1]
   have B:l[i+j]?=some (FA l i j):=by rw[e,zj,zd c1];rfl
   rw[GN _ _ _ Ω];simp(disch:=omega)only[Aq,Ar,Hy,Jp,Tm B,wc,a,m];exact k
  ·rw[Fn _ _ _ Ω];by_cases r:j=7
   ·subst r;have e:FA l i 7=(l.length:Int) % 256:=by unfold FA;rw[Bd c1,Bv rfl]
    have C:wrap .u8 (l.length:Int)=FA l i 7:=by
     rw[e];simp only[wrap,IntKind.signed,IntKind.bits];simp
    rw[E9,Bv Ω,C,wc,a,m];exact k
   ·have e:FA l i j=0:=by unfold FA;rw[Bd c1,Bd r]
    rw[e] at a;rw[E9,Bd Ω,a,m];exact k
theorem Af9{a0 a1:Int}{n:Nat}{c:Ae}{l:Ak}(o:Ch l)(p:l.length<=1099511627776)(Be:100<=u):∀(k i nn:Nat)(v:W4),i+k=l.length / 8->k+1<nn ->
  Hu u (Ac (CX I) prog u (d+2)) a0 a1 n c nn l.length (Af .u8 l) ((8*i:Nat):Int) v.cells=some ⟨[Ah (Av2 (Au0 (BZ (Ac6 k v (l.drop (8*i))) (Um l))))],[]⟩
 |_,_,0,_,_,h=>Ω
 |k,i,nn+1,v,hi,y=>by
  have step:=Asf (I:=I) (u:=u) (d:=d) (a0:=a0) (a1:=a1) (n:=n) (m0:=nn) (c:=c) o p (i:=8*i) Ω v 8 u Ω Ω;have q:BP ((pc l (8*i)).drop 8)=0:=by rw[zb (by simp[pc])];rfl
  rw[q] at step;rw[S8,GN _ _ _ Ω];refine step.trans ?_;cases k with
  |zero=>
   have e:i=l.length / 8:=Ω
   subst e;rw[A8z];generalize r:BZ v (Um l)=a;obtain⟨f,rfl⟩:∃f,nn=f+1:=⟨nn-1,Ω⟩
   have m:=Vh (I:=I) (u:=u) (d:=d) ⟨a.a,a.b,Fh .u64 a.c 255,a.d⟩;have j:=Vh (I:=I) (u:=u) (d:=d) (rnd ⟨a.a,a.b,Fh .u64 a.c 255,a.d⟩);have g:=Vh (I:=I) (u:=u) (d:=d) (rnd (rnd ⟨a.a,a.b,Fh .u64 a.c 255,a.d⟩));have b:=Vh (I:=I) (u:=u) (d:=d) (rnd (rnd (rnd ⟨a.a,a.b,Fh .u64 a.c 255,a.d⟩)))
   have eF:Av2 (Au0 (BZ (Ac6 0 v (l.drop (8*(l.length / 8)))) (Um l)))=Av2 (rnd (rnd (rnd (rnd ⟨a.a,a.b,Fh .u64 a.c 255,a.d⟩)))):=by
    rw[Ac6,r];rfl
   rw[eF];clear eF;generalize rnd ⟨a.a,a.b,Fh .u64 a.c 255,a.d⟩=s at m j g b ⊢;generalize rnd s=t at j g b ⊢;generalize rnd t=w at g b ⊢;generalize rnd w=z at b ⊢;simp only[W4.cells] at m j g b;rw[S8,Fn _ _ _ Ω];simp only[W4.cells,ga,gb,OQ,Ga];simp (disch:=first|omega|(simp;done)) only[Aq,Ar,B9,ze,zs,gc,Jo,gd,Zzp,SJ,vy,M9,SO,ga,gb,m,j,g,b,I8,Nat.reduceAdd,Nat.reduceLeDiff,ge]
   rfl
  |succ k=>
   have x:=Af9 (a0:=a0) (a1:=a1) (n:=n) (c:=c) o p Be k (i+1) nn (BZ v (BP (pc l (8*i)))) Ω Ω;rw[show 8*i+8=8*(i+1) by omega,x,A77 Ω];simp only[Ac6,yq];rw[show 8*(i+1)=8*i+8 by omega]
theorem Asi(b:Ch l)(e:l.length<=1099511627776)(Be:100<=u)(f:l.length<u)(a k1:Int):Ac (CX I) prog u (d+3) 70 [Ah a,Ah k1,.lst false 1 l.length (Af .u8 l)]=some ⟨[Ah (A65 a k1 l)],[]⟩:=by rw[PT];exact Af9 (I:=I) (u:=u) (d:=d) (a0:=a) (a1:=k1) (n:=l.length) (c:=Af .u8 l) b e Be (l.length / 8) 0 u (Bdk a k1) Ω Ω
theorem IQ(a:Ch l)(b:l.length<=1099511627776)(Be:100<=u)(c:l.length<u)(dom:Int):Ac (CX I) prog u (d+4) 45 [Av dom,.lst false 1 l.length (Af .u8 l)]=some ⟨[Ah (Fk dom l)],[]⟩:=by rw[MT];have s:=Asi (I:=I) (u:=u) (d:=d) a b Be c (wrap .u64 dom) 0;simp only[Aq,Ar,s];rfl
theorem As1(a:Ch l)(b:l.length<=1099511627776)(Be:100<=u)(c:l.length<u)(key dom:Int):Ac (CX I) prog u (d+4) 39 [Ah key,Av dom,.lst false 1 l.length (Af .u8 l)]=some ⟨[Ah (A6s key dom l)],[]⟩:=by rw[PY];have s:=Asi (I:=I) (u:=u) (d:=d) a b Be c key (wrap .u64 (1+wrap .u64 dom));simp only[Aq,Ar,s];rfl
end
def G7(w:Int)(k:Nat):Int:=wrap .u8 (E4 .u64 w (56-8*(k:Int)))
def B6(w:Int):Ak:=(gg 0 8).map (G7 w)
def Bb(ws:Ak):Ak:=ws.flatMap B6
theorem Cu(w:Int):(B6 w).length=8:=rfl
section
variable {u d:Nat}{I:FuncId->Option (Ae->Option A3)}{F:An}{n:Nat}{c:Ae}
theorem Amh{ws:Ak}{w:Int}{m0 l:Nat}{i k:Int}:∀(r j nn:Nat)(bs:Ak),8-j=r->r<nn->j<=8->bs.length+r<=34359738368 ->
  Ns u F n c m0 nn bs.length w l (Af .u64 ws) k i j (Af .u8 bs) =
   J6 u F n c m0 (bs++(gg j (8-j)).map (G7 w)).length l (Af .u64 ws) k (wrap .i64 (i+1)) (Af .u8 (bs++(gg j (8-j)).map (G7 w)))
 |r,j,0,bs,_,h,_,_=>Ω
 |0,j,nn+1,bs,b,_,d,_=>by
  have e:j=8:=Ω
  subst e;rw[Yj];simp(disch:=omega)only[Aq,Ar];simp
 |r+1,j,nn+1,bs,b,m,d,o=>by
  have a:=Amh (ws:=ws) (w:=w) (m0:=m0) (l:=l) (i:=i) (k:=k) r (j+1) nn (bs++[G7 w j]) Ω Ω Ω (by simp;omega)
  have p:=Al .u8 bs;rw[Yj]
  have f:wrap .u8 (E4 .u64 w (wrap .i64 (56-wrap .i64 (8*(j:Int)))))=G7 w j:=by
   rw[wrap_i64 (x:=8*(j:Int)) Ω Ω,Ba];rfl
  have g:0<=wrap .i64 (56-wrap .i64 (8*(j:Int))):=by
   rw[wrap_i64 (x:=8*(j:Int)) Ω Ω,Ba];omega
  have Aqd:gg j (8-j)=j::gg (j+1) (8-(j+1)):=by
   rw[show 8-j=(8-(j+1))+1 by omega];exact gh
  simp (disch:=first|omega|exact g) only[Aq,Ar,Jp,f,NH,Nk,wrap_i64 (x:=(j:Int)+1)];rw[Aqd];simp only[Ru,M9,SO,I8,Zzv,ER,gi] at a ⊢;exact a
theorem Acd{ws:Ak}(b:ws.length<=1073741824)(Be:100<=u):∀(r:Ak)(i nn:Nat)(bs:Ak),ws.drop i=r->r.length<nn->bs.length=8*i ->
  J6 u F n c nn bs.length ws.length (Af .u64 ws) ws.length i (Af .u8 bs)=some ⟨[.own 1 (bs++Bb r).length (Af .u8 (bs++Bb r))],[]⟩
 |r,i,0,_,_,h,_=>Ω
 |[],i,nn+1,bs,h,_,_=>by
  have:=drop_nil h;have j:=Al .u8 bs;rw[Yr];simp(disch:=omega)only[Aq,Ar,Jp,NH,Bb,vx,vy]
 |w::r,i,nn+1,bs,h,d,k=>by
  obtain⟨l,f,g⟩:=Cb h;simp only[M9] at d;rw[Yr];simp(disch:=omega)only[Aq,Ar,Hy,Jp,Tm f];rw[show (0:Int)=((0:Nat):Int) from rfl,Amh 8 0 u bs rfl Ω Ω Ω,Ba];have a:=Acd b Be r (i+1) nn (bs++B6 w) g Ω (by simp[Cu];omega)
  have e:bs++B6 w++Bb r=bs++Bb (w::r):=by simp[Bb]
  rw[e] at a;exact a
theorem QH{ws:Ak}(a:ws.length<=1073741824)(Be:100<=u)(b:ws.length<u):Ac (CX I) prog u (d+1) 98 [.lst false 1 ws.length (Af .u64 ws)]=some ⟨[.own 1 (Bb ws).length (Af .u8 (Bb ws))],[]⟩:=by rw[ZS];simp(disch:=omega)only[Aq,Ar,wrap_i64,Int.mul_one];exact Acd a Be ws 0 u [] rfl b rfl
theorem Aek{ws:Ak}{w:Int}{m0 i:Nat}(a:ws[i]?=some w):∀(r nn:Nat)(j:Int)(bs:Ak),j=(r:Int)-1->r<=8->r<nn->bs.length+r<=34359738368 ->
  Id u F n c m0 nn ws.length (Af .u64 ws) bs.length i j (Af .u8 bs) =
   Gy u F n c m0 ws.length (Af .u64 ws) (bs++(gg (8-r) r).map (G7 w)).length (wrap .i64 (i+1)) (Af .u8 (bs++(gg (8-r) r).map (G7 w)))
 |r,0,j,bs,_,_,h,_=>Ω
 |0,nn+1,j,bs,d,_,_,_=>by
  rw[Pk];simp(disch:=omega)only[Aq,Ar];simp
 |r+1,nn+1,j,bs,d,JJ,g,k=>by
  have hi:=DZ a;have b:=Aek (m0:=m0) a r nn (j-1) (bs++[G7 w (8-(r+1))]) Ω Ω Ω (by simp;omega)
  have l:=Al .u8 bs
  have e:wrap .u8 (E4 .u64 w (wrap .u64 (wrap .i64 (8*j))))=G7 w (8-(r+1)):=by
   rw[Ba,Cq];unfold G7;rw[show 56-8*((8-(r+1):Nat):Int)=8*j by omega]
  have f:0<=wrap .u64 (wrap .i64 (8*j)):=by
   rw[Ba,Cq];omega
  have Aqd:gg (8-(r+1)) (r+1)=(8-(r+1))::gg (8-r) r:=by
   rw[gh,show 8-(r+1)+1=8-r by omega]
  rw[Pk];simp (disch:=first|omega|exact f) only[Aq,Ar,Hy,Jp,Tm a,e,NH,Nk,wrap_i64 (x:=j-1)];rw[Aqd];simp only[Ru,M9,SO,I8,Zzv,ER,gi] at b ⊢;exact b
theorem VQ{ws:Ak}(b:ws.length<=1073741824)(Be:100<=u):∀(r:Ak)(i nn:Nat)(bs:Ak),ws.drop i=r->r.length<nn->bs.length=8*i ->
  Gy u F n c nn ws.length (Af .u64 ws) bs.length i (Af .u8 bs)=some ⟨[.own 1 (bs++Bb r).length (Af .u8 (bs++Bb r))],[]⟩
 |r,i,0,_,_,h,_=>Ω
 |[],i,nn+1,bs,h,_,_=>by
  have:=drop_nil h;have j:=Al .u8 bs;rw[Pu];simp(disch:=omega)only[Aq,Ar,Jp,NH,Bb,vx,vy]
 |w::r,i,nn+1,bs,h,d,k=>by
  obtain⟨l,f,g⟩:=Cb h;simp only[M9] at d;rw[Pu];simp(disch:=omega)only[Aq,Ar];rw[Aek f 8 u 7 bs rfl Ω Ω Ω,Ba];have a:=VQ b Be r (i+1) nn (bs++B6 w) g Ω (by simp[Cu];omega)
  have e:bs++B6 w++Bb r=bs++Bb (w::r):=by simp[Bb]
  rw[e] at a;exact a
theorem Mi{ws:Ak}(a:ws.length<=1073741824)(Be:100<=u)(b:ws.length<u):Ac (CX I) prog u (d+1) 38 [.lst false 1 ws.length (Af .u64 ws)]=some ⟨[.own 1 (Bb ws).length (Af .u8 (Bb ws))],[]⟩:=by rw[LN];exact VQ a Be ws 0 u [] rfl b rfl
end
abbrev M3(a b:Int):Int:=Vm .u64 (Dv .u64 a 8) (wrap .u64 b)
def Ado(bs:Ak):Int:=bs.foldl M3 0
theorem Bjy{q:Int}(a:0<=q)(i:q<=18446744073709551615):M3 (q / 256) (wrap .u8 q)=q:=by
 have b:Dv .u64 (q / 256) 8=q / 256*256:=by
  unfold Dv;have:((8:Int).toNat.min IntKind.u64.bits)=8:=Δ
  show wrap .u64 (q / 256*2 ^ (min (8:Int).toNat IntKind.u64.bits))=_;have c:(2:Int) ^ (min (8:Int).toNat IntKind.u64.bits)=256:=Δ
  rw[c,Cq]
 have d:wrap .u8 q=q % 256:=by
  simp only[wrap,IntKind.signed,IntKind.bits];simp
 have e:wrap .u64 (q % 256)=q % 256:=Cq;unfold M3;rw[b,d,e];obtain⟨n,rfl⟩:=g8 a;have j:n<18446744073709551616:=Ω
 have f:(zx 64 ((n:Int) / 256*256)).toNat=n / 256*256:=by
  rw[we];omega
 have g:(zx 64 ((n:Int) % 256)).toNat=n % 256:=by
  rw[we];omega
 have h:n / 256*256 ||| n % 256=n:=by
  have:=gp (show n % 256<2 ^ 8 by omega) (n / 256);rw[gq] at this;rw[<-this];omega
 unfold Vm;show wrap .u64 ((zx 64 ((n:Int) / 256*256) ||| zx 64 ((n:Int) % 256)).toNat:Int)=n;rw[wg,f,g,h,Cq]
theorem Aw9(k:Nat)(a:k<8):G7 w k=wrap .u8 (w / 2 ^ (56-8*k)):=by
 unfold G7 E4;have e:(56-8*(k:Int)).toNat=56-8*k:=Ω
 rw[e,va (by show 56-8*k<=64;omega),Int.fdiv_eq_ediv_of_nonneg _ (wb (Int.pow_pos Ω))]
theorem Ae7(a:0<=w)(g:w<=18446744073709551615):Ado (B6 w)=w:=by
 have st:∀(k:Nat) (D:Int),k<8->(2:Int) ^ (56-8*k)=D->0<D->M3 (w / D / 256) (G7 w k)=w / D:=by
  intro k D h i hp;rw[Aw9 k h,i];exact Bjy (Int.ediv_nonneg a (wb hp)) (Int.le_trans (Int.ediv_le_self _ a) g)
 have s0:=st 0 72057594037927936 Ω Δ Ω;have s1:=st 1 281474976710656 Ω Δ Ω;have s2:=st 2 1099511627776 Ω Δ Ω;have b:=st 3 4294967296 Ω Δ Ω;have c:=st 4 16777216 Ω Δ Ω;have d:=st 5 65536 Ω Δ Ω;have e:=st 6 256 Ω Δ Ω;have f:=st 7 1 Ω Δ Ω;rw[show w / 72057594037927936 / 256=0 by omega] at s0;rw[show w / 281474976710656 / 256=w / 72057594037927936 by omega] at s1;rw[show w / 1099511627776 / 256=w / 281474976710656 by omega] at s2;rw[show w / 4294967296 / 256=w / 1099511627776 by omega] at b;rw[show w / 16777216 / 256=w / 4294967296 by omega] at c;rw[show w / 65536 / 256=w / 16777216 by omega] at d;rw[show w / 256 / 256=w / 65536 by omega] at e
 rw[show w / 1 / 256=w / 256 by omega,show w / 1=w by omega] at f;show M3 (M3 (M3 (M3 (M3 (M3 (M3 (M3 0 (G7 w 0)) (G7 w 1)) (G7 w 2)) (G7 w 3)) (G7 w 4)) (G7 w 5)) (G7 w 6)) (G7 w 7)=w;rw[s0,s1,s2,b,c,d,e,f]
end
end Go.Proofs.YtfmabfhjccngbaaGreatDoor.Pv
