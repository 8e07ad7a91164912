/-
  The proof of SigninVerifies, part 1.
-/
import Derived.Orders
import Derived.LoopN
import Derived.Below
import Derived.Laws.Cover4
import Derived.Lib.ValidU
import Derived.Lib.Bytealg
import Derived.IntWalk
import Derived.WalkKit
import Derived.WalkLawsBesides
import Derived.Laws.IdiomStrings
import Derived.Laws.MakeOwn
import Derived.Laws.Tables
set_option linter.unusedSimpArgs false
set_option linter.unusedVariables false
namespace Go.Proofs.YtfmabfhjccngbaaGreatDoor.Pv
set_option maxRecDepth 1000000
noncomputable section
variable{k:IntKind}{d es f i j n:Nat}{b nz z:Bool}{u v:Value}{x:Operand}{a:Addr}{e t:TypeId}{op:BinOp}{I:Array Value}{ps:Array (Nat × Operand)}
open Bool renaming not_true->qa,not_false->qb,false_and->qc,and_false->qd,and_eq_true->qe,false_eq_true->qf,not_eq_true'->qg,and_assoc->qh
open List renaming drop_zero->qi,take_of_length_le->qj,length_append->qk,length_nil->ql,length_cons->qm,cons_append->qn,nil_append->qo,append_assoc->qp,map_cons->qq,mem_append->qt,flatMap_cons->qu,mem_singleton_self->qv,mem_cons_of_mem->qw,mem_singleton->qx,mem_cons_self->qy,replicate->qz,range->za,drop_of_length_le->zb,drop_eq_getElem_cons->zc,getElem?_eq_getElem->zd,take_succ_cons->ze,getElem?_drop->zg,getElem?_eq_none->zh,getElem?_append_left->zi,getD_eq_getElem?_getD->zj,mem_flatMap->zk,mem_cons->zl,any_eq_true->zm,mem_of_getElem?->zn,mem_iff_getElem?->zq,getElem?_map->zr,take_zero->zs,getElem?_take->zt,foldl_cons->zu,length_map->zv,replicate_succ->zw
open BitVec renaming ofInt->zx,toNat_and->zy
open Op renaming bytesLess->jb,unary->jc,equal->jd,equalIn->jf
open Nat renaming ble->jg,blt->jh,succ_mul->ji,add_comm->jj,zero_mul->jk,le_trans->jl,add_right_comm->jm,le_of_not_lt->jn,eq_zero_or_pos->jo,sub_self->jq,add_mul->jr,zero_le->jt
open World renaming frozen?->ju,cell?_of_block->jw,frozen?_of_block->jx,cell?->jy
open Option renaming map_some->jz,isSome_iff_exists->j8
open _root_.Array renaming getElem?_eq_none->xa,forIn_toList->xb,getElem?_map->xc
open Sem renaming run_bind->xd,run_pure->xe
open Result renaming andThen_ok->xf
open Instr renaming sureAddr->xg,indexAt->xh,index->xi,sliceBounds->xj,sliceBound->xk,sliceAt->xl,slice->xm,fill->xn,buildSlice->xp,checkKey->xq
open Builtin renaming len_->xr,cap_->xs
theorem Ω{p:Prop}(h:p:=by omega):p:=h
theorem Ψ{p:Prop}(h:p:=by simp):p:=h
theorem Δ{p:Prop}(h:p:=by decide):p:=h
theorem Κ{p:Prop}(h:p:=by kernel_rfl):p:=h
theorem Φ{p:Prop}(h:p:=by show _=_;kernel_rfl):p:=h
theorem Gc:type_of% @qa:=@qa
theorem Ix:type_of% @qb:=@qb
theorem Jp:type_of% @Nat.mul_one:=@Nat.mul_one
theorem I8:type_of% @Nat.zero_add:=@Nat.zero_add
theorem Jo:type_of% @qi.{0}:=@qi
theorem Gp:type_of% @qj.{0}:=@qj
theorem Ru:type_of% @qk.{0}:=@qk
theorem SO:type_of% @ql.{0}:=@ql
theorem M9:type_of% @qm.{0}:=@qm
theorem Hy:type_of% @Int.toNat_natCast:=@Int.toNat_natCast
theorem Bd:type_of% @if_neg.{1}:=@if_neg
theorem Bv:type_of% @if_pos.{1}:=@if_pos
theorem Zzm:type_of% @Bool.true_and:=@Bool.true_and
theorem Zzn:type_of% @Bool.and_true:=@Bool.and_true
theorem Zzp:type_of% @qn.{0}:=@qn
theorem SJ:type_of% @qo.{0}:=@qo
theorem Zzr:type_of% @Nat.add_zero:=@Nat.add_zero
theorem SK:type_of% @qc:=@qc
theorem Zzt:type_of% @qd:=@qd
theorem Zzv:type_of% @qp.{0}:=@qp
theorem ER:type_of% @qq.{0,0}:=@qq
theorem Gh:type_of% @qe:=@qe
theorem JT:type_of% @decide_eq_true_eq:=@decide_eq_true_eq
theorem Ed:type_of% @Nat.eq_of_beq_eq_true:=@Nat.eq_of_beq_eq_true
theorem B8:type_of% @qt.{0}:=@qt
theorem Le:type_of% @qu.{0,0}:=@qu
theorem Zh:type_of% @qv.{0}:=@qv
theorem Iv:type_of% @Nat.lt_of_lt_of_le:=@Nat.lt_of_lt_of_le
theorem BL:type_of% @qw.{0}:=@qw
theorem Vc:type_of% @Nat.le_of_ble_eq_true:=@Nat.le_of_ble_eq_true
theorem Kp:type_of% @Nat.lt_or_ge:=@Nat.lt_or_ge
theorem Tx:type_of% @qx.{0}:=@qx
theorem Cz:type_of% @Nat.le_refl:=@Nat.le_refl
theorem Ld:type_of% @Nat.add_assoc:=@Nat.add_assoc
theorem Uz:type_of% @Nat.beq_refl:=@Nat.beq_refl
theorem OJ:type_of% @qy.{0}:=@qy
inductive PV where
 |sc (v:Value)
 |lst (z:Bool) (es n:Nat) (cells:List PV)
 |own (es n:Nat) (cells:List PV)
 |view (id es off n:Nat)
 |ptr (id off:Nat)
 |iptr (cells:List PV) (off:Nat)
 |pbox (cells:List PV)
 |agg (cells:List PV)
 |tup (vs:List PV)
 |top
 |ub
variable{p:PV}{tm:Nat->PV}
abbrev Ae:=List PV
variable{c cs:Ae}
abbrev Ak:=List Int
abbrev Cl:=List Nat
variable{fz:Cl}
inductive Co where
 |st (cells:Ae)
 |ar (fz:Bool) (cells:Ae)
 |mv
variable{hp:Nat->Option Co}
structure St where
 tm:Nat->PV
 hp:Nat->Option Co
structure A3 where
 vals:Ae
 outs:List Ae
variable{o:Option A3}
structure Lf where
 shr:FuncId->Bool
 mvd:FuncId->Nat->Bool
 lnd:FuncId->Nat->Bool
 kz:FuncId->Bool
 ext:FuncId->Option (Ae->Option A3)
 nz:Nat->Bool
def Lf.core(C:Lf):Lf:={ C with ext:=λ_=>none }
def Dy{α:Type}(f:Nat->α)(i:Nat)(v:α):Nat->α:=λj=>bif Nat.beq j i then v else f j
def rd(hp:Nat->Option Co)(id:Nat):Option Ae:=
 match hp id with
 |some (.st c)=>some c
 |some (.ar _ c)=>some c
 |_=>none
def Pf(hp:Nat->Option Co)(id:Nat):Option Ae:=
 match hp id with
 |some (.ar _ c)=>some c
 |_=>none
inductive CT where
 |int (k:IntKind)
 |bool
 |str
 |sl (es:Nat)
 |any
variable{ts:List CT}
def Bx(P:Program)(t:TypeId):Nat:=((P.info? t).map (·.size)).getD 0
def C6(P:Program)(t:TypeId):Bool:=
 match P.underlying t with
 |some (.struct _)=>true
 |some (.array _ _)=>true
 |_=>false
def Bep(P:Program):Nat->TypeId->List CT
 |0,_=>[]
 |d+1,t=>
  match P.underlying t with
  |some (.int k)=>[.int k]
  |some .bool=>[.bool]
  |some .string=>[.str]
  |some (.slice e)=>[.sl (Bx P e)]
  |some (.struct a)=>a.toList.flatMap λf=>Bep P d f.type
  |some (.array n e)=>(qz n (Bep P d e)).flatten
  |_=>[.any]
abbrev M2(P:Program)(t:TypeId):List CT:=Bep P 9 t
def Oi(P:Program)(t:TypeId):Bool:=(P.underlying t).isSome&&Nat.beq (M2 P t).length (Bx P t)
abbrev C8(k:IntKind)(a b:Int):Int:=k.wrap (zx k.bits a &&& zx k.bits b).toNat
abbrev Vm(k:IntKind)(a b:Int):Int:=k.wrap (zx k.bits a ||| zx k.bits b).toNat
abbrev Fh(k:IntKind)(a b:Int):Int:=k.wrap (zx k.bits a ^^^ zx k.bits b).toNat
abbrev DK(k:IntKind)(a b:Int):Int:=k.wrap (zx k.bits a &&& ~~~zx k.bits b).toNat
abbrev Dv(k:IntKind)(a b:Int):Int:=k.wrap (a*2 ^ (min b.toNat k.bits))
abbrev E4(k:IntKind)(a b:Int):Int:=a.fdiv (2 ^ (min b.toNat k.bits))
abbrev Bgo(k:IntKind)(n:Int):Int:=k.wrap (zx k.bits (if k.signed then -1 else k.max) ^^^ zx k.bits n).toNat
section
variable {R:Type}
def Bi(k:IntKind)(p:PV)(K:Int->Option R):Option R:=
 match p with
 |.sc (.int a n)=>if a=k then K n else none
 |_=>none
def Bh(p:PV)(K:Bool->Option R):Option R:=
 match p with
 |.sc (.bool b)=>K b
 |_=>none
def At(p:PV)(K:ByteArray->Option R):Option R:=
 match p with
 |.sc (.string s)=>K s
 |_=>none
def Y9(es:Nat)(p:PV)(K:Bool->Nat->Ae->Option R):Option R:=
 match p with
 |.lst z a n c=>bif Nat.beq a es then K z n c else none
 |.sc (.slice none 0 0)=>K true 0 []
 |_=>none
def fsK(es:Nat)(p:PV)(K:PV->Option R):Option R:=
 match p with
 |.view id a off n=>bif Nat.beq a es then K (.view id es off n) else none
 |p=>Y9 es p λz n c=>K (.lst z es n c)
def K5(es:Nat)(p:PV)(K:Nat->Ae->Option R):Option R:=
 match p with
 |.own a n c=>bif Nat.beq a es then K n c else none
 |_=>none
def As(b:Bool)(K:Option R):Option R:=bif b then K else none
abbrev Aa{α:Type}(x:α)(K:α->Option R):Option R:=K x
def Am8(b:Bool)(x y:Option R):Option R:=bif b then x else y
abbrev Bq7(x:Nat)(K:Nat->Option R):Option R:=K x
def A96(x:List Cl)(K:List Cl->Option R):Option R:=K x
def Ap(b:Bool)(x y:Option R):Option R:=bif b then x else y
def Dq{α:Type}(o:Option α)(K:α->Option R):Option R:=
 match o with
 |some a=>K a
 |none=>none
def Ad{α:Type}(l:List α)(K:α->List α->Option R):Option R:=
 match l with
 |a::r=>K a r
 |[]=>none
def Ag{α:Type}(l:List α)(K:Option R):Option R:=
 match l with
 |[]=>K
 |_::_=>none
def Cr(p:PV)(K:Ae->Option R):Option R:=
 match p with
 |.agg c=>K c
 |_=>none
def IR(p:PV)(K:Ae->Option R):Option R:=
 match p with
 |.pbox c=>K c
 |_=>none
def Ao(r:Option A3)(K:Ae->List Ae->Option R):Option R:=
 match r with
 |some ⟨v,o⟩=>K v o
 |none=>none
def fnK(p:PV)(K:Value->Option R):Option R:=
 match p with
 |.sc (.func f a b)=>K (.func f a b)
 |.sc (.map none)=>K (.map none)
 |_=>none
def fvK(p:PV)(K:FuncId->Option R):Option R:=
 match p with
 |.sc (.func (.func f) a b)=>bif a.isEmpty&&b.isEmpty then K f else none
 |_=>none
def TN(t:CT)(p:PV)(K:PV->Option R):Option R:=
 match t with
 |.int k=>Bi k p λn=>K (.sc (.int k n))
 |.bool=>Bh p λb=>K (.sc (.bool b))
 |.str=>At p λs=>K (.sc (.string s))
 |.sl es=>Y9 es p λz n c=>K (.lst z es n c)
 |.any=>fnK p λv=>K (.sc v)
def fcK(t:CT)(p:PV)(K:PV->Option R):Option R:=
 match t with
 |.sl es=>fsK es p K
 |t=>TN t p K
def GC:List CT->Ae->Nat->(Ae->Option R)->Option R
 |[],_,_,K=>K []
 |t::a,cells,off,K=>TN t (cells.getD off .top) λc=>GC a cells (off+1) λr=>K (c::r)
def Xo:List CT->Ae->Nat->(Ae->Option R)->Option R
 |[],_,_,K=>K []
 |t::a,cells,off,K=>fcK t (cells.getD off .top) λc=>Xo a cells (off+1) λr=>K (c::r)
def mkV(agg:Bool)(cells:Ae)(K:PV->Option R):Option R:=
 bif agg then K (.agg cells) else Ad cells λc r=>Ag r (K c)
def cellsOf:PV->Ae
 |.agg c=>c
 |p=>[p]
def cvK(P:Program)(t:TypeId)(v:Value)(K:PV->Option R):Option R:=
 match v with
 |.agg a=>As (Nat.beq a.toList.length (M2 P t).length) (GC (M2 P t) (a.toList.map .sc) 0 λc=>K (.agg c))
 |.slice none 0 0=>
  match P.underlying t with
  |some (.slice e)=>K (.lst true (Bx P e) 0 [])
  |_=>none
 |v=>K (.sc v)
end
def Da(tm:Nat->PV):Operand->PV
 |.tmp t=>tm t
 |.const (.agg a)=>.agg (a.toList.map .sc)
 |.const v=>.sc v
 |.func f=>.sc (.func (.func f) #[] #[])
 |.global g=>.sc (.pointer (some ⟨g,0,none⟩))
section
variable {R:Type}
def Fa(p:PV)(K:IntKind->Int->Option R):Option R:=
 match p with
 |.sc (.int k n)=>K k n
 |_=>none
def Am2(a:Nat->Option Ae)(es:Nat)(p:PV)(K:Nat->Ae->Option R):Option R:=
 match p with
 |.view id b off n=>bif Nat.beq b es then Dq (a id) λc=>As (decide (off+n*es<=c.length)) (K n ((c.drop off).take (n*es))) else none
 |p=>Y9 es p λ_ n c=>K n c
def Xu(a:Nat->Option Ae)(t:CT)(p:PV)(K:PV->Cl->Option R):Option R:=
 match t with
 |.sl es=>
  match p with
  |.view id b off n=>bif Nat.beq b es then Dq (a id) λc=>As (decide (off+n*es<=c.length)) (K (.lst false es n ((c.drop off).take (n*es))) [id]) else none
  |p=>Y9 es p λ_ n c=>K (.lst false es n c) []
 |t=>TN t p λc=>K c []
def Wn(a:Nat->Option Ae):List CT->Ae->(Ae->Cl->Option R)->Option R
 |[],[],K=>K [] []
 |t::b,p::ps,K=>Xu a t p λc m=>Wn a b ps λd e=>K (c::d) (m++e)
 |_,_,_=>none
def Al9(k:Bool):Ae->Ae->Ae
  |p::ps,c::a=>
    (match k,p with
     |true,.lst true es 0 []=>.lst true es 0 []
     |_,_=>c)::Al9 k ps a
  |_,a=>a
def Aq3(P:Program)(a:Nat->Option Ae)(t:TypeId)(p:PV)(K:PV->Cl->Option R):Option R:=
 bif C6 P t then Cr p λps=>Wn a (M2 P t) ps λb m=>K (.agg b) m
 else Wn a (M2 P t) [p] λb m=>Ad b λc r=>Ag r (K c m)
def Acq(P:Program)(a:Nat->Option Ae):List TypeId->Ae->(Ae->Cl->Option R)->Option R
 |[],[],K=>K [] []
 |t::b,p::ps,K=>Aq3 P a t p λv m=>Acq P a b ps λvs c=>K (v::vs) (m++c)
 |_,_,_=>none
def Azg(shr:Bool)(id:Nat)(t:CT)(p:PV)(K:PV->List (Nat × Co)->Option R):Option R:=
 match t with
 |.sl es=>bif shr then Y9 es p λ_ n c=>K (.lst false es n c) [] else K5 es p λn c=>K (.view id es 0 n) [(id,.ar false c)]
 |t=>TN t p λc=>K c []
def BQ(shr:Bool)(N:Nat):Nat->List CT->Ae->(Ae->List (Nat × Co)->Option R)->Option R
 |_,[],ps,K=>Ag ps (K [] [])
 |id,t::a,ps,K=>Ad ps λp ps=>Azg shr id t p λc b=>BQ shr N (id+N) a ps λd bs=>K (c::d) (b++bs)
def PO(P:Program)(t:TypeId):Option TypeId:=
 match P.underlying t with
 |some (.pointer e)=>some e
 |_=>none
def Amy(P:Program)(t:TypeId):Nat:=
 match PO P t with
 |some e=>1+(M2 P e).length
 |none=>(M2 P t).length
def Auw(P:Program)(shr:Bool)(N:Nat)(id:Nat)(t:TypeId)(p:PV)(K:PV->List (Nat × Co)->Option R):Option R:=
 match PO P t with
 |some e=>IR p λps=>BQ shr N (id+N) (M2 P e) ps λa bs=>K (.ptr id 0) ((id,.st a)::bs)
 |none=>
 bif C6 P t then Cr p λps=>BQ shr N id (M2 P t) ps λa bs=>K (.agg a) bs
 else BQ shr N id (M2 P t) [p] λa bs=>Ad a λc r=>Ag r (K c bs)
def VN(P:Program)(shr:Bool)(N:Nat):Nat->List TypeId->Ae->(Ae->List (Nat × Co)->Option R)->Option R
 |_,[],ps,K=>Ag ps (K [] [])
 |id,t::b,ps,K=>Ad ps λp ps=>Auw P shr N id t p λv bs=>VN P shr N (id+N*Amy P t) b ps λvs a=>K (v::vs) (bs++a)
def Ww(P:Program)(t:TypeId):List TypeId:=
 match P.underlying t with
 |some (.tuple a)=>a.toList
 |_=>[t]
def Xh(vs:Ae)(t:Bool):PV:=bif t then .tup vs else vs.headD .top
def Yl(P:Program)(t:TypeId):Bool:=
 match P.underlying t with
 |some (.tuple _)=>true
 |_=>false
def A6y(op:BinOp)(a b:Int)(K:Bool->Option R):Option R:=
 match op with
 |.eql=>K (a==b)
 |.neq=>K (a != b)
 |.lss=>K (decide (a<b))
 |.leq=>K (decide (a<=b))
 |.gtr=>K (decide (a>b))
 |.geq=>K (decide (a>=b))
 |_=>none
def Ab9(op:BinOp)(k:IntKind)(a b:Int)(K:PV->Option R):Option R:=
 match op with
 |.add=>Aa ((k.wrap (a+b))) λn=>K (.sc (.int k n))
 |.sub=>Aa ((k.wrap (a-b))) λn=>K (.sc (.int k n))
 |.mul=>Aa ((k.wrap (a*b))) λn=>K (.sc (.int k n))
 |.quo=>As (decide (b≠0)) (Aa ((k.wrap (a.tdiv b))) λn=>K (.sc (.int k n)))
 |.rem=>As (decide (b≠0)) (Aa ((a.tmod b)) λn=>K (.sc (.int k n)))
 |.and=>Aa (C8 k a b) λn=>K (.sc (.int k n))
 |.or=>Aa (Vm k a b) λn=>K (.sc (.int k n))
 |.xor=>Aa (Fh k a b) λn=>K (.sc (.int k n))
 |.andNot=>Aa (DK k a b) λn=>K (.sc (.int k n))
 |op=>A6y op a b λr=>K (.sc (.bool r))
def Ab1(op:BinOp)(x y:ByteArray)(K:PV->Option R):Option R:=
 match op with
 |.add=>As (decide (x.size+y.size<=9223372036854775807)) (Aa (x++y) λs=>K (.sc (.string s)))
 |.eql=>K (.sc (.bool (x.data.toList==y.data.toList)))
 |.neq=>K (.sc (.bool !(x.data.toList==y.data.toList)))
 |.lss=>K (.sc (.bool (jb x.data.toList y.data.toList)))
 |.leq=>K (.sc (.bool (jb x.data.toList y.data.toList||x.data.toList==y.data.toList)))
 |.gtr=>K (.sc (.bool !(jb x.data.toList y.data.toList||x.data.toList==y.data.toList)))
 |.geq=>K (.sc (.bool !(jb x.data.toList y.data.toList)))
 |_=>none
def Aby(e:Bool)(p:PV)(K:PV->Option R):Option R:=
 match p with
 |.sc (.slice none 0 0)=>K (.sc (.bool e))
 |.lst z _ n _=>Ap z (K (.sc (.bool e))) (Ap (decide (0<n)) (K (.sc (.bool !e))) (K .ub))
 |.view _ _ _ n=>Ap (decide (0<n)) (K (.sc (.bool !e))) (K .ub)
 |_=>none
def Ak1(P:Program):List Field->Nat->Bool
 |[],_=>true
 |f::r,i=>Nat.beq f.offset i&&(f.name != "_")&&(match P.underlying f.type with|some (.int _)=>true|some .bool=>true|some .string=>true|_=>false)&&Ak1 P r (i+1)
def Vu(P:Program):List Field->Nat->Bool
  |[],_=>true
  |f::r,i=>Nat.beq f.offset i&&(f.name != "_") &&
    (match P.underlying f.type with
     |some (.int _)=>Vu P r (i+1)
     |some .bool=>Vu P r (i+1)
     |some .string=>Vu P r (i+1)
     |some (.struct a)=>Ak1 P a.toList 0 && !P.stoodInHeld f.type&&(P.info? f.type).isSome&&Nat.beq (Bx P f.type) a.size&&Vu P r (i+a.size)
     |_=>false)
def Ah8(P:Program)(t:TypeId)(a:Array Field):Bool:=Vu P a.toList 0 && !P.stoodInHeld t && !P.eqGuardType P.depth t
def fty(P:Program)(f:Field):CT:=
 match P.underlying f.type with
 |some (.int k)=>.int k
 |some .bool=>.bool
 |some .string=>.str
 |_=>.any
def Am9(P:Program)(f:Field):List CT:=
 match P.underlying f.type with
 |some (.struct a)=>a.toList.map (fty P)
 |_=>[fty P f]
def LX(P:Program):List Field->List CT
 |[]=>[]
 |f::r=>Am9 P f++LX P r
def Sr:List CT->Ae->Ae->(Bool->Option R)->Option R
 |[],[],[],K=>K true
 |.int k::c,p::ps,q::d,K=>Bi k p λa=>Bi k q λb=>Sr c ps d λr=>K ((a==b)&&r)
 |.bool::c,p::ps,q::d,K=>Bh p λa=>Bh q λb=>Sr c ps d λr=>K ((a==b)&&r)
 |.str::c,p::ps,q::d,K=>At p λa=>At q λb=>Sr c ps d λr=>K ((a==b)&&r)
 |_,_,_,_=>none
def A0b(P:Program)(op:BinOp)(t:TypeId)(x y:PV)(K:PV->Option R):Option R:=
 match P.underlying t with
 |some (.int k)=>
  match op with
  |.shl=>Bi k x λa=>Fa y λ_ b=>As (decide (0<=b)) (Aa (Dv k a b) λn=>K (.sc (.int k n)))
  |.shr=>Bi k x λa=>Fa y λ_ b=>As (decide (0<=b)) (Aa (E4 k a b) λn=>K (.sc (.int k n)))
  |op=>Bi k x λa=>Bi k y λb=>Ab9 op k a b K
 |some .string=>At x λa=>At y λb=>Ab1 op a b K
 |some .bool=>
  match op with
  |.eql=>Bh x λa=>Bh y λb=>K (.sc (.bool (a==b)))
  |.neq=>Bh x λa=>Bh y λb=>K (.sc (.bool !(a==b)))
  |_=>none
 |some (.slice _)=>
  match op,y with
  |.eql,.sc (.slice none 0 0)=>Aby true x K
  |.neq,.sc (.slice none 0 0)=>Aby false x K
  |_,_=>none
 |some (.map _ _)=>
  match op,x,y with
  |.eql,.sc (.map none),.sc (.map none)=>K (.sc (.bool true))
  |.neq,.sc (.map none),.sc (.map none)=>K (.sc (.bool false))
  |_,_,_=>none
 |_=>none
def KG(P:Program)(op:BinOp)(t:TypeId)(x y:PV)(K:PV->Option R):Option R:=
 match P.underlying t with
 |some (.struct a)=>
  match op with
  |.eql=>As (Ah8 P t a) (Cr x λI=>Cr y λc=>Sr (LX P a.toList) I c λb=>K (.sc (.bool b)))
  |.neq=>As (Ah8 P t a) (Cr x λI=>Cr y λc=>Sr (LX P a.toList) I c λb=>K (.sc (.bool !b)))
  |_=>none
 |_=>A0b P op t x y K
def unK(op:UnOp)(x:PV)(K:PV->Option R):Option R:=
 match op with
 |.not=>Bh x λb=>K (.sc (.bool !b))
 |.neg=>Fa x λk n=>Aa (k.wrap (0-n)) λn=>K (.sc (.int k n))
 |.xor=>Fa x λk n=>Aa (Bgo k n) λn=>K (.sc (.int k n))
 |_=>none
def H2:Ae->Option (List UInt8)
 |[]=>some []
 |.sc (.int .u8 n)::r=>(H2 r).map (n.toNat.toUInt8 :: ·)
 |_::_=>none
def JL:Ae->Option Ak
 |[]=>some []
 |.sc (.int .i32 n)::r=>(JL r).map (n :: ·)
 |_::_=>none
def Dt(s:ByteArray):Ae:=s.data.toList.map λb=>.sc (.int .u8 b.toNat)
def ZQ(P:Program)(f:Nat->Option Ae)(d:Nat)(a g:TypeId)(x:PV)(K:PV->List (Nat × Co)->Option R):Option R:=
 match P.underlying g with
 |some (.int k)=>As (P.underlying a).isSome (Fa x λ_ n=>Aa (k.wrap n) λn=>K (.sc (.int k n)) [])
 |some .string=>
  match P.underlying a with
  |some .string=>At x λs=>K (.sc (.string s)) []
  |some (.slice e)=>
   match P.underlying e with
   |some (.int .u8)=>Am2 f 1 x λn c=>As (decide (c.length=n)) (Dq (H2 c) λb=>K (.sc (.string ⟨b.toArray⟩)) [])
   |some (.int .i32)=>Am2 f 1 x λn c=>As (decide (c.length=n)) (Dq (JL c) λns=>Aa (runesBytes ns) λs=>K (.sc (.string s)) [])
   |_=>none
  |_=>none
 |some (.slice e)=>
  match P.underlying e,P.underlying a with
  |some (.int .u8),some .string=>At x λs=>As (decide (s.size<=1099511627776)) (K (.view d 1 0 s.size) [(d,.ar false (Dt s))])
  |_,_=>none
 |_=>none
def Ku(p:Option PV)(dflt:Nat)(K:Nat->Option R):Option R:=
 match p with
 |none=>K dflt
 |some p=>Fa p λ_ i=>As (decide (0<=i)) (K i.toNat)
def TF(P:Program)(a:Nat->Option Ae)(t:TypeId)(x:PV)(lo hi:Option PV)(K:PV->Option R):Option R:=
 match P.underlying t with
 |some .string=>At x λs=>Ku lo 0 λl=>Ku hi s.size λh=>As (decide (l<=h)&&decide (h<=s.size)) (Aa (s.extract l h) λs=>K (.sc (.string s)))
 |some (.slice e)=>As (P.info? e).isSome (
  match x with
  |.view id es off n=>As (Nat.beq es (Bx P e)) (Ku lo 0 λl=>Ku hi n λh=>As (decide (l<=h)&&decide (h<=n)) (Aa (off+l*es) λo=>Aa (h-l) λn=>K (.view id es o n)))
  |x=>Y9 (Bx P e) x λz n c=>Ku lo 0 λl=>Ku hi n λh=>As (decide (l<=h)&&decide (h<=n)) (Aa (h-l) λn=>Aa ((c.drop (l*Bx P e)).take (n*Bx P e)) λc=>K (.lst z (Bx P e) n c)))
 |some (.array n e)=>As (P.info? e).isSome (
  match x with
  |.ptr id off=>Dq (a id) λc=>As (decide (1<=n*Bx P e)&&decide (off+n*Bx P e<=c.length)&&Nat.beq (Bx P e) 1)<|Ku lo 0 λl=>Ku hi n λh=>As (decide (l<=h)&&decide (h<=n)) (Aa (off+l*Bx P e) λo=>Aa (h-l) λn=>K (.view id (Bx P e) o n))
  |_=>none)
 |_=>none
def JK(P:Program)(d:Nat)(t:TypeId)(x:PV)(lo hi mx:Option PV)(K:PV->List (Nat × Co)->Option R):Option R:=
 match P.underlying t with
 |some (.slice e)=>As ((P.info? e).isSome&&hi.isSome) (
  match x with
  |.view _ es _ n=>As (Nat.beq es (Bx P e)) (Ku lo 0 λl=>Ku hi n λh=>Ku mx n λm=>As (Nat.beq l m&&Nat.beq h m&&decide (m<=n)) (K (.view d (Bx P e) 0 0) [(d,.ar false [])]))
  |x=>Y9 (Bx P e) x λ_ n _=>Ku lo 0 λl=>Ku hi n λh=>Ku mx n λm=>As (Nat.beq l m&&Nat.beq h m&&decide (m<=n)) (K (.view d (Bx P e) 0 0) [(d,.ar false [])]))
 |_=>none
def JE(x:PV)(d:Nat)(K:PV->Option R):Option R:=
 match x with
 |.ptr id off=>K (.ptr id (off+d))
 |.iptr c off=>K (.iptr c (off+d))
 |_=>none
def ZA(P:Program)(e:TypeId):Bool:=(P.info? e).isSome
def BS(P:Program)(t:TypeId)(f:Nat):Option (Nat × TypeId):=
 match P.underlying t with
 |some (.struct a)=>(a[f]?).map λg=>(g.offset,g.type)
 |_=>none
def Rl(P:Program)(t:TypeId)(x:PV)(i:Int)(K:PV->Option R):Option R:=
 match P.underlying t with
 |some (.array n e)=>As (ZA P e) (As (decide (0<=i)&&decide (i<n)) (JE x (i.toNat*Bx P e) K))
 |some (.slice e)=>As (ZA P e) (
  match x with
  |.view id es off n=>As (Nat.beq es (Bx P e)) (As (decide (0<=i)&&decide (i<n)) (K (.ptr id (off+i.toNat*es))))
  |x=>Y9 (Bx P e) x λ_ n c=>As (decide (0<=i)&&decide (i<n)) (K (.iptr c (i.toNat*Bx P e))))
 |_=>none
def OB(P:Program)(a:Nat->Option Ae)(t:TypeId)(x:PV)(K:PV->Option R):Option R:=
 match x with
 |.ptr id off=>As (Oi P t) (Dq (a id) λc=>Xo (M2 P t) c off λb=>mkV (C6 P t) b K)
 |.iptr c off=>As (Oi P t) (GC (M2 P t) c off λb=>mkV (C6 P t) b K)
 |_=>none
def Aii:PV->PV
 |.lst _ es n c=>.lst false es n c
 |p=>p
def Ao8:PV->PV
 |.agg a=>.agg (a.map Aii)
 |p=>Aii p
def QG(nz:Bool)(P:Program)(b rdaf:Nat->Option Ae)(t:TypeId)(x:PV)(K:PV->Option R):Option R:=
 match x with
 |.ptr id off=>As (Oi P t) (
  match rdaf id with
  |some c=>GC (M2 P t) c off λa=>mkV (C6 P t) a λv=>K (bif nz then v else Ao8 v)
  |none=>Dq (b id) λc=>Xo (M2 P t) c off λa=>mkV (C6 P t) a K)
 |.iptr c off=>As (Oi P t) (GC (M2 P t) c off λa=>mkV (C6 P t) a λv=>K (bif nz then v else Ao8 v))
 |_=>none
def B9(cells new:Ae)(off:Nat):Ae:=cells.take off++new++cells.drop (off+new.length)
def okP:PV->Bool
 |.agg _=>true
 |.lst _ _ _ _=>true
 |.view _ _ _ _=>true
 |.sc (.int _ _)=>true
 |.sc (.bool _)=>true
 |.sc (.string _)=>true
 |.sc (.slice none 0 0)=>true
 |_=>false
def GV(Kb:Nat->Option (Nat × Nat)):List (Nat × PV)->Ae->(Ae->Option R)->Option R
 |[],cells,K=>K cells
 |(i,p)::r,cells,K=>Dq (Kb i) λq=>As (okP p&&Nat.beq (cellsOf p).length q.2&&jg (q.1+q.2) cells.length) (Aa (B9 cells (cellsOf p) q.1) λcells=>GV Kb r cells K)
def CM(P:Program)(t:TypeId)(i:Nat):Option (Nat × Nat):=
 match P.underlying t with
 |some (.struct a)=>(a[i]?).map λf=>(f.offset,Bx P f.type)
 |some (.array _ e)=>some (i*Bx P e,Bx P e)
 |some (.slice e)=>some (i*Bx P e,Bx P e)
 |_=>none
def AZ(P:Program)(t:TypeId):Bool:=
 match P.underlying t with
 |some (.struct a)=>a.toList.all λf=>ZA P f.type
 |some (.array _ e)=>ZA P e
 |some (.slice e)=>ZA P e
 |_=>false
def Ze(P:Program)(t:TypeId):Option Value:=(P.info? t).bind (·.zero)
def Kx(P:Program)(t:TypeId)(K:Ae->Option R):Option R:=
 Dq (Ze P t) λv=>As (Nat.beq v.cells.toList.length (M2 P t).length&&Oi P t) (GC (M2 P t) (v.cells.toList.map .sc) 0 K)
def DV(P:Program)(t:TypeId):Bool:=
 match P.underlying t with
 |some (.array _ _)=>true
 |_=>false
def A08(P:Program)(t:TypeId)(cells:Ae):Co:=bif DV P t then .ar false cells else .st cells
def Xx(n:Nat)(l:Ae):Ae:=(qz n l).flatten
def A9m(a b:PV)(K:PV->Option R):Option R:=Fa a λk x=>Bi k b λy=>Aa (if y<x then y else x) λn=>K (.sc (.int k n))
def A75(a b:PV)(K:PV->Option R):Option R:=Fa a λk x=>Bi k b λy=>Aa (if x<y then y else x) λn=>K (.sc (.int k n))
def Awc(P:Program)(t:TypeId)(x:PV)(K:Nat->Option R):Option R:=
 match P.underlying t with
 |some .string=>At x λs=>K s.size
 |some (.array n _)=>K n
 |some (.slice e)=>
  match x with
  |.view _ es _ n=>As (Nat.beq es (Bx P e)) (K n)
  |x=>Y9 (Bx P e) x λ_ n _=>K n
 |_=>none
end
abbrev An:=FuncId->Ae->Option A3
section
variable {R:Type}
def Pz(P:Program)(ts:List TypeId):Bool:=ts.any λt=>(PO P t).isSome||(M2 P t).any λc=>match c with | .sl _=>true|_=>false
def UA(P:Program)(t:TypeId)(tm:Nat->PV)(x:Operand)(K:PV->Option R):Option R:=
 match x with
 |.const v=>cvK P t v K
 |x=>K (Da tm x)
def Ait(P:Program)(e:TypeId):Bool:=
 match P.info? e with
 |some i=>(match i.zero with|some z=>Nat.beq z.cells.size i.size|none=>false)
 |none=>false
def Arm(P:Program)(rdaf:Nat->Option Ae)(es:Nat)(t:TypeId)(x:PV)(K:Nat->Ae->Option R):Option R:=
 match P.underlying t with
 |some .string=>As (Nat.beq es 1) (At x λb=>K b.size (Dt b))
 |some (.slice _)=>Am2 rdaf es x K
 |_=>none
abbrev Aqv(P:Program)(s:St)(es:Nat)(t:TypeId)(x:PV)(K:Nat->Ae->Option R):Option R:=Arm P (Pf s.hp) es t x K
def SB(c:Call):Bool:=
 match c.args.toList with
 |.const (.slice none 0 0)::_=>true
 |_=>false
def KB(P:Program)(rdaf:Nat->Option Ae)(d:Nat)(t tx:TypeId)(x:PV)(K:PV->List (Nat × Co)->Option R):Option R:=
 match P.underlying t with
 |some (.slice e)=>As (Ait P e) <|
  Arm P rdaf (Bx P e) tx x λm new=>
   As (decide (new.length=m*Bx P e)&&decide (m*((P.info? e).map (·.bytes)).getD 0<=1099511627776)&&decide (m<=1099511627776)) (K (.view d (Bx P e) 0 m) [(d,.ar false new)])
 |_=>none
def Pw(k:Bool):List Operand->Ae->Ae
  |x::I,p::ps=>
    (match x,p with
     |.const (.slice none 0 0),.lst z es 0 []=>.lst (k||z) es 0 []
     |_,p=>p)::Pw k I ps
  |_,ps=>ps
def Ava(P:Program)(t:TypeId)(x:PV)(K:Nat->Option R):Option R:=
 match P.underlying t with
 |some (.slice e)=>Y9 (Bx P e) x λz _ _=>As z (K 0)
 |_=>none
def Abi(P:Program)(f:FuncId)(c:Call):List TypeId:=
 match P.funcs[f]? with
 |some a=>a.params.toList
 |none=>c.argTypes.toList
def ZG(C:Lf)(P:Program)(N:Nat)(F:An)(tm:Nat->PV)(rdaf:Nat->Option Ae)(o:Oper)(c:Call)(f:FuncId)(K:PV->Cl->List (Nat × Co)->Option R):Option R:=
 Acq P rdaf (Abi P f c) (c.args.toList.map (Da tm)) λvs m=>
  Ao (F f (Pw (C.kz f) c.args.toList vs)) λb ro=>Ag ro (As (jh 0 N)<|VN P (C.shr f) N (o.dst.getD 0) (Ww P o.type) b λa bs=>
   As (bif Yl P o.type then !Nat.beq a.length 1 else Nat.beq a.length 1)<|K (Xh a (Yl P o.type)) (bif Pz P (Ww P o.type) then m else []) bs)
def Aa2(C:Lf)(P:Program)(N:Nat)(F:An)(tm:Nat->PV)(j rdaf:Nat->Option Ae)(o:Oper)(K:PV->Cl->List (Nat × Co)->Option R):Option R:=
  match o.op with
  |.move x=>UA P o.type tm x λp=>K p [] []
  |.assign x=>UA P o.type tm x λp=>K p [] []
  |.pick c a b=>Bh (Da tm c) λt=>Ap t (K (Da tm a) [] []) (K (Da tm b) [] [])
  |.alloc t=>Dq o.dst λd=>Kx P t λg=>K (.ptr d 0) [] [(d,A08 P t g)]
  |.box t x=>Dq o.dst λd=>As (Oi P t&&Nat.beq (cellsOf (Da tm x)).length (M2 P t).length)
      (bif DV P t then GC (M2 P t) (cellsOf (Da tm x)) 0 λg=>K (.ptr d 0) [] [(d,.ar false g)]
       else Xo (M2 P t) (cellsOf (Da tm x)) 0 λg=>K (.ptr d 0) [] [(d,.st g)])
  |.build t ps=>As (AZ P t&&C6 P t)<|Kx P t λz=>GV (CM P t) (ps.toList.map λq=>(q.1,Da tm q.2)) z λg=>Xo (M2 P t) g 0 λh=>K (.agg h) [] []
  |.buildSlice t n ps=>Dq o.dst λd=>
      match P.underlying t with
      |some (.slice e)=>As (AZ P t&&jg (n*Bx P e) 16777216) (Kx P e λz=>GV (CM P t) (ps.toList.map λq=>(q.1,Da tm q.2)) (Xx n z) λg=>
          Wn rdaf (qz n (M2 P e)).flatten g λh m=>K (.view d (Bx P e) 0 n) m [(d,.ar false (bif C.nz N then Al9 true g h else h))])
      |_=>none
  |.load t a=>QG (C.nz N) P j rdaf t (Da tm a) λv=>K v [] []
  |.nilCheck x=>JE (Da tm x) 0 λp=>K p [] []
  |.binOp op t x y _=>
      KG P op t (Da tm x) (Da tm y) λv=>K v [] []
  |.unOp op _ x=>unK op (Da tm x) λv=>K v [] []
  |.convert w A x=>ZQ P rdaf (o.dst.getD 0) w A (Da tm x) λv b=>Dq o.dst λ_=>K v [] b
  |.makeSlice t l c=>Dq o.dst λd=>
      match P.underlying t with
      |some (.slice e)=>Fa (Da tm l) λ_ n=>Fa (Da tm c) λ_ m=>
          As (decide (0<=n)&&decide (n<=m)&&decide (m*((P.info? e).map (·.bytes)).getD 0<=1099511627776)&&decide (m<=1099511627776))
            (Kx P e λz=>K (.view d (Bx P e) 0 n.toNat) [] [(d,.ar false (Xx n.toNat z))])
      |_=>none
  |.slice t x B hi mx=>
      match mx with
      |none=>TF P j t (Da tm x) (B.map (Da tm)) (hi.map (Da tm)) λv=>K v [] []
      |some m=>Dq o.dst λd=>JK P d t (Da tm x) (B.map (Da tm)) (hi.map (Da tm)) (some (Da tm m)) λv nw=>K v [] nw
  |.fieldAddr t x f=>Dq (BS P t f) λq=>As (jg 1 (Bx P q.2)) (JE (Da tm x) q.1 λp=>K p [] [])
  |.field t x f=>Dq (BS P t f) λq=>As (Oi P q.2)<|Cr (Da tm x) λg=>Xo (M2 P q.2) g q.1 λc=>mkV (C6 P q.2) c λv=>K v [] []
  |.indexAddr t x i=>Fa (Da tm i) λ_ n=>Rl P t (Da tm x) n λp=>K p [] []
  |.index t x i=>Fa (Da tm i) λ_ n=>
      match P.underlying t with
      |some .string=>At (Da tm x) λs=>As (decide (0<=n)) (Dq (s.data.toList[n.toNat]?) λb=>K (.sc (.int .u8 b.toNat)) [] [])
      |some (.array len e)=>Cr (Da tm x) λg=>As (decide (0<=n)&&decide (n<len)&&Oi P e) (Xo (M2 P e) g (n.toNat*Bx P e) λc=>mkV (C6 P e) c λv=>K v [] [])
      |_=>none
  |.lookup t x k ok=>
      match P.underlying t with
      |some (.map E D)=>As (match P.underlying E with|some .string=>true|_=>false) (
        match Da tm x with
        |.sc (.map none)=>At (Da tm k) λ_=>Dq (Ze P D) λz=>cvK P D z λv=>As (match v with | .tup _=>false|_=>true) (K (bif ok then .tup [v,.sc (.bool false)] else v) [] [])
        |_=>none)
      |_=>none
  |.extract x i=>
      match Da tm x with
      |.tup vs=>Dq vs[i]? λp=>K p [] []
      |_=>none
  |.call c=>
      match c.callee with
      |.builtin .len=>Ad c.args.toList λx _=>Ad c.argTypes.toList λt _=>Awc P t (Da tm x) λn=>K (.sc (.int .i64 n)) [] []
      |.builtin .cap=>Ad c.args.toList λx _=>Ad c.argTypes.toList λt _=>Ava P t (Da tm x) λn=>K (.sc (.int .i64 n)) [] []
      |.builtin .min=>Ad c.args.toList λx r=>Ad r λy r'=>Ag r' (A9m (Da tm x) (Da tm y) λv=>K v [] [])
      |.builtin .max=>Ad c.args.toList λx r=>Ad r λy r'=>Ag r' (A75 (Da tm x) (Da tm y) λv=>K v [] [])
      |.builtin .append=>As (SB c) (Dq o.dst λd=>Ad c.args.toList λ_ r=>Ad r λx r'=>Ag r' (Ad c.argTypes.toList λt u=>Ad u λG _=>KB P rdaf d t G (Da tm x) λv nw=>K v [] nw))
      |.value (.func f)=>ZG C P N F tm rdaf o c f K
      |.value (.tmp t)=>fvK (tm t) λf=>ZG C P N F tm rdaf o c f K
      |_=>none
  |_=>none
def FU(C:Lf)(P:Program)(o:Op):Bool:=
 match o with
 |.store .. =>true
 |.call c=>
  match c.callee with
  |.builtin .append=> !SB c
  |.builtin .copy=>true
  |.builtin _=>false
  |.value (.func f)=>((Abi P f c).any λt=>(PO P t).isSome)||((Abi P f c).zipIdx.any λq=>C.mvd f q.2||C.lnd f q.2)
  |_=>false
 |_=>false
def HD(b:Co):Co:=
 match b with
 |.ar _ c=>.ar true c
 |b=>b
def Aj(hp:Nat->Option Co)(ids:Cl):Nat->Option Co:=λi=>bif ids.any (Nat.beq i) then (hp i).map HD else hp i
def A8(hp:Nat->Option Co):List (Nat × Co)->Nat->Option Co
 |[]=>hp
 |(i,b)::r=>A8 (Dy hp i (some b)) r
def Cs(hp:Nat->Option Co):List (Nat × Co)->Bool
 |[]=>true
 |(i,_)::r=>(hp i).isNone && !(r.any λq=>Nat.beq q.1 i)&&Cs hp r
def Dp(tm:Nat->PV)(d:Option Tmp)(v:PV):Nat->PV:=
 match d with
 |some i=>Dy tm i v
 |none=>tm
def Jr(N:Nat)(d:Option Tmp):Bool:=
 match d with
 |some i=>jh i N
 |none=>true
def TX(N:Nat)(s:St)(d:Option Tmp)(v:PV)(fz:Cl)(nw:List (Nat × Co))(K:St->Option R):Option R:=
 As (Jr N d&&Cs s.hp nw) (K ⟨Dp s.tm d v,A8 (Aj s.hp fz) nw⟩)
def UB(P:Program)(s:St)(t:TypeId)(a x:PV)(K:St->Option R):Option R:=
 match a with
 |.ptr id off=>
  match s.hp id with
  |some (.st c)=>As (Oi P t&&Nat.beq (cellsOf x).length (M2 P t).length&&decide (off+(M2 P t).length<=c.length)) (Xo (M2 P t) (cellsOf x) 0 λb=>Aa (B9 c b off) λc=>K ⟨s.tm,Dy s.hp id (some (.st c))⟩)
  |some (.ar false c)=>As (Oi P t&&decide (off+(M2 P t).length<=c.length)) (Wn (Pf s.hp) (M2 P t) (cellsOf x) λb m=>As (!m.any (Nat.beq id)) (Aa (B9 c b off) λc=>K ⟨s.tm,Dy (Aj s.hp m) id (some (.ar false c))⟩))
  |_=>none
 |_=>none
def YB(P:Program)(t:TypeId):Bool:=
 match P.underlying t with
 |some (.int _)=>true
 |_=>false
def PD(P:Program)(N:Nat)(s:St)(d:Nat)(e:TypeId)(b x:PV)(K:St->Option R):Option R:=
 Fa x λ_ n=>Y9 (Bx P e) b λz _ _=>
  As (z&&jh d N&&(s.hp d).isNone&&decide (0<=n)&&decide (n.toNat*((P.info? e).map (·.bytes)).getD 0<=1099511627776)&&decide (n<=1099511627776))
   (K ⟨Dy s.tm d (.view d (Bx P e) 0 n.toNat),Dy s.hp d (some (.ar false []))⟩)
def KE(P:Program)(N:Nat)(s:St)(d:Nat)(t tx:TypeId)(b x:PV)(K:St->Option R):Option R:=
 match P.underlying t with
 |some (.slice e)=>As (Ait P e) <|
  bif YB P tx then PD P N s d e b x K else
  Aqv P s (Bx P e) tx x λm new=>
  match b with
  |.view id es off n=>
   match s.hp id with
   |some (.ar false c)=>
    As (Nat.beq es (Bx P e)&&Nat.beq off 0&&jh d N&&(s.hp d).isNone&&decide (n*es<=c.length)&&decide (new.length=m*es)
     && decide ((n+m)*((P.info? e).map (·.bytes)).getD 0<=1099511627776)&&decide (n+m<=1099511627776))
     (Aa (n+m) λa=>Aa (c.take (n*es)++new) λc=>K ⟨Dy s.tm d (.view d es 0 a),Dy (Dy s.hp id (some .mv)) d (some (.ar false c))⟩)
   |_=>none
  |b=>Y9 (Bx P e) b λz _ _=>
    As (z&&jh d N&&(s.hp d).isNone&&decide (new.length=m*Bx P e)&&decide (m*((P.info? e).map (·.bytes)).getD 0<=1099511627776)&&decide (m<=1099511627776))
     (K ⟨Dy s.tm d (.view d (Bx P e) 0 m),Dy s.hp d (some (.ar false new))⟩)
 |_=>none
def Ad5(P:Program)(N:Nat)(s:St)(d:Option Tmp)(t tx:TypeId)(b x:PV)(K:St->Option R):Option R:=
 match P.underlying t with
 |some (.slice e)=>As (ZA P e&&Jr N d) <|
  Aqv P s (Bx P e) tx x λm new=>
  match b with
  |.view id es off n=>
   match s.hp id with
   |some (.ar false c)=>As (Nat.beq es (Bx P e)&&decide (off+n*es<=c.length)&&decide (new.length=m*es))
     (Aa (min m n) λk=>Aa (B9 c (new.take (k*es)) off) λc=>K ⟨Dp s.tm d (.sc (.int .i64 k)),Dy s.hp id (some (.ar false c))⟩)
   |_=>none
  |_=>none
 |_=>none
def Avp(mv:Bool)(hp:Nat->Option Co)(t:CT)(p:PV)(K:PV->Cl->Cl->Option R):Option R:=
 match t with
 |.sl es=>
  bif mv then
   match p with
   |.view id a off n=>
    match hp id with
    |some (.ar false c)=>
     bif Nat.beq a es&&Nat.beq off 0 then As (decide (n*es<=c.length)) (K (.own es n (c.take (n*es))) [] [id])
     else Xu (Pf hp) (.sl es) (.view id a off n) λc m=>K c m []
    |_=>Xu (Pf hp) (.sl es) (.view id a off n) λc m=>K c m []
   |p=>Y9 es p λz n c=>bif z then K (.own es 0 []) [] [] else K (.lst false es n c) [] []
  else Xu (Pf hp) (.sl es) p λc m=>K c m []
 |t=>TN t p λc=>K c [] []
def VP(mv:Bool)(hp:Nat->Option Co):List CT->Ae->(Ae->Cl->Cl->Option R)->Option R
 |[],[],K=>K [] [] []
 |t::a,p::ps,K=>Avp mv hp t p λc m x=>VP mv hp a ps λb d I=>K (c::b) (m++d) (x++I)
 |_,_,_=>none
inductive Ko where
 |var (id off:Nat) (cts:List CT) (ws:Ae)
 |row (id:Nat)
 |none
def Ko.ids:Ko->Cl
 |.var id _ _ _=>[id]
 |.row id=>[id]
 |.none=>[]
def Bi7(P:Program)(t:TypeId):Option TypeId:=
 match P.underlying t with
 |some (.slice e)=>some e
 |_=>none
def A0q(hp:Nat->Option Co)(es:Nat)(p:PV)(K:PV->List Ko->Option R):Option R:=
 match p with
 |.view id a off n=>
  match hp id with
  |some (.ar false c)=>As (Nat.beq a es&&Nat.beq off 0) (K (.tup [.own es n c]) [.row id])
  |_=>none
 |p=>Y9 es p λz _ _=>As z (K (.tup [.own es 0 []]) [.none])
def SY(C:Lf)(P:Program)(f:FuncId)(hp:Nat->Option Co)(i:Nat)(t:TypeId)(p:PV)(K:PV->Cl->Cl->List Ko->Option R):Option R:=
 match PO P t with
 |some e=>
  match p with
  |.ptr id off=>
   match hp id with
   |some (.st c)=>As (Oi P e&&decide (off+(M2 P e).length<=c.length)) (VP (C.mvd f i) hp (M2 P e) ((c.drop off).take (M2 P e).length) λa m x=>K (.pbox a) m x [.var id off (M2 P e) a])
   |_=>none
  |_=>none
 |none=>
  bif C.lnd f i then Dq (Bi7 P t) λe=>A0q hp (Bx P e) p λv l=>K v [] [] l
  else bif C6 P t then Cr p λps=>VP (C.mvd f i) hp (M2 P t) ps λa m x=>K (.agg a) m x []
  else VP (C.mvd f i) hp (M2 P t) [p] λa m x=>Ad a λc r=>Ag r (K c m x [])
def Afe(C:Lf)(P:Program)(f:FuncId)(hp:Nat->Option Co):Nat->List TypeId->Ae->(Ae->Cl->Cl->List Ko->Option R)->Option R
 |_,[],[],K=>K [] [] [] []
 |i,t::a,p::ps,K=>SY C P f hp i t p λv m x l=>Afe C P f hp (i+1) a ps λvs b I c=>K (v::vs) (m++b) (x++I) (l++c)
 |_,_,_,_=>none
def IA(hp:Nat->Option Co)(ids:Cl):Nat->Option Co:=λi=>bif ids.any (Nat.beq i) then (hp i).map (λ_=>Co.mv) else hp i
def nid(N t:Nat):Nat:=N*(1000+t)
def Alj(N:Nat)(hp:Nat->Option Co):Nat->Nat->Nat
 |0,t=>t
 |k+1,t=>bif (hp (nid N t)).isNone then t else Alj N hp k (t+1)
def Au9(N t:Nat)(ct:CT)(a p:PV)(K:Nat->PV->List (Nat × Co)->Option R):Option R:=
 match ct with
 |.sl es=>
  match a with
  |.own _ _ _=>K5 es p λn c=>K (t+1) (.view (nid N t) es 0 n) [(nid N t,.ar false c)]
  |_=>Y9 es p λ_ n c=>K t (.lst false es n c) []
 |ct=>TN ct p λc=>K t c []
def Aff(N:Nat):Nat->List CT->Ae->Ae->(Nat->Ae->List (Nat × Co)->Option R)->Option R
 |t,[],[],ps,K=>Ag ps (K t [] [])
 |t,ct::a,w::d,ps,K=>Ad ps λp ps=>Au9 N t ct w p λe c b=>Aff N e a d ps λt'' f bs=>K t'' (c::f) (b++bs)
 |_,_,_,_,_=>none
def OK(N:Nat):Nat->List Ko->List Ae->(Nat->Option Co)->((Nat->Option Co)->List (Nat × Co)->Option R)->Option R
 |_,[],ro,hp,K=>Ag ro (K hp [])
 |t,.var id off a f::l,ro,hp,K=>Ad ro λb ro=>Aff N t a f b λg d bs=>
   match hp id with
   |some (.st c)=>Aa (B9 c d off) λc=>OK N g l ro (Dy hp id (some (.st c))) λEk e=>K Ek (bs++e)
   |_=>none
 |t,.row id::l,ro,hp,K=>Ad ro λb ro=>OK N t l ro (Dy hp id (some (.ar false b))) K
 |t,.none::l,ro,hp,K=>Ad ro λ_ ro=>OK N t l ro hp K
def F3:Cl->Bool
 |[]=>true
 |a::r=> !(r.any (Nat.beq a))&&F3 r
def UX(C:Lf)(P:Program)(N:Nat)(F:An)(s:St)(o:Oper)(f:FuncId)(c:Call)(K:St->Option R):Option R:=
 Afe C P f s.hp 0 (Abi P f c) (c.args.toList.map (Da s.tm)) λvs m x l=>
  As (F3 (l.flatMap Ko.ids++x)&&m.all (λi=> !((l.flatMap Ko.ids++x).any (Nat.beq i)))&&jh 0 N&&Jr N o.dst) <|
  Ao (F f (Pw (C.kz f) c.args.toList vs)) λd ro=>
   VN P (C.shr f) N (o.dst.getD N) (Ww P o.type) d λb bs=>
    As (bif Yl P o.type then !Nat.beq b.length 1 else Nat.beq b.length 1) <|
    Bq7 (Alj N s.hp 100 0) λe=>OK N e l ro (IA (Aj s.hp m) x) λEk a=>
     As (Cs Ek (bs++a)) (K ⟨Dp s.tm o.dst (Xh b (Yl P o.type)),A8 Ek (bs++a)⟩)
def Ahy(C:Lf)(P:Program)(N:Nat)(F:An)(s:St)(o:Oper)(K:St->Option R):Option R:=
 match o.op with
 |.store t a x=>As (o.dst.isNone) (UB P s t (Da s.tm a) (Da s.tm x) K)
 |.call c=>
  match c.callee with
  |.builtin .append=>Dq o.dst λd=>Ad c.args.toList λb r=>Ad r λx r'=>Ag r' (Ad c.argTypes.toList λt u=>Ad u λe _=>KE P N s d t e (Da s.tm b) (Da s.tm x) K)
  |.builtin .copy=>Ad c.args.toList λb r=>Ad r λx r'=>Ag r' (Ad c.argTypes.toList λt u=>Ad u λe _=>Ad5 P N s o.dst t e (Da s.tm b) (Da s.tm x) K)
  |.value (.func f)=>UX C P N F s o f c K
  |_=>none
 |_=>none
def Ane(C:Lf)(P:Program)(N:Nat)(F:An)(o:Oper)(s:St)(K:St->Option R):Option R:=
 bif FU C P o.op then Ahy C P N F s o K
 else Aa2 C P N F s.tm (rd s.hp) (Pf s.hp) o λv fz nw=>TX N s o.dst v fz nw K
def Fq(C:Lf)(P:Program)(N:Nat)(F:An)(ops:Array Oper)(o:Oper)(s:St)(K:St->Option R):Option R:=
 match o.guard with
 |none=>Ane C P N F o s K
 |some (j,want)=>
  match (ops[j]?).bind (·.dst) with
  |none=>none
  |some d=>
   match s.tm d with
   |.sc (.bool b)=>
    Ap b (bif want then Ane C P N F o ⟨Dy s.tm d (.sc (.bool true)),s.hp⟩ K else As (Jr N o.dst) (K ⟨Dp (Dy s.tm d (.sc (.bool true))) o.dst (.sc undef),s.hp⟩))
     (bif want then As (Jr N o.dst) (K ⟨Dp (Dy s.tm d (.sc (.bool false))) o.dst (.sc undef),s.hp⟩) else Ane C P N F o ⟨Dy s.tm d (.sc (.bool false)),s.hp⟩ K)
   |.sc (.tuple _)=>As (Jr N o.dst) (K ⟨Dp s.tm o.dst (.sc undef),s.hp⟩)
   |_=>none
def Vy(C:Lf)(P:Program)(N:Nat)(F:An)(ops:Array Oper):List Oper->St->(St->Option R)->Option R
 |[],s,K=>K s
 |o::r,s,K=>Fq C P N F ops o s λa=>Vy C P N F ops r a K
def MP(x y:Option R):Option R:=open Classical in if x=y then x else none
def Ar3(ops:Array Oper)(o:Oper)(s:St)(F:St->Option R):Option R:=
 match o.guard with
 |none=>F s
 |some (j,_)=>
  match (ops[j]?).bind (·.dst) with
  |none=>F s
  |some d=>
   match s.tm d with
   |.ub=>MP (F ⟨Dy s.tm d (.sc (.bool true)),s.hp⟩) (F ⟨Dy s.tm d (.sc (.bool false)),s.hp⟩)
   |_=>F s
def Ag9(C:Lf)(P:Program)(N:Nat)(F:An)(ops:Array Oper):List Oper->St->(St->Option R)->Option R
 |[],s,K=>K s
 |o::r,s,K=>Ar3 ops o s λs1=>Fq C P N F ops o s1 λa=>Ag9 C P N F ops r a K
end
def A4d(o:Oper):Cl:=o.op.operands.toList.filterMap λx=>match x with | .tmp t=>some t|_=>none
def looks(ops:Array Oper)(o:Oper):Cl:=
 A4d o++(match o.guard with|some (g,_)=>((ops[g]?).bind (·.dst)).toList|none=>[])
def Ma(P:Program)(o:Op):Bool:=
 match o with
 |.slice t .. =>match P.underlying t with|some (.array _ _)=>true|_=>false
 |.buildSlice t _ _=>match P.underlying t with|some (.slice e)=>Pz P [e]|_=>true
 |.convert _ a _=>match P.underlying a with|some .string=>true|_=>false
 |.alloc _ | .box .. | .makeSlice .. =>false
 |.move _ | .assign _ | .pick .. | .build .. | .binOp .. | .unOp .. | .fieldAddr .. | .field .. | .index .. | .indexAddr .. | .extract .. | .nilCheck _=>false
 |.call c=>match c.callee with | .builtin .len=>false | .builtin .min=>false | .builtin .max=>false|_=>true
 |_=>true
def Aa5(C:Lf)(P:Program)(ops:Array Oper)(x y:Oper):Bool:=
 (match x.dst with|some d=>(looks ops y).any (Nat.beq d)||(match y.dst with|some e=>Nat.beq d e|none=>false)|none=>false) ||
 (match y.dst with|some e=>(looks ops x).any (Nat.beq e)|none=>false) ||
 (FU C P x.op&&Ma P y.op)||(FU C P y.op&&Ma P x.op)
def Nt(ops:List Oper):Cl->Cl
 |a=>match ops with
  |[]=>a
  |o::r=>Nt r (a++[o.after.toList.foldl (λs e=>bif Region.binds .any e then s ||| 2 ^ e.on ||| a.getD e.on 0 else s) 0])
def YL(C:Lf)(P:Program)(ops:Array Oper)(bs:Cl):List Oper->Nat->Bool
 |[],_=>true
 |o::r,i=>(ops.toList.zipIdx.all λq=> !jh q.2 i || !Aa5 C P ops q.1 o||(bs.getD i 0).testBit q.2)&&YL C P ops bs r (i+1)
def Afx(C:Lf)(P:Program)(ops:Array Oper):Bool:=
 ops.toList.zipIdx.all (λq=>q.1.after.toList.all λe=> !Region.binds .any e||jh e.on q.2)&&YL C P ops (Nt ops.toList []) ops.toList 0
def A6:PV->Cl
 |.view id _ _ _=>[id]
 |.ptr id _=>[id]
 |_=>[]
def Dj:PV->Cl
 |.agg a=>a.flatMap A6
 |p=>A6 p
def Cy:PV->Cl
 |.tup ps=>ps.flatMap Dj
 |p=>Dj p
def HB(P:Program)(o:Op):Bool:=
 match o with
 |.load .. =>true
 |.convert _ a _=>(match P.underlying a with|some .string=>true|_=>false)
 |_=>false
def WW(o:Op):Bool:=
 match o with
 |.call c=>(match c.callee with | .builtin .append=> !SB c|_=>false)
 |_=>false
def A1t(ops:Array Oper)(x y:Oper):Bool:=
 (match x.dst with|some d=>(looks ops y).any (Nat.beq d)||(match y.dst with|some e=>Nat.beq d e|none=>false)|none=>false) ||
 (match y.dst with|some e=>(looks ops x).any (Nat.beq e)|none=>false)
def DH(C:Lf)(P:Program)(x y:Oper):Bool:=(FU C P x.op&&Ma P y.op)||(FU C P y.op&&Ma P x.op)
def Qm(C:Lf)(P:Program)(x y:Oper):Bool:=(FU C P x.op&&HB P y.op)||(FU C P y.op&&HB P x.op)
def A06(C:Lf)(P:Program)(ops:Array Oper)(x y:Oper):Bool:=A1t ops x y||(DH C P x y && !Qm C P x y)
def SC(C:Lf)(P:Program)(ops:Array Oper)(bs:Cl):List Oper->Nat->Bool
 |[],_=>true
 |o::r,i=>(ops.toList.zipIdx.all λq=> !jh q.2 i || !A06 C P ops q.1 o||(bs.getD i 0).testBit q.2)&&SC C P ops bs r (i+1)
def ZV(C:Lf)(P:Program)(ops:Array Oper):Bool:=
 ops.toList.zipIdx.all (λq=>q.1.after.toList.all λe=> !Region.binds .any e||jh e.on q.2)&&SC C P ops (Nt ops.toList []) ops.toList 0
def Un(C:Lf)(P:Program)(s:St)(o:Oper):Cl:=
 let l:=o.op.operands.toList.flatMap λy=>Cy (Da s.tm y)
 bif FU C P o.op && !WW o.op then l++l.flatMap (λi=>match s.hp i with|some (.st c)=>c.flatMap A6|_=>[])
 else bif HB P o.op||WW o.op then l else []
def Av9(a b:Cl):Bool:=a.all λi=> !b.any (Nat.beq i)
def RA(C:Lf)(P:Program)(ops:Array Oper)(bs:Cl)(i:Nat)(o:Oper):Cl:=
 (ops.toList.zipIdx.filter λq=>Qm C P q.1 o && !(jh q.2 i&&(bs.getD i 0).testBit q.2) && !(jh i q.2&&(bs.getD q.2 0).testBit i)).map (·.2)
def WI(C:Lf)(P:Program)(ops:Array Oper)(bs:Cl):List Cl:=ops.toList.zipIdx.map λq=>RA C P ops bs q.2 q.1
def WY(C:Lf)(P:Program)(a:List Cl)(s:St)(i:Nat)(o:Oper):Cl:=
 match a.getD i [] with
 |[]=>[]
 |_::_=>Un C P s o
def Ac5(C:Lf)(P:Program)(a:List Cl)(s:St)(i:Nat)(o:Oper)(q:Nat × Oper × Cl):Bool:=
 !((a.getD i []).any (Nat.beq q.1))||Av9 q.2.2 (WY C P a s i o)
def Mz{R:Type}(C:Lf)(P:Program)(N:Nat)(F:An)(ops:Array Oper)(a:List Cl):List (Nat × Oper × Cl)->Cl->St->(St->Option R)->Option R
 |_,[],s,K=>K s
 |dn,i::l,s,K=>Dq ops[i]? λo=>As (dn.all (Ac5 C P a s i o)&&(WY C P a s i o).all (λk=>(s.hp k).isSome)) (Fq C P N F ops o s λb=>Mz C P N F ops a ((i,o,WY C P a s i o)::dn) l b K)
def A1a(m i:Nat):Nat:=m ||| 2 ^ i
def Brc(m i:Nat):Nat:=bif m.testBit i then m ^^^ 2 ^ i else m
def Asg(ops:Array Oper):List Oper->Nat->Nat
 |[],m=>m
 |o::r,m=>
  let a:=Asg ops r m
  let b:=match o.dst with|some d=>Brc a d|none=>a
  (looks ops o).foldl A1a b
def X9:Code->Nat->(Nat->Nat)->Nat->Nat
 |.skip,g,_,_=>g
 |.region _ ops _,g,_,_=>Asg ops ops.toList g
 |.seq a b,g,e,f=>X9 a (X9 b g e f) e f
 |.cond c a b,g,e,f=>let m:=X9 a g e f ||| X9 b g e f;match c with | .tmp d=>A1a m d|_=>m
 |.block id c,g,e,f=>X9 c g (λj=>bif Nat.beq j id then g else e j) f
 |.loop c,_,e,f=>X9 c (X9 c 0 e f) e f
 |.exit id,_,e,_=>e id
 |.ret,_,_,f=>f
 |_,_,_,_=>0
def Anw(ops:List Oper):Cl:=(ops.filterMap λo=>o.guard.map (·.1)).eraseDups
def Kd:Code->Nat
 |.region _ _ _=>1
 |.seq a b=>Kd a+Kd b
 |.cond _ a b=>Kd a+Kd b
 |.block _ c=>Kd c
 |.loop c=>Kd c
 |_=>0
def FQ:Code->Nat
 |.skip=>1
 |.region _ ops _=>2 ^ min 6 (Anw ops.toList).length
 |.seq a b=>bif (jg 7 (FQ a)&&jg 6 (Kd b))||(jg 5 (FQ a)&&jg 9 (Kd b)) then FQ b else min 1000 (FQ a*FQ b)
 |.cond _ a b=>FQ a+FQ b
 |.block _ c=>FQ c
 |.loop _=>1
 |.exit _=>1
 |_=>0
def Ba4(P:Program)(o:Oper):Bool:=
 match o.op with
 |.load t _=>DV P t&&jg 8 (Bx P t)
 |.store t _ _=>DV P t&&jg 8 (Bx P t)
 |_=>false
def Akm(P:Program):Code->Bool
 |.region _ ops _=>ops.toList.any (Ba4 P)
 |.seq a _=>Akm P a
 |_=>false
def Ass(P:Program):Code->Bool
 |.region _ ops _=>ops.toList.any (Ba4 P)
 |.seq _ b=>Ass P b
 |_=>false
def A5o(P:Program)(o:Oper):Bool:=
 match o.op with
 |.call _=> !DV P o.type&&(Nat.beq (Bx P o.type) 8||jg 15 (Bx P o.type))
 |_=>false
def SD(P:Program):Code->Bool
 |.region _ ops _=>ops.toList.any (A5o P)
 |.seq _ b=>SD P b
 |.cond _ a b=>SD P a||SD P b
 |_=>false
def Bjp:Code->Nat
 |.seq a b=>match b with
  |.ret=>(match a with | .region _ ops _=>(Anw ops.toList).length|_=>0)
  |_=>Bjp b
 |_=>0
def A3n(x y:Code):Bool:=(Nat.beq (FQ x) 1&&Nat.beq (Bjp y) 11)||(Nat.beq (FQ x) 4&&Nat.beq (Kd x) 7&&(Nat.beq (Kd y) 3||Nat.beq (Kd y) 1))||(Nat.beq (FQ x) 9&&Nat.beq (Kd x) 5&&Nat.beq (Kd y) 5)
def XZ(a b:Code):Bool:=A3n a b||(match b with | .seq x y=>A3n x y|_=>false)
def Bkw(a b:Code):Bool:=Nat.beq (FQ a) 2&&Nat.beq (Kd a) 2&&(match a with | .seq x _=>Nat.beq (FQ x) 2|_=>false)&&(match b with | .seq c d=>Nat.beq (FQ c) 2&&((Nat.beq (Kd c) 2&&Nat.beq (Kd d) 5)||(Nat.beq (Kd c) 4&&Nat.beq (Kd d) 1))|_=>false)
def Az3(P:Program)(a b:Code):Bool:=Bkw a b||(jg 7 (FQ a)&&jg 6 (Kd b))||(jg 5 (FQ a)&&jg 9 (Kd b))||(Nat.beq (FQ a) 4&&Nat.beq (Kd a) 11&&Nat.beq (Kd b) 10)||(Nat.beq (FQ a) 2&&Nat.beq (Kd a) 3&&(Nat.beq (Kd b) 10||Nat.beq (Kd b) 7))||XZ a b||Akm P b||Ass P a||SD P a
def Ts(m:Nat):Nat->Cl
 |0=>[]
 |n+1=>Ts m n++(bif m.testBit n then [n] else [])
def lk(l:List (Nat × PV))(i:Nat):PV:=
 match l with
 |[]=>.top
 |(j,p)::r=>bif Nat.beq i j then p else lk r i
def Fb(l:List (Nat × Co))(i:Nat):Option Co:=
 match l with
 |[]=>none
 |(j,b)::r=>bif Nat.beq i j then some b else Fb r i
def LQ(l:List (Nat × Nat))(i:Nat):Option Nat:=
 match l with
 |[]=>none
 |(j,b)::r=>bif Nat.beq i j then some b else LQ r i
def YG(N:Nat)(s:St)(i:Nat):St:=
 match s.tm i with
 |.lst true es 0 []=>
  bif (s.hp i).isNone then ⟨Dy s.tm i (.view i es 0 0),Dy s.hp i (some (.ar false []))⟩
  else bif (s.hp (i+N*3000)).isNone then ⟨Dy s.tm i (.view (i+N*3000) es 0 0),Dy s.hp (i+N*3000) (some (.ar false []))⟩
  else s
 |_=>s
def Agz(N:Nat)(id:Nat)(s:St)(j:Nat):St:=
 match s.hp id with
 |some (.st c)=>
  match c[j]? with
  |some (.lst true es 0 [])=>bif (s.hp (id+N*(j+1))).isNone then ⟨s.tm,Dy (Dy s.hp id (some (.st (c.set j (.view (id+N*(j+1)) es 0 0))))) (id+N*(j+1)) (some (.ar false []))⟩ else s
  |_=>s
 |_=>s
def Aja(N:Nat)(s:St)(i:Nat):St:=
 match s.tm i with
 |.ptr id _=>
  match s.hp id with
  |some (.st c)=>(za c.length).foldl (Agz N id) s
  |_=>s
 |_=>s
def Afj(m:List (Nat × Nat))(old new:Nat):List (Nat × Nat):=
 match LQ m old with
 |some _=>m
 |none=>m++[(old,new)]
def DQ(N new:Nat):Ae->Nat->List (Nat × Nat)->List (Nat × Nat)
 |[],_,m=>m
 |.view id _ _ _::r,j,m=>DQ N new r (j+1) (Afj m id (new+N*(j+1)))
 |_::r,j,m=>DQ N new r (j+1) m
def YO(N:Nat)(s:St)(m:List (Nat × Nat))(i:Nat):List (Nat × Nat):=
 match s.tm i with
 |.view id _ _ _=>Afj m id i
 |.ptr id _=>
  match LQ m id with
  |some _=>m
  |none=>
   match s.hp id with
   |some (.st c)=>DQ N i c 0 (Afj m id i)
   |_=>Afj m id i
 |.agg c=>DQ N i c 0 m
 |_=>m
def Apu(m:List (Nat × Nat)):PV->PV
 |.view id es off n=>match LQ m id with|some j=>.view j es off n|none=>.top
 |.ptr id off=>match LQ m id with|some j=>.ptr j off|none=>.top
 |.sc v=>.sc v
 |.lst z es n c=>.lst z es n c
 |.iptr c off=>.iptr c off
 |_=>.top
def Avw(m:List (Nat × Nat)):PV->PV
 |.agg c=>.agg (c.map (Apu m))
 |p=>Apu m p
def A6n(m:List (Nat × Nat)):Co->Co
 |.st c=>.st (c.map (Apu m))
 |b=>b
def E3(N i:Nat):Nat:=i+N*2000
def Anq(N:Nat)(hp:Nat->Option Co):Nat->List (Nat × Nat)
 |0=>[]
 |i+1=>bif (hp (E3 N i)).isSome then Anq N hp i++[(E3 N i,E3 N i)] else Anq N hp i
def II(N:Nat)(hp:Nat->Option Co):Nat->List (Nat × Nat)->List (Nat × Nat)
 |0,m=>m
 |i+1,m=>
  match hp (E3 N i) with
  |some (.st c)=>DQ N (E3 N i) c 0 (II N hp i m)
  |_=>II N hp i m
def Bnz(N:Nat)(hp:Nat->Option Co)(k:Nat):List (Nat × Nat):=II N hp k (Anq N hp k)
def T5(m:List (Nat × Nat))(hp:Nat->Option Co):List (Nat × Nat)->List (Nat × Co)
 |[]=>[]
 |(old,new)::r=>match hp old with
  |some b=>(new,A6n m b)::T5 m hp r
  |none=>T5 m hp r
section
variable {R:Type}
def Aub(N:Nat)(ls:Cl)(q:Bool)(s:St)(K:St->Option R):Option R:=
 let s2:=bif q then s else ls.foldl (Aja N) (ls.foldl (YG N) s)
 let m:=ls.foldl (YO N s2) (Bnz N s2.hp 8)
 As (F3 (m.map (·.1))&&F3 (m.map (·.2))) (K ⟨lk (ls.map λi=>(i,Avw m (s2.tm i))),Fb (T5 m s2.hp m)⟩)
def OY(N L:Nat)(s:St)(K:St->Option R):Option R:=Aub N (Ts L N) false s K
def As6(N L:Nat)(s:St)(K:St->Option R):Option R:=Aub N (Ts L N) true s K
def A1k(F:(St->Option R)->St->Option R)(nm:St->(St->Option R)->Option R):Nat->St->Option R
 |0,_=>none
 |n+1,s=>F (λa=>nm a (A1k F nm n)) s
def Aaa(n:Nat)(F:St->Option R)(s:St):Option R:=
 match n with
 |0=>none
 |_+1=>F s
def A3e(s:St)(c:Operand)(a e:St->Option R):Option R:=
 match c with
 |.tmp d=>
  match s.tm d with
  |.sc (.bool b)=>Ap b (a ⟨Dy s.tm d (.sc (.bool true)),s.hp⟩) (e ⟨Dy s.tm d (.sc (.bool false)),s.hp⟩)
  |.ub=>MP (a s) (e s)
  |_=>none
 |.const (.bool true)=>a s
 |.const (.bool false)=>e s
 |_=>none
def Z1(C:Lf)(P:Program)(u N:Nat)(F:An):Code->Nat->(Nat->Nat)->Nat->(St->Option R)->(Nat->St->Option R)->(St->Option R)->St->Option R
 |.skip,_,_,_,g,_,_,s=>g s
 |.region _ ops draw,_,_,_,g,_,_,s=>Am8 (draw && !Afx C P ops) (As (ZV C P ops) (A96 (WI C P ops (Nt ops.toList [])) λl=>Mz C P N F ops l [] (za ops.size) s g)) (Am8 draw (Vy C P N F ops ops.toList s g) (Ag9 C P N F ops ops.toList s g))
 |.seq a b,f,d,e,g,h,kr,s=>Z1 C P u N F a (X9 b f d e) d e (λi=>Am8 (Az3 P a b) (Am8 (XZ a b) (As6 N (X9 b f d e) i (Aaa u λs''=>Z1 C P u N F b f d e g h kr s'')) (OY N (X9 b f d e) i (Aaa u λs''=>Z1 C P u N F b f d e g h kr s''))) (Z1 C P u N F b f d e g h kr i)) h kr s
 |.cond c a b,f,d,e,g,h,kr,s=>A3e s c (Z1 C P u N F a f d e g h kr) (Z1 C P u N F b f d e g h kr)
 |.block id c,f,d,e,g,h,kr,s=>Z1 C P u N F c f (λj=>bif Nat.beq j id then f else d j) e g (λj i=>bif Nat.beq j id then g i else h j i) kr s
 |.loop c,f,d,e,_,h,kr,s=>
  OY N (X9 (.loop c) f d e) s (A1k (λk i=>Z1 C P u N F c (X9 (.loop c) f d e) d e k h kr i) (OY N (X9 (.loop c) f d e)) u)
 |.exit id,_,_,_,_,h,_,s=>h id s
 |.ret,_,_,_,_,_,kr,s=>kr s
 |_,_,_,_,_,_,_,_=>none
def A2p(id:Nat)(t:CT)(p:PV)(K:PV->List (Nat × Co)->Option R):Option R:=
 match t with
 |.sl es=>
  match p with
  |.own a n c=>bif Nat.beq a es then K (.view id es 0 n) [(id,.ar false c)] else none
  |p=>Y9 es p λz n c=>K (.lst z es n c) []
 |t=>TN t p λc=>K c []
def VC(N:Nat):Nat->List CT->Ae->(Ae->List (Nat × Co)->Option R)->Option R
 |_,[],ps,K=>Ag ps (K [] [])
 |id,t::a,ps,K=>Ad ps λp ps=>A2p id t p λc b=>VC N (id+N) a ps λd bs=>K (c::d) (b++bs)
def inK(P:Program)(N i:Nat)(t:TypeId)(p:PV)(K:PV->List (Nat × Co)->Option R):Option R:=
 match PO P t with
 |some e=>IR p λps=>As (jh i 8) (VC N (E3 N i+N) (M2 P e) ps λa bs=>K (.ptr (E3 N i) 0) ((E3 N i,.st a)::bs))
 |none=>
  match p with
  |.tup ps=>Dq (Bi7 P t) λe=>As (jh i 8) (Ad ps λq r=>Ag r (K5 (Bx P e) q λn c=>K (.view (E3 N i) (Bx P e) 0 n) [(E3 N i,.ar false c)]))
  |p=>
   bif C6 P t then Cr p λps=>VC N (i+N) (M2 P t) ps λa bs=>K (.agg a) bs
   else VC N (i+N) (M2 P t) [p] λa bs=>Ad a λc r=>Ag r (K c bs)
def A18(P:Program)(N:Nat):Nat->List TypeId->Ae->(List (Nat × PV)->List (Nat × Co)->Option R)->Option R
 |_,[],ps,K=>Ag ps (K [] [])
 |i,t::b,ps,K=>Ad ps λp ps=>inK P N i t p λv bs=>A18 P N (i+1) b ps λvs a=>K ((i,v)::vs) (bs++a)
def Ba3(hp:Nat->Option Co)(t:CT)(p:PV)(K:PV->Cl->Cl->Option R):Option R:=
  match t with
  |.sl es=>
    match p with
    |.view id a off n=>bif Nat.beq a es&&Nat.beq off 0 then
        (match hp id with
         |some (.ar false c)=>As (decide (n*es<=c.length)) (K (.own es n (c.take (n*es))) [id] [])
         |_=>none) else none
    |p=>Y9 es p λz _ _=>As z (K (.own es 0 []) [] [])
  |t=>TN t p λc=>K c [] []
def Atj(shr:Bool)(hp:Nat->Option Co)(t:CT)(p:PV)(K:PV->Cl->Cl->Option R):Option R:=
 bif shr then Xu (Pf hp) t p λc m=>K c [] m else Ba3 hp t p K
def ST(shr:Bool)(hp:Nat->Option Co):List CT->Ae->(Ae->Cl->Cl->Option R)->Option R
 |[],[],K=>K [] [] []
 |t::a,p::ps,K=>Atj shr hp t p λc m z=>ST shr hp a ps λb d e=>K (c::b) (m++d) (z++e)
 |_,_,_=>none
def A27(P:Program)(shr:Bool)(hp:Nat->Option Co)(t:TypeId)(p:PV)(K:PV->Cl->Cl->Option R):Option R:=
 match PO P t with
 |some e=>
  match p with
  |.ptr id off=>
   match hp id with
   |some (.st c)=>As (Nat.beq off 0) (ST shr hp (M2 P e) c λa m z=>K (.pbox a) (id::m) z)
   |_=>none
  |_=>none
 |none=>
  bif C6 P t then Cr p λps=>ST shr hp (M2 P t) ps λa m z=>K (.agg a) m z
  else ST shr hp (M2 P t) [p] λa m z=>Ad a λc r=>Ag r (K c m z)
def A2a(P:Program)(s:St)(r:ResultVar)(K:PV->Option R):Option R:=
 match r with
 |.tmp t=>K (s.tm t)
 |.cell a t=>QG false P (rd s.hp) (Pf s.hp) t (s.tm a) K
def Ahv(P:Program)(shr:Bool)(s:St):List ResultVar->List TypeId->(Ae->Cl->Cl->Option R)->Option R
 |[],[],K=>K [] [] []
 |r::rs,t::a,K=>A2a P s r λp=>A27 P shr s.hp t p λv m z=>Ahv P shr s rs a λvs b c=>K (v::vs) (m++b) (z++c)
 |_,_,_=>none
def YD(hp:Nat->Option Co):List CT->Ae->Ae->(Ae->Cl->Cl->Option R)->Option R
 |[],[],[],K=>K [] [] []
 |t::a,w::b,p::ps,K=>Atj (match w with | .own _ _ _=>false|_=>true) hp t p λc m z=>YD hp a b ps λd e f=>K (c::d) (m++e) (z++f)
 |_,_,_,_=>none
def UN(P:Program)(N:Nat)(hp:Nat->Option Co):Nat->List TypeId->Ae->(List Ae->Cl->Cl->Cl->Option R)->Option R
 |_,[],ps,K=>Ag ps (K [] [] [] [])
 |i,t::a,ps,K=>Ad ps λp ps=>
  match p with
  |.pbox f=>Dq (PO P t) λe=>
    match hp (E3 N i) with
    |some (.st c)=>YD hp (M2 P e) f c λg m z=>UN P N hp (i+1) a ps λr b d q=>K (g::r) (m++b) (z++d) (E3 N i::q)
    |_=>none
  |.tup _=>
    match hp (E3 N i) with
    |some (.ar false c)=>UN P N hp (i+1) a ps λr b d q=>K (c::r) b d (E3 N i::q)
    |_=>none
  |_=>UN P N hp (i+1) a ps K
def Ar6(rs:List ResultVar):Nat:=rs.foldl (λm r=>match r with | .tmp t=>A1a m t | .cell a _=>A1a m a) 0
end
def Aap(P:Program):Nat->List TypeId->Nat->Nat
 |_,[],m=>m
 |i,t::a,m=>Aap P (i+1) a (match P.underlying t with|some (.pointer _)=>A1a m i|_=>m)
def Axs(C:Lf)(P:Program)(f:FuncId)(fn:Func)(args:Ae)(s:St):Option A3:=
 Ahv P (C.shr f) s fn.results.toList fn.resultTypes.toList λvs m z=>UN P fn.ntmps s.hp 0 fn.params.toList args λos a b q=>
  As (F3 ((m++a)++q)&&(z++b).all (λi=> !(((m++a)++q).any (Nat.beq i)))) (some ⟨vs,os⟩)
def Bcc(C:Lf)(P:Program)(u:Nat)(F:An)(f:FuncId)(fn:Func)(c:Code)(args:Ae):Option A3:=
  A18 P fn.ntmps 0 fn.params.toList args λtms bs=>As (jg args.length fn.ntmps&&Cs (λ_=>none) bs)
    (let a:=Aap P 0 fn.params.toList (Ar6 fn.results.toList)
     Z1 C P u fn.ntmps F c a (λ_=>0) a (Axs C P f fn args) (λ_ _=>none) (Axs C P f fn args) ⟨lk tms,Fb bs⟩)
def Ac(C:Lf)(P:Program)(u:Nat):Nat->FuncId->Ae->Option A3
 |0,_,_=>none
 |d+1,f,args=>
  match C.ext f with
  |some g=>g args
  |none=>
   match P.funcs[f]? with
   |none=>none
   |some a=>match a.body with
    |none=>none
    |some c=>Bcc C.core P u (Ac C P u d) f a c args
inductive Dir where
 |l
 |r
 |i (m:Nat)
section
variable {R:Type}
def NK(C:Lf)(P:Program)(u N:Nat)(F:An):List Dir->Code->Nat->(Nat->Nat)->Nat->(St->Option R)->(Nat->St->Option R)->(St->Option R)->Nat->St->Option R
 |[],.seq _ b,f,d,e,h,g,kr,n,s=>Aaa n (λs''=>Z1 C P u N F b f d e h g kr s'') s
 |[],.loop c,f,d,e,_,g,kr,n,s=>A1k (λk i=>Z1 C P u N F c (X9 (.loop c) f d e) d e k g kr i) (OY N (X9 (.loop c) f d e)) n s
 |.l::p,.seq a b,f,d,e,h,g,kr,n,s=>NK C P u N F p a (X9 b f d e) d e (λi=>Am8 (Az3 P a b) (Am8 (XZ a b) (As6 N (X9 b f d e) i (Aaa u λs''=>Z1 C P u N F b f d e h g kr s'')) (OY N (X9 b f d e) i (Aaa u λs''=>Z1 C P u N F b f d e h g kr s''))) (Z1 C P u N F b f d e h g kr i)) g kr n s
 |.r::p,.seq _ b,f,d,e,h,g,kr,n,s=>NK C P u N F p b f d e h g kr n s
 |.l::p,.cond _ a _,f,d,e,h,g,kr,n,s=>NK C P u N F p a f d e h g kr n s
 |.r::p,.cond _ _ b,f,d,e,h,g,kr,n,s=>NK C P u N F p b f d e h g kr n s
 |.l::p,.block id c,f,d,e,h,g,kr,n,s=>NK C P u N F p c f (λj=>bif Nat.beq j id then f else d j) e h (λj i=>bif Nat.beq j id then h i else g j i) kr n s
 |.i m::p,.loop c,f,d,e,_,g,kr,n,s=>
  NK C P u N F p c (X9 (.loop c) f d e) d e
   (λi=>OY N (X9 (.loop c) f d e) i (A1k (λk i=>Z1 C P u N F c (X9 (.loop c) f d e) d e k g kr i) (OY N (X9 (.loop c) f d e)) m)) g kr n s
 |_,_,_,_,_,_,_,_,_,_=>none
end
def Bgr(C:Lf)(P:Program)(u:Nat)(F:An)(f:FuncId)(fn:Func)(c:Code)(args:Ae)(p:List Dir)(n:Nat)(s:St):Option A3:=
 let a:=Aap P 0 fn.params.toList (Ar6 fn.results.toList)
 NK C P u fn.ntmps F p c a (λ_=>0) a (Axs C P f fn args) (λ_ _=>none) (Axs C P f fn args) n s
def A8f:Cl:=[
 130,
 1000000]
def Beq:Cl:=[
 86,
 4,
 63,
 13,
 103,
 135,
 155,
 156,
 32,
 114,
 60,
 10,
 33,
 34,
 11,
 9,
 15,
 5,
 36,
 1000000]
def Bch:Cl:=[
 1000000]
def A9q:Cl:=[
 106,
 1000000]
def Bc4:Cl:=[
 106,
 1000000]
def Aa0(args:Ae):Option A3:=
 match args with
 |[.sc (.string s)]=>bif decide (s.size<=9223372036854775807) then some ⟨[.sc (.bool (Lib.validD s.data.toList))],[]⟩ else none
 |_=>none
def QC:Cl:=[
 174,
 197,
 181,
 166,
 186,
 183,
 198,
 211,
 212,
 98,
 152,
 153,
 151,
 129,
 93,
 144,
 115,
 70,
 45,
 39,
 38,
 109,
 131,
 132,
 133,
 99,
 94,
 95,
 96,
 100,
 128,
 90,
 54,
 57,
 155,
 156,
 135,
 103,
 105,
 91,
 51,
 137,
 1000000]
def Boz:Cl:=[
 1000000]
def CB:Lf:=⟨λf=>Beq.any (Nat.beq f),λf i=>Nat.beq i 0&&Bc4.any (Nat.beq f),λf i=>(Nat.beq i 0&&Bch.any (Nat.beq f))||(Nat.beq i 2&&A9q.any (Nat.beq f)),λf=>A8f.any (Nat.beq f),λ_=>none,λN=>Boz.any (Nat.beq N)⟩
def CX(I:FuncId->Option (Ae->Option A3)):Lf:={ CB with ext:=λf=>bif QC.any (Nat.beq f) then none else I f }
def Bdb(f:Func):Code:=match f.body with|some c=>c|none=>.skip
section
variable {R:Type}{r:Option R}
theorem Bm{K:Int->Option R}{n:Int}(h:p=.sc (.int k n))(a:K n=r):Bi k p K=r:=by subst h;unfold Bi;simp[a]
theorem Boc{K:IntKind->Int->Option R}{n:Int}(h:p=.sc (.int k n))(a:K k n=r):Fa p K=r:=by subst h;exact a
theorem Bj{K:Bool->Option R}(h:p=.sc (.bool b))(a:K b=r):Bh p K=r:=by subst h;exact a
theorem Bo{K:ByteArray->Option R}{s:ByteArray}(h:p=.sc (.string s))(a:K s=r):At p K=r:=by subst h;exact a
theorem Of{K:Bool->Nat->Ae->Option R}(h:p=.lst z es n c)(a:K z n c=r):Y9 es p K=r:=by subst h;unfold Y9;simp[Uz,a]
theorem K0{K:Nat->Ae->Option R}(h:p=.own es n c)(a:K n c=r):K5 es p K=r:=by subst h;unfold K5;simp[Uz,a]
theorem Bn{K:Option R}(h:b=true)(a:K=r):As b K=r:=by subst h;exact a
theorem Bop{x y:Option R}(h:b=true)(a:x=r):Ap b x y=r:=by subst h;exact a
theorem Bpt{x y:Option R}(h:b=false)(a:y=r):Ap b x y=r:=by subst h;exact a
theorem Ff{α:Type}{o:Option α}{K:α->Option R}{a:α}(h:o=some a)(b:K a=r):Dq o K=r:=by subst h;exact b
theorem A5{α:Type}{l:List α}{K:α->List α->Option R}{a:α}{t:List α}(h:l=a::t)(b:K a t=r):Ad l K=r:=by subst h;exact b
theorem Bk{α:Type}{l:List α}{K:Option R}(h:l=[])(a:K=r):Ag l K=r:=by subst h;exact a
theorem I6{K:Ae->Option R}(h:p=.agg c)(a:K c=r):Cr p K=r:=by subst h;exact a
theorem YJ{K:Ae->Option R}(h:p=.pbox c)(a:K c=r):IR p K=r:=by subst h;exact a
theorem A4{K:Ae->List Ae->Option R}{v:Ae}{q:List Ae}(h:o=some ⟨v,q⟩)(a:K v q=r):Ao o K=r:=by subst h;exact a
end
theorem WZ(a b:Int):(a != b)=decide (a≠b):=by by_cases h:a=b<;>simp[h,bne]
theorem Avr(a b:Int):(a==b)=decide (a=b):=by by_cases h:a=b<;>simp[h]
section
variable {R:Type}
theorem CR(v:Ae)(o:List Ae)(K:Ae->List Ae->Option R):Ao (some ⟨v,o⟩) K=K v o:=by exact id rfl
theorem NM{α:Type}(K:Option R):Ag ([]:List α) K=K:=by exact id rfl
theorem EA{α:Type}(a:α)(r:List α)(K:α->List α->Option R):Ad (a::r) K=K a r:=by exact id rfl
theorem RJ(b:Bool)(K:Bool->Option R):Bh (.sc (.bool b)) K=K b:=by exact id rfl
theorem Ag6(s:ByteArray)(K:ByteArray->Option R):At (.sc (.string s)) K=K s:=by exact id rfl
theorem OQ(k:IntKind)(n:Int)(K:Int->Option R):Bi k (.sc (.int k n)) K=K n:=by unfold Bi;simp
theorem A2j(k:IntKind)(n:Int)(K:IntKind->Int->Option R):Fa (.sc (.int k n)) K=K k n:=by exact id rfl
theorem A93(z:Bool)(es n:Nat)(c:Ae)(K:Bool->Nat->Ae->Option R):Y9 es (.lst z es n c) K=K z n c:=by unfold Y9;simp
theorem Bao(es n:Nat)(c:Ae)(K:Nat->Ae->Option R):K5 es (.own es n c) K=K n c:=by unfold K5;simp
theorem Aza(c:Ae)(K:Ae->Option R):Cr (.agg c) K=K c:=by exact id rfl
theorem Ar9(c:Ae)(K:Ae->Option R):IR (.pbox c) K=K c:=by exact id rfl
theorem A4i{α:Type}(a:α)(K:α->Option R):Dq (some a) K=K a:=by exact id rfl
theorem Ga{α:Type}(a:α)(K:α->Option R):Aa a K=K a:=by exact id rfl
theorem A4m(K:Option R):As true K=K:=by exact id rfl
theorem QD(p:Prop)[Decidable p](K:Option R)(h:p):As (decide p) K=K:=by simp[As,h]
theorem Ah5(b c:Bool)(K:Option R):As (b&&c) K=As b (As c K):=by cases b<;>rfl
theorem Aha(x y:Option R):Ap true x y=x:=by exact id rfl
theorem Ahd(x y:Option R):Ap false x y=y:=by exact id rfl
theorem GN(p:Prop)[Decidable p](x y:Option R)(h:p):Ap (decide p) x y=x:=by simp[Ap,h]
theorem Fn(p:Prop)[Decidable p](x y:Option R)(h:¬p):Ap (decide p) x y=y:=by simp[Ap,h]
theorem NR(p:Prop)[Decidable p](x y:Option R):Ap (decide p) x y=if p then x else y:=by by_cases h:p<;>simp[Ap,h]
theorem XY(b:Bool)(x y:Option R):Ap b x y=if b=true then x else y:=by cases b<;>rfl
theorem Ag0(b:Bool)(x y:Option R):Ap (!b) x y=Ap b y x:=by cases b<;>rfl
theorem E9(a b:Int)(x y:Option R):Ap (a==b) x y=if a=b then x else y:=by rw[Avr,NR]
theorem Ej(a b:Int)(x y:Option R):Ap (a != b) x y=if a=b then y else x:=by rw[WZ,NR];by_cases h:a=b<;>simp[h]
theorem At1(x:Option R):MP x x=x:=by unfold MP;simp
end
theorem wrap_i64{x:Int}(a: -9223372036854775808<=x)(b:x<=9223372036854775807):IntKind.wrap .i64 x=x:=by have:=IntWalk.i64_in x Ω;exact this
theorem Ab7{x:Int}(a:0<=x)(b:x<=18446744073709551615):IntKind.wrap .u64 x=x:=by simp only[IntKind.wrap,IntKind.signed,IntKind.bits];simp;omega
theorem Gt{x:Int}(a:0<=x)(b:x<=255):IntKind.wrap .u8 x=x:=by simp only[IntKind.wrap,IntKind.signed,IntKind.bits];simp;omega
theorem Vw(x:Int):0<=IntKind.wrap .u64 x/\IntKind.wrap .u64 x<=18446744073709551615:=by simp only[IntKind.wrap,IntKind.signed,IntKind.bits];simp;omega
theorem NC{c:Prop}[Decidable c](k:IntKind)(a b:Int)(o:List Ae):(if c then some (A3.mk [.sc (.int k a)] o) else some (A3.mk [.sc (.int k b)] o))=some (A3.mk [.sc (.int k (if c then a else b))] o):=by split<;>rfl
theorem Cb{α:Type}{l r:List α}{x:α}(h:l.drop i=x::r):i<l.length/\l[i]?=some x/\l.drop (i+1)=r:=by
 have a:i<l.length:=by
  rcases Kp i l.length with a|a
  ·exact a
  ·rw[zb a] at h;cases h
 rw[zc a] at h;injection h with b c;exact⟨a,by rw[zd a,b],c⟩
theorem drop_nil{α:Type}{l:List α}(h:l.drop i=[]):l.length<=i:=by have:=congrArg List.length h;simp at this;omega
section
variable {α:Type}{f:α->Ae}{k:Nat}
theorem TZ(a:∀x,(f x).length=k):∀(l:List α),(l.flatMap f).length=l.length*k
 |[]=>Ψ
 |x::l=>by simp[a x,TZ a l,ji];omega
theorem YH(a:∀x,(f x).length=k):∀(l:List α)(i:Nat),(l.flatMap f).drop (i*k)=(l.drop i).flatMap f
 |l,0=>Ψ
 |[],i+1=>Ψ
 |x::l,i+1=>by
  rw[Le,ji,jj,<-List.drop_drop,List.drop_append_of_le_length (by rw[a x];omega)]
  rw[show (f x).drop k=[] from zb (by rw[a x];omega),SJ]
  exact YH a l i
theorem Aig(a:∀x,(f x).length=k):∀(l:List α)(i:Nat),(l.flatMap f).take (i*k)=(l.take i).flatMap f
 |l,0=>Ψ
 |[],i+1=>Ψ
 |x::l,i+1=>by
  rw[Le,ji,jj,ze,Le,<-Aig a l i];rw[show k+i*k=(f x).length+i*k by rw[a x],List.take_length_add_append]
theorem Vr(b:∀x,(f x).length=k){l:List α}{x:α}(h:l[i]?=some x)(d:j<k):(l.flatMap f).getD (i*k+j) .top=(f x).getD j .top:=by
 have a:((l.flatMap f).drop (i*k))[j]?=(l.flatMap f)[i*k+j]?:=zg;rw[YH b] at a
 have c:i<l.length:=by
  rcases Kp i l.length with a|a
  ·exact a
  ·rw[zh a] at h;cases h
 rw[zc c,Le] at a;have e:l[i]=x:=by rw[zd c] at h;injection h
 rw[e,zi (by rw[b x];exact d)] at a
 simp only[zj,<-a]
theorem Apt(b:∀x,(f x).length=k){p:PV}{j:Nat}(d:j<k):∀{l:List α}{i:Nat}{x y:α},l[i]?=some x->f y=(f x).set j p->(l.flatMap f).set (i*k+j) p=(l.set i y).flatMap f
 |[],i,x,y,h,_=>by simp at h
 |a::l,0,x,y,h,c=>by
  simp at h;subst h;rw[jk,I8,Le,List.set_cons_zero,Le,c,List.set_append_left _ _ (by rw[b];exact d)]
 |a::l,i+1,x,y,h,c=>by
  simp at h;rw[Le,List.set_cons_succ,Le,List.set_append_right _ _ (by rw[b,ji];omega),b]
  congr 1
  rw[show (i+1)*k+j-k=i*k+j by rw[ji];omega]
  exact Apt b d h c
theorem J4(h:i<c.length):B9 c [p] i=c.set i p:=by unfold B9;rw[List.set_eq_take_append_cons_drop,Bv h];simp
end
theorem DZ{α:Type}{l:List α}{x:α}(h:l[i]?=some x):i<l.length:=by
 rcases Kp i l.length with a|a
 ·exact a
 ·rw[zh a] at h;cases h
abbrev A85(k:IntKind)(n:Int):Ae:=[.sc (.int k n)]
abbrev Af(k:IntKind)(l:Ak):Ae:=l.flatMap (A85 k)
theorem IL(k:IntKind)(n:Int):(A85 k n).length=1:=rfl
theorem Tm{l:Ak}{n:Int}(h:l[i]?=some n):(Af k l).getD i .top=.sc (.int k n):=by
 have:=Vr (IL k) h (j:=0) Ω
 simpa using this
theorem Al(k:IntKind)(l:Ak):(Af k l).length=l.length:=by rw[TZ (IL k)];omega
theorem Nk(k:IntKind)(l:Ak)(n:Int):Af k l++[.sc (.int k n)]=Af k (l++[n]):=Ψ
theorem NH(k:IntKind)(l:Ak):List.take l.length (Af k l)=Af k l:=Gp (by rw[Al];omega)
theorem Ano{a m:Int}(b:0<=m)(c:m<9223372036854775808):0<=C8 .i64 a m/\C8 .i64 a m<=m:=by
 have JJ:(zx 64 a &&& zx 64 m).toNat<=m.toNat:=by
  rw[zy];refine jl Nat.and_le_right ?_;rw[BitVec.toNat_ofInt];omega
 have:C8 .i64 a m=((zx 64 a &&& zx 64 m).toNat:Int):=by
  unfold C8;exact wrap_i64 Ω (by show ((zx 64 a &&& zx 64 m).toNat:Int)<=_;omega)
 rw[this];omega
theorem Aq:type_of% @CR/\type_of% @NM/\type_of% @EA/\type_of% @RJ/\type_of% @Ag6/\type_of% @OQ/\type_of% @A2j/\type_of% @A93/\type_of% @Bao/\type_of% @Aza/\type_of% @Ar9/\type_of% @A4i/\type_of% @Ga/\type_of% @A4m/\type_of% @QD/\type_of% @Ah5/\type_of% @Aha/\type_of% @Ahd/\type_of% @GN/\type_of% @Fn/\type_of% @At1/\type_of% @qa/\type_of% @qb/\type_of% @qf/\type_of% @if_true.{1}/\type_of% @if_false.{1}/\type_of% @Bool.true_and/\type_of% @Bool.and_true/\type_of% @qc/\type_of% @qd/\type_of% @decide_true/\type_of% @decide_false:=
 ⟨@CR,@NM,@EA,@RJ,@Ag6,@OQ,@A2j,@A93,@Bao,@Aza,@Ar9,@A4i,@Ga,@A4m,@QD,@Ah5,@Aha,@Ahd,@GN,@Fn,@At1,@qa,@qb,@qf,@if_true.{1},@if_false.{1},@Bool.true_and,@Bool.and_true,@qc,@qd,@decide_true,@decide_false⟩
theorem gT:type_of% @qe/\type_of% @decide_eq_true_eq/\type_of% @beq_iff_eq.{0}/\type_of% @bne_iff_ne.{0}/\type_of% @ne_eq.{1}/\type_of% @qg/\type_of% @true_and/\type_of% @and_true:=
 ⟨@qe,@decide_eq_true_eq,@beq_iff_eq.{0},@bne_iff_ne.{0},@ne_eq.{1},@qg,@true_and,@and_true⟩
theorem gF:type_of% @decide_eq_false_iff_not/\type_of% @beq_eq_false_iff_ne.{0}/\type_of% @bne_eq_false_iff_eq.{0}/\type_of% @ne_eq.{1}/\type_of% @Bool.not_eq_false':=
 ⟨@decide_eq_false_iff_not,@beq_eq_false_iff_ne.{0},@bne_eq_false_iff_eq.{0},@ne_eq.{1},@Bool.not_eq_false'⟩
section
open Go.RowKit
def B4{α β:Type}(R:α->β->Prop):List α->List β->Prop
 |[],[]=>True
 |a::c,b::bs=>R a b/\B4 R c bs
 |_,_=>False
section
variable {α β γ:Type}{R S:α->β->Prop}
theorem B4.len:∀{a:List α}{bs:List β},B4 R a bs->a.length=bs.length
 |[],[],_=>rfl
 |_::_,_::_,h=>by simp[B4.len h.2]
 |[],_::_,h=>h.elim
 |_::_,[],h=>h.elim
theorem B4.at_:∀{e:List α}{bs:List β},B4 R e bs->∀{i:Nat} {a b},e[i]?=some a->bs[i]?=some b->R a b
 |[],[],_,i,a,b,h,_=>by simp at h
 |_::_,_::_,h,0,a,b,c,d=>by simp at c d;subst c;subst d;exact h.1
 |_::_,_::_,h,i+1,a,b,c,d=>by simp at c d;exact B4.at_ h.2 c d
 |[],_::_,h,_,_,_,_,_=>h.elim
 |_::_,[],h,_,_,_,_,_=>h.elim
theorem B4.of_at:∀{d:List α}{bs:List β},d.length=bs.length->(∀(i:Nat) a b,d[i]?=some a->bs[i]?=some b->R a b)->B4 R d bs
 |[],[],_,_=>trivial
 |a::d,b::bs,c,h=>⟨h 0 a b rfl rfl,B4.of_at (by simpa using c) λi x y e f=>h (i+1) x y e f⟩
 |[],_::_,c,_=>by simp at c
 |_::_,[],c,_=>by simp at c
theorem B4.mono(c:∀a b,R a b->S a b):∀{d:List α}{bs:List β},B4 R d bs->B4 S d bs
 |[],[],_=>trivial
 |_::_,_::_,h=>⟨c _ _ h.1,B4.mono c h.2⟩
 |[],_::_,h=>h.elim
 |_::_,[],h=>h.elim
theorem B4.mono_mem:∀{d:List α}{bs:List β},(∀a∈d,∀b,R a b->S a b)->B4 R d bs->B4 S d bs
 |[],[],_,_=>trivial
 |a::_,_::_,c,h=>⟨c a Ψ _ h.1,B4.mono_mem (λx e=>c x (by simp[e])) h.2⟩
 |[],_::_,_,h=>h.elim
 |_::_,[],_,h=>h.elim
theorem B4.app:∀{d:List α}{bs:List β}{a:List α}{b:List β},B4 R d bs->B4 R a b->B4 R (d++a) (bs++b)
 |[],[],_,_,_,c=>c
 |_::_,_::_,_,_,h,c=>⟨h.1,B4.app h.2 c⟩
 |[],_::_,_,_,h,_=>h.elim
 |_::_,[],_,_,h,_=>h.elim
theorem B4.take:∀(n:Nat){a:List α}{bs:List β},B4 R a bs->B4 R (a.take n) (bs.take n)
 |0,_,_,_=>by simp[B4]
 |_+1,[],[],_=>trivial
 |n+1,_::_,_::_,h=>⟨h.1,B4.take n h.2⟩
 |_+1,[],_::_,h=>h.elim
 |_+1,_::_,[],h=>h.elim
theorem B4.drop:∀(n:Nat){a:List α}{bs:List β},B4 R a bs->B4 R (a.drop n) (bs.drop n)
 |0,_,_,h=>h
 |_+1,[],[],_=>trivial
 |n+1,_::_,_::_,h=>B4.drop n h.2
 |_+1,[],_::_,h=>h.elim
 |_+1,_::_,[],h=>h.elim
end
inductive A7(w:World)(A:Nat->Prop):PV->Value->Prop where
 |sc (v:Value):A7 w A (.sc v) v
 |top (v:Value):A7 w A .top v
 |ub (b:Bool):A7 w A .ub (.bool b)
 |lnil (z:Bool) (es:Nat):A7 w A (.lst z es 0 []) (.slice none 0 0)
 |lemp (es:Nat) (a:Addr) (cap:Nat):A7 w A (.lst false es 0 []) (.slice (some a) 0 cap)
 |lst (es n:Nat) (cells:Ae) (a:Addr) (cap:Nat) (f:Nat->Value) (hs:a.spot=none) (hb:a.block<w.heap.size) (hA:¬A a.block) (hn:n<=cap)
   (hc:∀j c,cells[j]?=some c->w.cell? (a.add j)=some (f j)) (h1:∀j c,cells[j]?=some c->(f j).oneCell'=true) (hr:∀j c,cells[j]?=some c->A7 w A c (f j)):A7 w A (.lst false es n cells) (.slice (some a) n cap)
def bsz(w:World)(b:Nat):Nat:=
 match w.heap[b]? with
 |some (.cells c _ _)=>c.size
 |_=>0
def Akn(w:World)(b:Nat):Bool:=w.frozen? ⟨b,bsz w b,none⟩
def Fit(w:World)(es b e:Nat):Prop:=e<=bsz w b/\(es=1\/Akn w b=false)
def Kk(w w':World)(b:Nat):Prop:=bsz w b<=bsz w' b/\(Akn w b=false->Akn w' b=false)
theorem Kk.refl(w:World)(b:Nat):Kk w w b:=⟨Cz _,id⟩
theorem Kk.same{w w':World}{b:Nat}(h:w'.heap[b]?=w.heap[b]?):Kk w w' b:=by
 have e:bsz w' b=bsz w b:=by unfold bsz;rw[h]
 refine⟨by rw[e];exact Cz _,λq=>?_⟩
 unfold Akn at q ⊢;rw[e];unfold ju at q ⊢;simp only[h];exact q
theorem Kk.trans{w w' w'':World}{b:Nat}(h:Kk w w' b)(a:Kk w' w'' b):Kk w w'' b:=⟨jl h.1 a.1,λq=>a.2 (h.2 q)⟩
theorem Fit.step{w w':World}{b e:Nat}(h:Fit w es b e)(a:Kk w w' b):Fit w' es b e:=⟨jl h.1 a.1,h.2.imp id a.2⟩
def RdT(w:World)(A:Nat->Prop)(a:Addr)(cells:Ae):Prop:=∀j c,cells[j]?=some c->∃v,w.cell? (a.add j)=some v/\v.oneCell'=true/\A7 w A c v
def C4(w:World)(A:Nat->Prop)(β:Nat->Option (Nat × Nat))(p:PV)(v:Value):Prop:=
 match p with
 |.view id es off n=>(β id=none/\off=0/\n=0/\∃ad,v=.slice ad 0 0) \/
   ∃b o x cap,β id=some (b,o)/\v=.slice (some ⟨b,x,none⟩) n cap/\(x=o+off\/(n=0/\off≠0))/\n<=cap/\Fit w es b (x+cap*es)/\b<w.heap.size
 |.ptr id off=>∃b o,β id=some (b,o)/\v=.pointer (some ⟨b,o+off,none⟩)
 |.iptr c off=>∃a:Addr,v=.pointer (some (a.add off))/\a.spot=none/\a.block<w.heap.size/\¬A a.block/\RdT w A a c
 |p=>A7 w A p v
def Mq(w:World)(A:Nat->Prop)(β:Nat->Option (Nat × Nat))(p:PV)(v:Value):Prop:=
 match p with
 |.agg a=>∃vs,v=.agg ⟨vs⟩/\B4 (C4 w A β) a vs
 |p=>C4 w A β p v
def Gw(w:World)(A:Nat->Prop)(β:Nat->Option (Nat × Nat))(p:PV)(v:Value):Prop:=
 match p with
 |.tup ps=>∃vs,v=.tuple ⟨vs⟩/\B4 (Mq w A β) ps vs
 |p=>Mq w A β p v
structure Df(A:Nat->Prop)(w w':World):Prop where
 size:w.heap.size<=w'.heap.size
 keep:∀b,b<w.heap.size->¬A b->w'.heap[b]?=w.heap[b]?
 bs:∀b,b<w.heap.size->Kk w w' b
theorem Hp(a:Addr)(j:Nat):(a.add j).block=a.block:=by unfold Addr.add;split<;>rfl
theorem add_add(a:Addr)(i j:Nat):(a.add i).add j=a.add (i+j):=by unfold Addr.add;by_cases hi:i=0<;>by_cases b:j=0<;>simp[hi,b,Ld]
theorem E1(b o j:Nat):(⟨b,o,none⟩:Addr).add j=⟨b,o+j,none⟩:=by unfold Addr.add;by_cases a:j=0<;>simp[a]
theorem Aze(h:a.spot=none)(j:Nat):(a.add j).spot=none:=by unfold Addr.add;split<;>simp[h]
section
variable {w w':World}{A A':Nat->Prop}{β β':Nat->Option (Nat × Nat)}
theorem Df.cell(h:Df A w w')(b:a.block<w.heap.size)(c:¬A a.block):w'.cell? a=w.cell? a:=
 jw (h.keep a.block b c)
theorem A7.step(h:Df A w w')(i:∀b,b<w.heap.size->A' b->A b)(t:A7 w A p v):A7 w' A' p v:=by
 induction t with
 |sc v=>exact .sc v
 |top v=>exact .top v
 |ub b=>exact .ub b
 |lnil z es=>exact .lnil z es
 |lemp es a cap=>exact .lemp es a cap
 |lst es n cells a cap f k e d l m o r q=>
  refine .lst es n cells a cap f k (Iv e h.size) (λx=>d (i _ e x)) l (λj c g=>?_) o (λj c g=>q j c g);rw[h.cell (by rw[Hp];exact e) (by rw[Hp];exact d)]
  exact m j c g
theorem RdT.step(h:Df A w w')(d:∀b,b<w.heap.size->A' b->A b)(e:a.block<w.heap.size)(f:¬A a.block){cells:Ae}(t:RdT w A a cells):RdT w' A' a cells:=by intro j c g;obtain⟨v,i,k,ht⟩:=t j c g;exact⟨v,by rw[h.cell (by rw[Hp];exact e) (by rw[Hp];exact f)];exact i,k,ht.step h d⟩
theorem C4.step(h:Df A w w')(d:∀b,b<w.heap.size->A' b->A b)(l:∀id∈A6 p,β' id=β id)(t:C4 w A β p v):C4 w' A' β' p v:=by
 cases p with
 |view id es off n=>
  have e:=l id (by simp[A6]);rcases t with⟨f,g,i,j⟩|⟨b,o,x,cap,f,g,m,i,j,k⟩
  ·exact .inl ⟨by rw[e];exact f,g,i,j⟩
  ·exact .inr ⟨b,o,x,cap,by rw[e];exact f,g,m,i,j.step (h.bs b k),Iv k h.size⟩
 |ptr id off=>
  have e:=l id (by simp[A6]);obtain⟨b,o,f,g⟩:=t;exact⟨b,o,by rw[e];exact f,g⟩
 |iptr c off=>
  obtain⟨a,f,g,i,j,k⟩:=t;exact⟨a,f,g,Iv i h.size,λx=>j (d _ i x),k.step h d i j⟩
 |sc v=>exact A7.step h d t
 |lst z es n c=>exact A7.step h d t
 |own es n c=>exact A7.step h d t
 |pbox c=>exact A7.step h d t
 |agg c=>exact A7.step h d t
 |tup c=>exact A7.step h d t
 |top=>exact A7.step h d t
 |ub=>exact A7.step h d t
theorem Mq.step(h:Df A w w')(a:∀b,b<w.heap.size->A' b->A b)(d:∀id∈Dj p,β' id=β id)(t:Mq w A β p v):Mq w' A' β' p v:=by
 cases p with
 |agg i=>
  obtain⟨vs,rfl,e⟩:=t;exact⟨vs,rfl,e.mono_mem λc f v g=>g.step h a λid Ce=>d id (by simp only[Dj,zk];exact⟨c,f,Ce⟩)⟩
 |sc x=>exact C4.step (p:=.sc x) h a d t
 |lst x y z u=>exact C4.step (p:=.lst x y z u) h a d t
 |own x y z=>exact C4.step (p:=.own x y z) h a d t
 |view x y z u=>exact C4.step (p:=.view x y z u) h a d t
 |ptr x y=>exact C4.step (p:=.ptr x y) h a d t
 |iptr x y=>exact C4.step (p:=.iptr x y) h a d t
 |pbox x=>exact C4.step (p:=.pbox x) h a d t
 |tup x=>exact C4.step (p:=.tup x) h a d t
 |top=>exact C4.step (p:=.top) h a d t
 |ub=>exact C4.step (p:=.ub) h a d t
theorem Gw.step(h:Df A w w')(a:∀b,b<w.heap.size->A' b->A b)(d:∀id∈Cy p,β' id=β id)(t:Gw w A β p v):Gw w' A' β' p v:=by
 cases p with
 |tup i=>
  obtain⟨vs,rfl,e⟩:=t;exact⟨vs,rfl,e.mono_mem λc f v g=>g.step h a λid Ce=>d id (by simp only[Cy,zk];exact⟨c,f,Ce⟩)⟩
 |sc x=>exact Mq.step (p:=.sc x) h a d t
 |lst x y z u=>exact Mq.step (p:=.lst x y z u) h a d t
 |own x y z=>exact Mq.step (p:=.own x y z) h a d t
 |view x y z u=>exact Mq.step (p:=.view x y z u) h a d t
 |ptr x y=>exact Mq.step (p:=.ptr x y) h a d t
 |iptr x y=>exact Mq.step (p:=.iptr x y) h a d t
 |pbox x=>exact Mq.step (p:=.pbox x) h a d t
 |top=>exact Mq.step (p:=.top) h a d t
 |ub=>exact Mq.step (p:=.ub) h a d t
 |agg x=>exact Mq.step (p:=.agg x) h a d t
theorem Df.refl(A:Nat->Prop)(w:World):Df A w w:=⟨Cz _,λ_ _ _=>rfl,λ_ _=>Kk.refl _ _⟩
theorem RdT.weak(d:∀b,b<w.heap.size->A' b->A b){cells:Ae}(t:RdT w A a cells):RdT w A' a cells:=by intro j c e;obtain⟨v,f,g,ht⟩:=t j c e;exact⟨v,f,g,ht.step (Df.refl A w) d⟩
theorem Df.trans{w'':World}(h:Df A w w')(c:Df A' w' w'')(e:∀b,b<w.heap.size->A' b->A b):Df A w w'':=
  ⟨jl h.size c.size,λb a d=>(c.keep b (Iv a h.size) (λx=>d (e b a x))).trans (h.keep b a d),
   λb a=>(h.bs b a).trans (c.bs b (Iv a h.size))⟩
theorem Df.weaken(h:Df A w w')(c:∀b,b<w.heap.size->A b->A' b):Df A' w w':=⟨h.size,λb a d=>h.keep b a (λx=>d (c b a x)),h.bs⟩
end
section
variable {R:Type}{r:R}
theorem Gz{K:Int->Option R}(h:Bi k p K=some r):∃n,p=.sc (.int k n)/\K n=some r:=by
 unfold Bi at h;split at h
 ·split at h
  ·rename_i a;subst a;exact⟨_,rfl,h⟩
  ·cases h
 ·cases h
theorem Fl{K:Bool->Option R}(h:Bh p K=some r):∃b,p=.sc (.bool b)/\K b=some r:=by
 unfold Bh at h;split at h
 ·exact⟨_,rfl,h⟩
 ·cases h
theorem E8{K:ByteArray->Option R}(h:At p K=some r):∃b,p=.sc (.string b)/\K b=some r:=by
 unfold At at h;split at h
 ·exact⟨_,rfl,h⟩
 ·cases h
theorem Fi{K:IntKind->Int->Option R}(h:Fa p K=some r):∃k n,p=.sc (.int k n)/\K k n=some r:=by
 unfold Fa at h;split at h
 ·exact⟨_,_,rfl,h⟩
 ·cases h
theorem Ax{K:Option R}(h:As b K=some r):b=true/\K=some r:=by
 unfold As at h;cases b
 ·cases h
 ·exact⟨rfl,h⟩
theorem Dh{α:Type}{o:Option α}{K:α->Option R}(h:Dq o K=some r):∃a,o=some a/\K a=some r:=by
 unfold Dq at h;split at h
 ·exact⟨_,rfl,h⟩
 ·cases h
theorem B5{α:Type}{l:List α}{K:α->List α->Option R}(h:Ad l K=some r):∃a t,l=a::t/\K a t=some r:=by
 unfold Ad at h;split at h
 ·exact⟨_,_,rfl,h⟩
 ·cases h
theorem Fj{α:Type}{l:List α}{K:Option R}(h:Ag l K=some r):l=[]/\K=some r:=by
 unfold Ag at h;split at h
 ·exact⟨rfl,h⟩
 ·cases h
theorem Lt{K:Ae->Option R}(h:Cr p K=some r):∃c,p=.agg c/\K c=some r:=by
 unfold Cr at h;split at h
 ·exact⟨_,rfl,h⟩
 ·cases h
theorem Aej{K:Ae->Option R}(h:IR p K=some r):∃c,p=.pbox c/\K c=some r:=by
 unfold IR at h;split at h
 ·exact⟨_,rfl,h⟩
 ·cases h
theorem As0{K:Value->Option R}(h:fnK p K=some r):∃v,p=.sc v/\v.oneCell'=true/\K v=some r:=by
 unfold fnK at h;split at h
 ·exact⟨_,rfl,rfl,h⟩
 ·exact⟨_,rfl,rfl,h⟩
 ·cases h
theorem A7h{K:FuncId->Option R}(h:fvK p K=some r):∃f,p=.sc (.func (.func f) #[] #[])/\K f=some r:=by
 unfold fvK at h;split at h
 ·rename_i f a b;cases c:(a.isEmpty&&b.isEmpty)<;>rw[c] at h
  ·cases h
  ·simp only[Gh,Array.isEmpty_iff] at c;rw[c.1,c.2];exact⟨f,rfl,h⟩
 ·cases h
theorem Agj{K:Ae->List Ae->Option R}(h:Ao o K=some r):∃v x,o=some ⟨v,x⟩/\K v x=some r:=by
 unfold Ao at h;split at h
 ·exact⟨_,_,rfl,h⟩
 ·cases h
theorem U6{x y:Option R}(h:Ap b x y=some r):(b=true/\x=some r)\/(b=false/\y=some r):=by
 unfold Ap at h;cases b
 ·exact .inr ⟨rfl,h⟩
 ·exact .inl ⟨rfl,h⟩
theorem Jy{K:Bool->Nat->Ae->Option R}(h:Y9 es p K=some r):
  ∃z n c,K z n c=some r/\(p=.lst z es n c\/(p=.sc (.slice none 0 0)/\z=true/\n=0/\c=[])):=by
 unfold Y9 at h;split at h
 ·rename_i z a n c;cases b:Nat.beq a es
  ·rw[b] at h;cases h
  ·rw[b] at h;have:=Ed b;subst this;exact⟨z,n,c,h,.inl rfl⟩
 ·exact⟨true,0,[],h,.inr ⟨rfl,rfl,rfl,rfl⟩⟩
 ·cases h
def MN:PV->Prop
 |.sc _=>True
 |.lst _ _ _ _=>True
 |_=>False
def isF:PV->Prop
 |.sc _=>True
 |.lst _ _ _ _=>True
 |.view _ _ _ _=>True
 |_=>False
theorem DS{c:PV}(h:MN c):isF c:=by cases c<;>first|trivial|exact h.elim
theorem Mc{c:PV}(h:MN c):A6 c=[]:=by cases c<;>first|rfl|exact h.elim
variable {w:World}{A:Nat->Prop}{β:Nat->Option (Nat × Nat)}
theorem Sw{c:PV}(h:MN c):C4 w A β c v↔A7 w A c v:=by cases c<;>first|exact Iff.rfl|exact h.elim
theorem PL{c:PV}(h:∀cs,c ≠ .agg cs):Mq w A β c v↔C4 w A β c v:=by cases c<;>first|exact Iff.rfl|exact absurd rfl (h _)
theorem Yk{c:PV}(h:∀cs,c ≠ .tup cs):Gw w A β c v↔Mq w A β c v:=by cases c<;>first|exact Iff.rfl|exact absurd rfl (h _)
theorem RW{c:PV}(h:MN c)(cs:Ae):c ≠ .agg cs:=by rintro rfl;exact h
theorem Ato{c:PV}(h:MN c)(cs:Ae):c ≠ .tup cs:=by rintro rfl;exact h
theorem A7.val(h:A7 w A (.sc v) u):u=v:=by cases h;rfl
theorem NE(h:p=.lst z es n c\/(p=.sc (.slice none 0 0)/\z=true/\n=0/\c=[]))(a:C4 w A β p v):A7 w A (.lst z es n c) v:=by
 rcases h with rfl|⟨rfl,rfl,rfl,rfl⟩
 ·exact a
 ·have:=A7.val (w:=w) (A:=A) a;subst this;exact .lnil true es
theorem Vb{t:CT}{K:PV->Option R}(h:TN t p K=some r):
  ∃c,K c=some r/\MN c/\MN p/\∀(w:World) (A:Nat->Prop) (β:Nat->Option (Nat × Nat)) (v:Value),C4 w A β p v->A7 w A c v/\v.oneCell'=true:=by
 cases t with
 |int k=>obtain⟨n,rfl,b⟩:=Gz h;exact⟨_,b,trivial,trivial,λw A β v a=>⟨a,by have:=A7.val (w:=w) (A:=A) a;subst this;rfl⟩⟩
 |bool=>obtain⟨n,rfl,h⟩:=Fl h;exact⟨_,h,trivial,trivial,λw A β v a=>⟨a,by have:=A7.val (w:=w) (A:=A) a;subst this;rfl⟩⟩
 |str=>obtain⟨n,rfl,h⟩:=E8 h;exact⟨_,h,trivial,trivial,λw A β v a=>⟨a,by have:=A7.val (w:=w) (A:=A) a;subst this;rfl⟩⟩
 |sl es=>
  obtain⟨z,n,c,h,hp⟩:=Jy h;refine⟨_,h,trivial,?_,λw A β v a=>⟨NE hp a,?_⟩⟩
  ·rcases hp with rfl|⟨rfl,_⟩<;>trivial
  ·have ht:=NE hp a;cases ht<;>rfl
 |any=>
  obtain⟨u,rfl,d,b⟩:=As0 (show fnK p (λv=>K (.sc v))=some r from h);exact⟨_,b,trivial,trivial,λw A β v a=>⟨a,by have:=A7.val (w:=w) (A:=A) a;subst this;exact d⟩⟩
theorem A8k{t:CT}{K:PV->Option R}(h:fcK t p K=some r):
  ∃c,K c=some r/\(MN c\/c=p)/\isF p/\p ≠ .top/\(∀cs,c ≠ .agg cs)/\(∀cs,c ≠ .tup cs)/\(∀id,id∈A6 c->id∈A6 p)/\∀(w:World) (A:Nat->Prop) (β:Nat->Option (Nat × Nat)) (v:Value),C4 w A β p v->C4 w A β c v/\v.oneCell'=true:=by
 have tree:∀e,TN e p K=some r->∃c,K c=some r/\(MN c\/c=p)/\isF p/\p ≠ .top/\(∀cs,c ≠ .agg cs)/\(∀cs,c ≠ .tup cs)/\(∀id,id∈A6 c->id∈A6 p)/\∀(w:World) (A:Nat->Prop) (β:Nat->Option (Nat × Nat)) (v:Value),C4 w A β p v->C4 w A β c v/\v.oneCell'=true:=by
  intro e h;obtain⟨c,h,a,hp,f⟩:=Vb h;exact⟨c,h,.inl a,DS hp,by rintro rfl;exact hp,RW a,Ato a,by rw[Mc a];simp,λw A β v h=>⟨(Sw a).2 (f w A β v h).1,(f w A β v h).2⟩⟩
 cases t with
 |sl es=>
  unfold fcK fsK at h;dsimp only at h;split at h
  ·rename_i id b off n;cases d:Nat.beq b es
   ·rw[d] at h;cases h
   ·rw[d] at h;have:=Ed d;subst this;exact⟨_,h,.inr rfl,trivial,Ψ,Ψ,Ψ,λ_ h=>h,λ_ _ _ _ h=>⟨h,by rcases h with⟨_,_,_,_,rfl⟩|⟨_,_,_,_,_,rfl,_⟩<;>rfl⟩⟩
  ·exact tree (.sl es) h
 |int k=>exact tree (.int k) h
 |bool=>exact tree (.bool) h
 |str=>exact tree (.str) h
 |any=>exact tree (.any) h
theorem WG{cells:Ae}(h:cells.getD i .top=p)(hp:p ≠ .top):cells[i]?=some p:=by
 rw[zj] at h;cases a:cells[i]? with
 |none=>rw[a] at h;exact absurd h.symm hp
 |some q=>rw[a] at h;simp at h;rw[h]
theorem IX:∀{ts:List CT}{cells:Ae}{off:Nat}{K:Ae->Option R},GC ts cells off K=some r ->
  ∃cs,K cs=some r/\cs.length=ts.length/\∀j c,cs[j]?=some c->MN c/\∃p,cells[off+j]?=some p/\MN p /\
   ∀(w:World) (A:Nat->Prop) (β:Nat->Option (Nat × Nat)) (v:Value),C4 w A β p v->A7 w A c v/\v.oneCell'=true
 |[],_,_,_,h=>⟨[],h,rfl,λj c a=>by simp at a⟩
 |t::ts,cells,off,K,h=>by
  unfold GC at h;obtain⟨c,h,b,hp,d⟩:=Vb h;obtain⟨cs,h,f,EF⟩:=IX h;refine⟨c::cs,h,by simp[f],λj g a=>?_⟩;cases j with
  |zero=>
   simp at a;subst a;refine⟨b,cells.getD off .top,WG rfl ?_,hp,d⟩;intro e;rw[e] at hp;exact hp
  |succ j=>
   simp at a;have:=EF j g a
   rwa [jm,Ld] at this
theorem HO:∀{ts:List CT}{cells:Ae}{off:Nat}{K:Ae->Option R},Xo ts cells off K=some r ->
  ∃cs,K cs=some r/\cs.length=ts.length/\(∀c∈cs,(∀x,c ≠ .agg x)/\(∀x,c ≠ .tup x))/\∀j c,cs[j]?=some c->∃p,cells[off+j]?=some p/\isF p/\(∀id,id∈A6 c->id∈A6 p) /\
   ∀(w:World) (A:Nat->Prop) (β:Nat->Option (Nat × Nat)) (v:Value),C4 w A β p v->C4 w A β c v/\v.oneCell'=true
 |[],_,_,_,h=>⟨[],h,rfl,Ψ,λj c a=>by simp at a⟩
 |t::ts,cells,off,K,h=>by
  unfold Xo at h;obtain⟨c,h,l,d,hp,e,ht,f,g⟩:=A8k h;obtain⟨cs,h,i,TW,EF⟩:=HO h;refine⟨c::cs,h,by simp[i],?_,λj k a=>?_⟩
  ·intro x b;rcases zl.1 b with rfl|b
   ·exact⟨e,ht⟩
   ·exact TW x b
  ·cases j with
   |zero=>
    simp at a;subst a;exact⟨cells.getD off .top,WG rfl hp,d,f,g⟩
   |succ j=>
    simp at a;have:=EF j k a
    rwa [jm,Ld] at this
theorem Ajh{agg:Bool}{cells:Ae}{K:PV->Option R}(h:mkV agg cells K=some r):
  (agg=true/\K (.agg cells)=some r)\/(agg=false/\∃c,cells=[c]/\K c=some r):=by
 unfold mkV at h;cases agg
 ·obtain⟨c,t,rfl,h⟩:=B5 h;obtain⟨rfl,h⟩:=Fj h;exact .inr ⟨rfl,c,rfl,h⟩
 ·exact .inl ⟨rfl,h⟩
end
open Go.RowKit
def Eo(b:Option Co):Prop:=
 match b with
 |some (.st _)=>True
 |some (.ar false _)=>True
 |_=>False
abbrev Bt:=Nat->Option (Nat × Nat)
def Xof(hp:Nat->Option Co)(β:Bt)(b:Nat):Prop:=∃id o,Eo (hp id)/\β id=some (b,o)
def Em(hp:Nat->Option Co)(β:Bt)(Y:Nat->Prop)(b:Nat):Prop:=Xof hp β b\/Y b
def EB(w:World)(A:Nat->Prop)(β:Bt)(id:Nat)(a:Co):Prop:=
 match a with
 |.st cells=>∃b o,β id=some (b,o)/\(∀j c,cells[j]?=some c->∃v,w.cell? ⟨b,o+j,none⟩=some v/\C4 w A β c v)/\∀j,j<cells.length->w.frozen? ⟨b,o+j,none⟩=false
 |.ar fz cells=>(β id=none/\cells=[])\/∃b o,β id=some (b,o)/\RdT w A ⟨b,o,none⟩ cells/\(fz=false->∀j,o<=j->j<bsz w b->w.frozen? ⟨b,j,none⟩=false)/\(fz=true->¬A b)
 |.mv=>True
structure M0 where
 X:Nat->Prop
 L:Nat->Nat->Prop
 pn:Nat->Prop
 pt:Nat->Option (Nat × Nat)
 p8:∀i,pn i->i<8
def BR(a:Co)(o j:Nat):Prop:=
 match a with
 |.st c=>o<=j/\j<o+c.length
 |.ar _ _=>o<=j
 |.mv=>False
structure Fr(X0:M0)(w0 w:World):Prop where
 os:w.os=w0.os
 tape:w.tape=w0.tape
 output:w.output=w0.output
 step:Df X0.X w0 w
 rng:∀b j,b<w0.heap.size->¬X0.L b j->w.cell? ⟨b,j,none⟩=w0.cell? ⟨b,j,none⟩/\w.frozen? ⟨b,j,none⟩=w0.frozen? ⟨b,j,none⟩
structure D3(N:Nat)(w0:World)(X0:M0)(Y:Nat->Prop)(β:Bt)(s:St)(a:Act)(w:World):Prop where
 dfr:a.defers=[]
 tsz:a.tmps.size=N
 tmo:∀i,N<=i->s.tm i=.top
 tms:∀i,i<N->Gw w (Em s.hp β Y) β (s.tm i) (a.tmps.getD i undef)
 box:∀id b,s.hp id=some b->EB w (Em s.hp β Y) β id b
 inj:∀id id' b o o',Eo (s.hp id)->Eo (s.hp id')->β id=some (b,o)->β id'=some (b,o')->id=id'
 blt:∀id b o,s.hp id≠none->β id=some (b,o)->b<w.heap.size
 wfT:∀i,i<N->∀id∈Cy (s.tm i),s.hp id≠none
 wfB:∀id cells,s.hp id=some (.st cells)->∀c∈cells,∀id'∈A6 c,s.hp id'≠none
 ownd:∀b,Xof s.hp β b->X0.X b\/w0.heap.size<=b
 rngB:∀id bx b o,s.hp id=some bx->Eo (some bx)->β id=some (b,o)->b<w0.heap.size->∀j,BR bx o j->X0.L b j
 pin:∀i,X0.pn i->s.hp (E3 N i)≠none/\β (E3 N i)=X0.pt i
 stp:∀id c b o,s.hp id=some (.st c)->β id=some (b,o)->b<w0.heap.size->∃i,id=E3 N i/\X0.pn i
 Yx:∀b,Y b->¬Xof s.hp β b
 Ylt:∀b,Y b->b<w0.heap.size
 fr:Fr X0 w0 w
theorem D9{b:Option Co}(h:Eo b):b≠none:=by rintro rfl;exact h
theorem Ay{α:Type}(f:Nat->α)(i:Nat)(v:α):Dy f i v i=v:=by simp[Dy,Uz]
theorem Au{α:Type}(f:Nat->α)(v:α)(h:j≠i):Dy f i v j=f j:=by
 have:Nat.beq j i=false:=by
  cases a:Nat.beq j i
  ·rfl
  ·exact absurd (Ed a) h
 simp[Dy,this]
theorem QB{α:Type}(f:Nat->α){v:α}(h:f i=v):Dy f i v=f:=by
 funext j
 by_cases e:j=i
 ·subst e;rw[Ay];exact h.symm
 ·exact Au f v e
theorem Akf{α:Type}(f:Nat->α)(u v:α)(h:i≠j):Dy (Dy f i u) j v=Dy (Dy f j v) i u:=by
 funext k
 by_cases e:k=j
 ·subst e;rw[Ay,Au _ _ (Ne.symm h),Ay]
 ·rw[Au _ _ e];by_cases a:k=i
  ·subst a;rw[Ay,Ay]
  ·rw[Au _ _ a,Au _ _ a,Au _ _ e]
theorem Adu{a:Act}(h:d<a.tmps.size):(a.put (some d) v).tmps.getD d undef=v:=by simp[Act.put,h]
theorem Abt{a:Act}(h:i≠d):(a.put (some d) v).tmps.getD i undef=a.tmps.getD i undef:=by have b:d≠i:=λe=>h e.symm;simp[Act.put,Array.getElem?_setIfInBounds_ne b]
section
variable {N:Nat}{w0:World}{X0:M0}{Y:Nat->Prop}{β β':Bt}{s:St}{a:Act}{w w':World}
theorem PI(d:Option Tmp)(v:Value):(a.put d v).tmps.size=a.tmps.size:=by cases d<;>simp[Act.put]
theorem DG(d:Option Tmp)(v:Value):(a.put d v).defers=a.defers:=by cases d<;>rfl
theorem AW{d:Option Tmp}(h:Jr N d=true)(e:d=some i):i<N:=by subst e;exact Nat.lt_of_succ_le (Vc h)
theorem Y5{Q:Nat->PV->Value->Prop}{d:Option Tmp}{v:PV}{val:Value}(c:a.tmps.size=N)(hd:Jr N d=true)(h:∀i,i<N->Q i (tm i) (a.tmps.getD i undef))(b:∀i,Q i v val):∀i,i<N->Q i (Dp tm d v i) ((a.put d val).tmps.getD i undef):=by
 intro i hi;cases d with
 |none=>exact h i hi
 |some d=>
  have Ct:=AW hd rfl;by_cases e:i=d
  ·subst e;show Q i (Dy tm i v i) _;rw[Ay,Adu Ω];exact b i
  ·show Q i (Dy tm d v i) _;rw[Au _ _ e,Abt e];exact h i hi
theorem Ajt{d:Option Tmp}{v:PV}(hd:Jr N d=true)(h:∀i,N<=i->tm i=.top):∀i,N<=i->Dp tm d v i=.top:=by
 intro i hi;cases d with
 |none=>exact h i hi
 |some d=>
  have:=AW hd rfl;show Dy tm d v i=_;rw[Au _ _ Ω];exact h i hi
theorem D3.put(h:D3 N w0 X0 Y β s a w){d:Option Tmp}{v:PV}{val:Value}(hd:Jr N d=true)(b:Gw w (Em s.hp β Y) β v val)(c:∀id∈Cy v,s.hp id≠none):
  D3 N w0 X0 Y β ⟨Dp s.tm d v,s.hp⟩ (a.put d val) w where
 dfr:=by rw[DG];exact h.dfr
 tsz:=by rw[PI];exact h.tsz
 tmo:=Ajt hd h.tmo
 tms:=Y5 (Q:=λ_ p u=>Gw w (Em s.hp β Y) β p u) h.tsz hd h.tms (λ_=>b)
 box:=h.box
 inj:=h.inj
 blt:=h.blt
 wfT:=by
  have:=Y5 (Q:=λ_ p _=>∀id∈Cy p,s.hp id≠none) (val:=val) h.tsz hd h.wfT (λ_=>c);exact this
 wfB:=h.wfB
 ownd:=h.ownd
 rngB:=h.rngB
 pin:=h.pin
 stp:=h.stp
 Yx:=h.Yx
 Ylt:=h.Ylt
 fr:=h.fr
theorem Cv(hp:Nat->Option Co)(ids:Cl)(i:Nat):Aj hp ids i=if i∈ids then (hp i).map HD else hp i:=by
 unfold Aj;by_cases hi:i∈ids
 ·have:ids.any (Nat.beq i)=true:=zm.2 ⟨i,hi,Uz i⟩;rw[this,Bv hi];rfl
 ·have:ids.any (Nat.beq i)=false:=by
   cases a:ids.any (Nat.beq i)
   ·rfl
   ·obtain⟨j,b,e⟩:=zm.1 a;exact absurd (Ed e ▸ b) hi
  rw[this,Bd hi];rfl
theorem F1{ids:Cl}:Aj hp ids i=none↔hp i=none:=by rw[Cv];split<;>simp
theorem Y2{ids:Cl}(h:Eo (Aj hp ids i)):Eo (hp i):=by
 rw[Cv] at h;split at h
 ·cases a:hp i with
  |none=>rw[a] at h;exact h
  |some b=>cases b with
   |st c=>trivial
   |ar fz c=>rw[a] at h;exact h.elim
   |mv=>rw[a] at h;exact h
 ·exact h
theorem N7{ids:Cl}{a:Co}(h:Aj hp ids i=some a)(d:Eo (some a)):hp i=some a:=by
 rw[Cv] at h;split at h
 ·cases e:hp i with
  |none=>rw[e] at h;cases h
  |some b=>
   rw[e] at h;cases b with
   |st c=>exact h
   |ar fz c=>simp only[jz,HD,Option.some.injEq] at h;subst h;exact d.elim
   |mv=>simp only[jz,HD,Option.some.injEq] at h;subst h;exact d.elim
 ·exact h
theorem AJ{ids:Cl}{b:Nat}(h:Xof (Aj hp ids) β b):Xof hp β b:=by obtain⟨id,o,a,c⟩:=h;exact⟨id,o,Y2 a,c⟩
theorem EB.step'{A A':Nat->Prop}{id:Nat}{a:Co}(d:∀b,A' b->A b)(h:EB w A β id a):EB w A' β id a:=by
 have k:=Df.refl A w;cases a with
 |st c=>
  obtain⟨b,o,f,g,i⟩:=h;exact⟨b,o,f,λj c l=>let ⟨v,m,n⟩:=g j c l;⟨v,m,n.step k (λb _=>d b) (λ_ _=>rfl)⟩,i⟩
 |ar fz c=>
  rcases h with h|⟨b,o,f,g,i,p⟩
  ·exact .inl h
  ·exact .inr ⟨b,o,f,g.weak (λb _=>d b),i,λe x=>p e (d b x)⟩
 |mv=>trivial
theorem D3.freeze(h:D3 N w0 X0 Y β s a w)(EO:∀id∈fz,∃f c,s.hp id=some (.ar f c)):D3 N w0 X0 Y β ⟨s.tm,Aj s.hp fz⟩ a w:=by
 have q:∀b,Em (Aj s.hp fz) β Y b->Em s.hp β Y b:=λb d=>d.imp AJ id
 refine⟨h.dfr,h.tsz,h.tmo,λi hi=>(h.tms i hi).step (Df.refl _ _) (λb _=>q b) (λ_ _=>rfl),λid b d=>?_,λid j b o n l r=>h.inj id j b o n (Y2 l) (Y2 r),
  λid b o z=>h.blt id b o (λe=>z (F1.2 e)),λi hi id Ce e=>h.wfT i hi id Ce (F1.1 e),λid cells g c t j Ce e=>?_,λb d=>h.ownd b (AJ d),
  λid A b o d k=>h.rngB id A b o (N7 d k) k,λi hi=>⟨λe=>(h.pin i hi).1 (F1.1 e),(h.pin i hi).2⟩,λid c b o g=>h.stp id c b o (N7 g trivial),λb d x=>h.Yx b d (AJ x),h.Ylt,h.fr⟩
 ·simp only at d;rw[Cv] at d;split at d
  ·rename_i p;obtain⟨f,c,g⟩:=EO id p;rw[g] at d;simp only[jz,HD,Option.some.injEq] at d;subst d;have Tn:=h.box id _ g;rcases Tn with Tn|⟨b,o,l,r,C,v⟩
   ·exact .inl Tn
   ·refine .inr ⟨b,o,l,r.weak (λb _=>q b),(λe=>by cases e),λ_ d=>?_⟩;rcases d with⟨j,n,k,d⟩|y
    ·have m:=Y2 k;cases f with
     |true=>exact v rfl (.inl ⟨j,n,m,d⟩)
     |false=>
      have e:=h.inj j id b n o m (by rw[g];trivial) d l
      subst e;simp only at k;rw[Cv,Bv p,g] at k;exact k
    ·cases f with
     |true=>exact v rfl (.inr y)
     |false=>exact h.Yx b y ⟨id,o,by rw[g];trivial,l⟩
  ·exact (h.box id b d).step' q
 ·simp only at g;rw[Cv] at g;refine h.wfB id cells ?_ c t j Ce (F1.1 e);split at g
  ·rename_i p;obtain⟨f,c,B⟩:=EO id p;rw[B] at g;cases g
  ·exact g
theorem Cg:∀{nw:List (Nat × Co)} {hp:Nat->Option Co},Cs hp nw=true ->
  (∀id a,(id,a)∈nw->hp id=none)/\(∀id a d,(id,a)∈nw->(id,d)∈nw->a=d)
 |[],_,_=>⟨Ψ,Ψ⟩
 |(i,b)::r,hp,h=>by
  simp only[Cs,Gh,Option.isNone_iff_eq_none,qg] at h;obtain⟨⟨k,g⟩,l⟩:=h;obtain⟨m,n⟩:=Cg l
  have j:∀a,(i,a) ∉ r:=by
   intro a c;have:r.any (λq=>Nat.beq q.1 i)=true:=zm.2 ⟨_,c,Uz i⟩;rw[this] at g;cases g
  refine⟨λid a c=>?_,λid a d c f=>?_⟩
  ·rcases zl.1 c with e|c
   ·cases e;exact k
   ·exact m id a c
  ·rcases zl.1 c with e|c
   ·cases e;rcases zl.1 f with e|f
    ·cases e;rfl
    ·exact absurd f (j _)
   ·rcases zl.1 f with e|f
    ·cases e;exact absurd c (j _)
    ·exact n id a d c f
theorem Gq:∀{nw:List (Nat × Co)} {hp:Nat->Option Co},(∀id c a,(id,c)∈nw->(id,a)∈nw->c=a) ->
  (∀id c,(id,c)∈nw->A8 hp nw id=some c)/\(∀id,(∀c,(id,c) ∉ nw)->A8 hp nw id=hp id)
 |[],_,_=>⟨Ψ,λ_ _=>rfl⟩
 |(i,b)::r,hp,h=>by
  obtain⟨l,j⟩:=Gq (nw:=r) (hp:=Dy hp i (some b)) (λid c a d m=>h id c a (by simp[d]) (by simp[m]));refine⟨λid c d=>?_,λid k=>?_⟩
  ·by_cases f:∃a,(id,a)∈r
   ·obtain⟨a,f⟩:=f;have:=h id c a d (by simp[f]);subst this;exact l id c f
   ·rcases zl.1 d with e|d
    ·cases e;show A8 (Dy hp i (some b)) r i=_;rw[j i (λa g=>f ⟨a,g⟩),Ay]
    ·exact absurd ⟨c,d⟩ f
  ·show A8 (Dy hp i (some b)) r id=_;rw[j id (λc g=>k c (by simp[g])),Au]
   rintro rfl
   exact k b Ψ
structure Afs(Y:Nat->Prop)(β:Bt)(s:St)(w:World)(v:PV)(nw:List (Nat × Co))(val:Value)(w':World)(β':Bt):Prop where
 os:w'.os=w.os
 tape:w'.tape=w.tape
 output:w'.output=w.output
 ext:Df (λ_=>False) w w'
 old:∀id,s.hp id≠none->β' id=β id
 nlive:∀id bx,(id,bx)∈nw->Eo (some bx)
 nbox:∀id bx,(id,bx)∈nw->EB w' (Em (A8 s.hp nw) β' Y) β' id bx
 nblk:∀id bx b o,(id,bx)∈nw->β' id=some (b,o)->w.heap.size<=b/\b<w'.heap.size
 ninj:∀id bx id' bx' b o o',(id,bx)∈nw->(id',bx')∈nw->β' id=some (b,o)->β' id'=some (b,o')->id=id'
 nwf:∀id cells,(id,.st cells)∈nw->∀c∈cells,∀id'∈A6 c,s.hp id'≠none\/∃bx,(id',bx)∈nw
 val:Gw w' (Em (A8 s.hp nw) β' Y) β' v val
 vwf:∀id∈Cy v,s.hp id≠none\/∃bx,(id,bx)∈nw
theorem D3.stepR(h:D3 N w0 X0 Y β s a w){d:Option Tmp}{v:PV}{nw:List (Nat × Co)}{val:Value}(hd:Jr N d=true)(Zd:Cs s.hp nw=true)(st:Afs Y β s w v nw val w' β'):D3 N w0 X0 Y β' ⟨Dp s.tm d v,A8 s.hp nw⟩ (a.put d val) w':=by
 obtain⟨G,CG⟩:=Cg Zd;obtain⟨C,H⟩:=Gq (hp:=s.hp) CG
 have Lz:∀id,(∃k,(id,k)∈nw)\/A8 s.hp nw id=s.hp id:=λid=>by
  by_cases l:∃k,(id,k)∈nw
  ·exact .inl l
  ·exact .inr (H id λk f=>l ⟨k,f⟩)
 have Bhn:∀id,s.hp id≠none->A8 s.hp nw id=s.hp id:=λid y=>by
  rcases Lz id with⟨k,l⟩|e
  ·exact absurd (G id k l) y
  ·exact e
 have Es:∀id,(s.hp id≠none\/∃k,(id,k)∈nw)->A8 s.hp nw id≠none:=by
  rintro id (y|⟨k,l⟩)
  ·rw[Bhn id y];exact y
  ·rw[C id k l];simp
 have Bbq:∀b,b<w.heap.size->Xof (A8 s.hp nw) β' b->Xof s.hp β b:=by
  rintro b f ⟨id,o,m,q⟩
  rcases Lz id with⟨k,l⟩|e
  ·have:=(st.nblk id k b o l q).1;omega
  ·rw[e] at m;exact⟨id,o,m,by rw[<-st.old id (D9 m)];exact q⟩
 have Atm:∀b,b<w.heap.size->Em (A8 s.hp nw) β' Y b->Em s.hp β Y b:=λb f R=>R.imp (Bbq b f) id;have Asj:Df (Em s.hp β Y) w w':=st.ext.weaken (λ_ _ x=>x.elim);refine⟨by rw[DG];exact h.dfr,by rw[PI];exact h.tsz,Ajt hd h.tmo,?_,?_,?_,?_,?_,?_,?_,?_,?_,?_,?_,h.Ylt,?_⟩
 ·refine Y5 (Q:=λ_ p u=>Gw w' (Em (A8 s.hp nw) β' Y) β' p u) h.tsz hd (λi hi=>?_) (λ_=>st.val);exact (h.tms i hi).step Asj Atm λid Ce=>st.old id (h.wfT i hi id Ce)
 ·intro id b f;simp only at f;rcases Lz id with⟨k,l⟩|e
  ·rw[C id k l] at f;cases f;exact st.nbox id _ l
  ·rw[e] at f;have q:=st.old id (by rw[f];simp)
   have Tn:=h.box id b f;have Ct:=h.blt id;have O:s.hp id≠none:=by rw[f];simp
   cases b with
   |st c=>
    obtain⟨b,o,r,z,J⟩:=Tn;have Mv:=Ct b o O r;have A:=st.ext.keep b Mv (λx=>x);refine⟨b,o,by rw[q];exact r,λj c B=>?_,λj B=>?_⟩
    ·obtain⟨v,K,t⟩:=z j c B;refine⟨v,by rw[jw (w:=w) A];exact K,t.step Asj Atm λg Ce=>st.old g ?_⟩
     exact h.wfB id _ f c (zn B) g Ce
    ·rw[jx (w:=w) A];exact J j B
   |ar fz c=>
    rcases Tn with⟨r,z⟩|⟨b,o,r,z,J,S⟩
    ·exact .inl ⟨by rw[q];exact r,z⟩
    ·have Mv:=Ct b o O r;have A:=st.ext.keep b Mv (λx=>x);have L:bsz w' b=bsz w b:=by unfold bsz;rw[A]
     refine .inr ⟨b,o,by rw[q];exact r,λj c B=>?_,λe j B T=>?_,λe x=>S e (Atm b Mv x)⟩
     ·obtain⟨v,K,U,t⟩:=z j c B;exact⟨v,by rw[jw (w:=w) (by rw[Hp];exact A)];exact K,U,t.step Asj Atm⟩
     ·rw[jx (w:=w) A];exact J e j B (by rw[<-L];exact T)
   |mv=>trivial
 ·intro id g b o E m Rj f Mv;simp only at m Rj;rcases Lz id with⟨k,l⟩|e
  ·rcases Lz g with⟨n,EL⟩|M
   ·exact st.ninj id k g n b o E l EL f Mv
   ·rw[M] at Rj;have r:=(st.nblk id k b o l f).1;have z:=h.blt g b E (D9 Rj) (by rw[<-st.old g (D9 Rj)];exact Mv)
    omega
  ·rw[e] at m;rcases Lz g with⟨n,EL⟩|M
   ·have r:=(st.nblk g n b E EL Mv).1;have z:=h.blt id b o (D9 m) (by rw[<-st.old id (D9 m)];exact f)
    omega
   ·rw[M] at Rj;exact h.inj id g b o E m Rj (by rw[<-st.old id (D9 m)];exact f) (by rw[<-st.old g (D9 Rj)];exact Mv)
 ·intro id b o y f;simp only at y;rcases Lz id with⟨k,l⟩|e
  ·exact (st.nblk id k b o l f).2
  ·rw[e] at y;exact Iv (h.blt id b o y (by rw[<-st.old id y];exact f)) st.ext.size
 ·have:=Y5 (Q:=λ_ p _=>∀id∈Cy p,A8 s.hp nw id≠none) (val:=val) (d:=d) (v:=v) h.tsz hd (λi hi id Ce=>Es id (.inl (h.wfT i hi id Ce))) (λ_ id Ce=>Es id (st.vwf id Ce));exact this
 ·intro id cells t c D g Ce;simp only at t;rcases Lz id with⟨k,l⟩|e
  ·rw[C id k l] at t;cases t;exact Es g (st.nwf id _ l c D g Ce)
  ·rw[e] at t;exact Es g (.inl (h.wfB id cells t c D g Ce))
 ·rintro b ⟨id,o,m,f⟩
  simp only at m;rcases Lz id with⟨k,l⟩|e
  ·exact .inr (jl h.fr.step.size (st.nblk id k b o l f).1)
  ·rw[e] at m;exact h.ownd b ⟨id,o,m,by rw[<-st.old id (D9 m)];exact f⟩
 ·intro id k b o f m q Ct;simp only at f;rcases Lz id with⟨n,l⟩|e
  ·have:=(st.nblk id n b o l q).1;have:=h.fr.step.size;omega
  ·rw[e] at f;exact h.rngB id k b o f m (by rw[<-st.old id (by rw[f];simp)];exact q) Ct
 ·intro i hi;obtain⟨r,z⟩:=h.pin i hi;exact⟨Es _ (.inl r),by rw[st.old _ r];exact z⟩
 ·intro id c b o f q Ct;simp only at f;rcases Lz id with⟨n,l⟩|e
  ·have:=(st.nblk id n b o l q).1;have:=h.fr.step.size;omega
  ·rw[e] at f;exact h.stp id c b o f (by rw[<-st.old id (by rw[f];simp)];exact q) Ct
 ·rintro b P V
  have f:b<w.heap.size:=Iv (h.Ylt b P) h.fr.step.size;exact h.Yx b P (Bbq b f V)
 ·refine⟨st.os.trans h.fr.os,st.tape.trans h.fr.tape,st.output.trans h.fr.output,h.fr.step.trans st.ext (λ_ _ x=>x.elim),λb j f W=>?_⟩;have A:=st.ext.keep b (Iv f h.fr.step.size) (λx=>x);have t:w'.cell? ⟨b,j,none⟩=w.cell? ⟨b,j,none⟩:=jw (w:=w) A;have X:w'.frozen? ⟨b,j,none⟩=w.frozen? ⟨b,j,none⟩:=jx (w:=w) A;rw[t,X];exact h.fr.rng b j f W
end
open Go.RowKit
section
variable {P:Program}{N:Nat}{w0:World}{X0:M0}{Y:Nat->Prop}{β β':Bt}{s:St}{a:Act}{w w':World}{o:Oper}
theorem Aki(cs:List Value)(A:Nat->Prop):B4 (C4 w A β) (cs.map PV.sc) cs:=by
 induction cs with
 |nil=>trivial
 |cons v r a=>exact⟨A7.sc v,a⟩
theorem Apy(cs:List Value):(cs.map PV.sc).flatMap A6=[]:=by
 induction cs with
 |nil=>rfl
 |cons v r a=>exact a
theorem Ec(h:D3 N w0 X0 Y β s a w)(x:Operand):Gw w (Em s.hp β Y) β (Da s.tm x) (a.eval x):=by
 cases x with
 |tmp t=>
  show Gw _ _ _ (s.tm t) (a.tmps.getD t undef);by_cases ht:t<N
  ·exact h.tms t ht
  ·rw[h.tmo t (jn ht)];exact A7.top _
 |const v=>
  cases v with
  |agg b=>exact⟨b.toList,by simp[Act.eval],Aki b.toList _⟩
  |_=>exact A7.sc _
 |func f=>exact A7.sc _
 |global g=>exact A7.sc _
theorem Hs(h:D3 N w0 X0 Y β s a w)(x:Operand):∀id∈Cy (Da s.tm x),s.hp id≠none:=by
 cases x with
 |tmp t=>
  show ∀id∈Cy (s.tm t),_;by_cases ht:t<N
  ·exact h.wfT t ht
  ·rw[h.tmo t (jn ht)];intro id Ce;cases Ce
 |const v=>
  cases v with
  |agg b=>
   intro id Ce;have:Cy (.agg (b.toList.map .sc))=[]:=Apy b.toList;simp only[Da] at Ce;rw[this] at Ce;cases Ce
  |_=>intro id Ce;cases Ce
 |func f=>intro id Ce;cases Ce
 |global g=>intro id Ce;cases Ce
theorem TP{A:Nat->Prop}(h:Gw w A β (.sc v) u):u=v:=A7.val h
theorem Db(h:D3 N w0 X0 Y β s a w)(e:Da s.tm x=.sc v):a.eval x=v:=by have:=Ec h x;rw[e] at this;exact TP this
def Gm(P:Program)(a:Act)(w:World)(o:Oper)(Y:Nat->Prop)(β:Bt)(s:St)(v:PV)(fz:Cl)(nw:List (Nat × Co)):Prop:=
 (∀id∈fz,∃f c,s.hp id=some (.ar f c))/\∃val w',(execOp a.eval o).run P w=.ok (.value val) w'/\(Cs s.hp nw=true->∃β',Afs Y β ⟨s.tm,Aj s.hp fz⟩ w v nw val w' β')
theorem Aqz{v:PV}{val:Value}(a:Gw w (Em s.hp β Y) β v val)(b:∀id∈Cy v,s.hp id≠none):Afs Y β s w v [] val w β:=
 ⟨rfl,rfl,rfl,Df.refl _ _,λ_ _=>rfl,Ψ,Ψ,Ψ,Ψ,Ψ,a,λid Ce=>.inl (b id Ce)⟩
theorem C5{v:PV}{val:Value}(Dz:(execOp a.eval o).run P w=.ok (.value val) w)(b:Gw w (Em s.hp β Y) β v val)(c:∀id∈Cy v,s.hp id≠none):Gm P a w o Y β s v [] []:=
 ⟨Ψ,val,w,Dz,λ_=>⟨β,Aqz (s:=⟨s.tm,Aj s.hp []⟩) b c⟩⟩
theorem Do(Dz:(execOp a.eval o).run P w=.ok (.value v) w):Gm P a w o Y β s (.sc v) [] []:=C5 Dz (A7.sc v) (by intro id Ce;cases Ce)
structure Ie(w w':World)(c:Array Value)(e:TypeId):Prop where
 os:w'.os=w.os
 tape:w'.tape=w.tape
 output:w'.output=w.output
 old:∀b,b<w.heap.size->w'.heap[b]?=w.heap[b]?
 size:w'.heap.size=w.heap.size+1
 new:∃fz:Nat × Nat,w'.heap[w.heap.size]?=some (.cells c e fz)/\(fz.1=fz.2\/c.size<=fz.1)
theorem Ie.alloc(w:World)(c:Array Value)(e:TypeId):Ie w (w.alloc (.cells c e)) c e:=
 ⟨rfl,rfl,rfl,λb a=>Below.heap_alloc w _ b a,by show (w.heap.push _).size=_;simp,(0,0),by show (w.heap.push _)[w.heap.size]?=_;simp,.inl rfl⟩
theorem Ie.drew{c:Array Value}(h:Ie w w' c e):Ie w w'.drew c e:=⟨h.os,h.tape,h.output,h.old,h.size,h.new⟩
section
variable {c:Array Value}{e:TypeId}
theorem Ie.step(h:Ie w w' c e):Df (λ_=>False) w w':=
 ⟨by rw[h.size];omega,λb a _=>h.old b a,λb a=>Kk.same (h.old b a)⟩
theorem Ie.cell(h:Ie w w' c e)(j:Nat):w'.cell? ⟨w.heap.size,j,none⟩=c[j]?:=by obtain⟨fz,a,_⟩:=h.new;simp[jy,a]
theorem Ie.frozen(h:Ie w w' c e)(d:j<c.size):w'.frozen? ⟨w.heap.size,j,none⟩=false:=by obtain⟨fz,b,a⟩:=h.new;simp only[ju,b];rcases a with a|a<;>simp<;>omega
theorem Rc(w:World)(c:Array Value)(e:TypeId):Akn (w.alloc (.cells c e)) w.heap.size=false:=by
 unfold Akn ju;have:(w.alloc (.cells c e)).heap[w.heap.size]?=some (.cells c e (0,0)):=by show (w.heap.push _)[w.heap.size]?=_;simp
 simp only[this];simp
theorem Ie.bsz(h:Ie w w' c e):bsz w' w.heap.size=c.size:=by obtain⟨fz,a,_⟩:=h.new;simp[Pv.bsz,a]
end
theorem AG{c:Array Value}{g:Co}{v:PV}{val:Value}(i:Ie w w' c e)(hd:s.hp d=none)(n:Eo (some g))(Tn:EB w' (Em (Dy s.hp d (some g)) (Dy β d (some (w.heap.size,0))) Y) (Dy β d (some (w.heap.size,0))) d g)(j:∀cells,g=.st cells->∀x∈cells,∀f∈A6 x,s.hp f≠none)(o:Gw w' (Em (Dy s.hp d (some g)) (Dy β d (some (w.heap.size,0))) Y) (Dy β d (some (w.heap.size,0))) v val)(k:∀id∈Cy v,s.hp id≠none\/id=d):Afs Y β s w v [(d,g)] val w' (Dy β d (some (w.heap.size,0))) where
 os:=i.os
 tape:=i.tape
 output:=i.output
 ext:=i.step
 old:=λid p=>Au _ _ (by rintro rfl;exact p hd)
 nlive:=by intro id b a;simp at a;obtain⟨rfl,rfl⟩:=a;exact n
 nbox:=by intro id b a;simp at a;obtain⟨rfl,rfl⟩:=a;exact Tn
 nblk:=by
  intro id b x y a l;simp at a;obtain⟨rfl,rfl⟩:=a;rw[Ay] at l;simp at l;have:=i.size;omega
 ninj:=by intro id b f r x y z a m _ _;simp at a m;rw[a.1,m.1]
 nwf:=by intro id cells a x q f Ce;simp at a;exact .inl (j cells a.2.symm x q f Ce)
 val:=o
 vwf:=by
  intro id Ce;rcases k id Ce with h|rfl
  ·exact .inl h
  ·exact .inr ⟨g,Ψ⟩
theorem Ati{c:Array Value}(a:Ie w w' c e){A A':Nat->Prop}(d:∀b,b<w.heap.size->A' b->A b){cells:Ae}(h:∀(j:Nat) p,cells[j]?=some p->∃v,c[j]?=some v/\v.oneCell'=true/\A7 w A p v):RdT w' A' ⟨w.heap.size,0,none⟩ cells:=by intro j p f;obtain⟨v,g,i,ht⟩:=h j p f;exact⟨v,by rw[E1,I8,a.cell];exact g,i,ht.step (a.step.weaken (λ_ _ x=>x.elim)) d⟩
theorem As7{f:Co}(g:s.hp d=none):∀b,b<w.heap.size->Em (Dy s.hp d (some f)) (Dy β d (some (w.heap.size,0))) Y b->Em s.hp β Y b:=by
 intro b j h;rcases h with⟨id,o,c,a⟩|i
 ·by_cases e:id=d
  ·subst e;rw[Ay] at a;simp at a;omega
  ·rw[Au _ _ e] at c a;exact .inl ⟨id,o,c,a⟩
 ·exact .inr i
theorem BK{c:Array Value}{cells:Ae}{v:PV}{val:Value}(EO:∀id∈fz,∃f c,s.hp id=some (.ar f c))(Dz:(execOp a.eval o).run P w=.ok (.value val) w')(b:Ie w w' c e)(k:∀(j:Nat) p,cells[j]?=some p->∃u,c[j]?=some u/\u.oneCell'=true/\A7 w (Em (Aj s.hp fz) β Y) p u)(h:(v=.ptr d 0/\val=.pointer (some ⟨w.heap.size,0,none⟩))\/∃es n cap,v=.view d es 0 n/\val=.slice (some ⟨w.heap.size,0,none⟩) n cap/\n<=cap/\cap*es<=c.size/\(es=1\/Akn w' w.heap.size=false)):
  Gm P a w o Y β s v fz [(d,.ar false cells)]:=by
 refine⟨EO,val,w',Dz,λZd=>⟨Dy β d (some (w.heap.size,0)),?_⟩⟩;have hd:s.hp d=none:=(Cg Zd).1 d (.ar false cells) Ψ;have g:Aj s.hp fz d=none:=F1.2 hd;refine AG (s:=⟨s.tm,Aj s.hp fz⟩) b g trivial ?_ (λcells l=>by cases l) ?_ ?_
 ·refine .inr ⟨w.heap.size,0,Ay _ _ _,?_,λ_ j _ i=>?_,(λx=>by cases x)⟩
  ·exact Ati b (As7 (s:=⟨s.tm,Aj s.hp fz⟩) g) k
  ·rw[b.bsz] at i;exact b.frozen i
 ·rcases h with⟨rfl,rfl⟩|⟨es,n,cap,rfl,rfl,m,JB,q⟩
  ·exact⟨w.heap.size,0,Ay _ _ _,rfl⟩
  ·exact .inr ⟨w.heap.size,0,0,cap,Ay _ _ _,rfl,.inl rfl,m,⟨by rw[b.bsz];omega,q⟩,by rw[b.size];omega⟩
 ·intro id Ce;rcases h with⟨rfl,_⟩|⟨es,n,cap,rfl,_⟩<;>(simp[Cy,Dj,A6] at Ce;exact .inr Ce)
theorem Ad7{c:Array Value}{cells:Ae}(Dz:(execOp a.eval o).run P w=.ok (.value (.pointer (some ⟨w.heap.size,0,none⟩))) w')(b:Ie w w' c e)(l:∀(j:Nat) p,cells[j]?=some p->∃u,c[j]?=some u/\C4 w (Em s.hp β Y) β p u)(m:∀x∈cells,∀id∈A6 x,s.hp id≠none):
  Gm P a w o Y β s (.ptr d 0) [] [(d,.st cells)]:=by
 refine⟨Ψ,_,w',Dz,λZd=>⟨Dy β d (some (w.heap.size,0)),?_⟩⟩;have hd:s.hp d=none:=(Cg Zd).1 d (.st cells) Ψ;refine AG (s:=⟨s.tm,Aj s.hp []⟩) b hd trivial ?_ (λn i x k id Ce=>?_) ?_ ?_
 ·refine⟨w.heap.size,0,Ay _ _ _,λj p f=>?_,λj f=>?_⟩
  ·obtain⟨u,g,hp⟩:=l j p f;refine⟨u,by rw[I8,b.cell];exact g,hp.step (b.step.weaken (λ_ _ x=>x.elim)) (As7 (s:=⟨s.tm,Aj s.hp []⟩) hd) λid Ce=>Au _ _ ?_⟩
   rintro rfl
   exact m p (zn f) id Ce hd
  ·rw[I8];obtain⟨u,g,_⟩:=l j _ (zd f)
   exact b.frozen (by
    rcases Kp j c.size with h|h
    ·exact h
    ·rw[xa h] at g;cases g)
 ·injection i with i;subst i;exact m x k id Ce
 ·exact⟨w.heap.size,0,Ay _ _ _,rfl⟩
 ·intro id Ce;simp[Cy,Dj,A6] at Ce;exact .inr Ce
end
open Go.RowKit
section
variable {R:Type}{r:R}{P:Program}{N:Nat}{w0:World}{X0:M0}{Y:Nat->Prop}{β β':Bt}{s:St}{a:Act}{w w':World}{o:Oper}
theorem Rd(h:(P.info? t).map (·.size)=some n)(w:World):(sizeOf t).run P w=.ok n w:=by
 cases hi:P.info? t with
 |none=>rw[hi] at h;cases h
 |some i=>rw[hi] at h;simp at h;simp[sizeOf,typeInfo,hi,h]
theorem A29(h:Bx P t=n)(a:0<n):(P.info? t).map (·.size)=some n:=by
 unfold Bx at h;cases hi:(P.info? t).map (·.size) with
 |none=>rw[hi] at h;simp at h;omega
 |some i=>rw[hi] at h;simp at h;rw[h]
theorem Vl{d:TypeDesc}(h:P.underlying t=some d)(w:World):(isAgg t).run P w=.ok (C6 P t) w:=by unfold isAgg C6;rw[h];simp only[xd,run_underlying h,xf];cases d<;>rfl
theorem At6{K:PV->Option R}(h:cvK P t v K=some r):∃p,K p=some r/\Cy p=[]/\∀(w:World)(A:Nat->Prop)(β:Bt),Gw w A β p v:=by
 have sc:∀v:Value,K (.sc v)=some r->∃p,K p=some r/\Cy p=[]/\∀(w:World) (A:Nat->Prop) (β:Bt),Gw w A β p v:=λv h=>⟨_,h,rfl,λw A β=>A7.sc v⟩;unfold cvK at h;split at h
 ·rename_i f;obtain⟨a,h⟩:=Ax h;obtain⟨I,h,b,e⟩:=IX h;have a:=Ed a;refine⟨_,h,?_,λw A β=>⟨f.toList,Ψ,?_⟩⟩
  ·show I.flatMap A6=[];rw[List.flatMap_eq_nil_iff];intro c d;obtain⟨j,g⟩:=zq.1 d;exact Mc (e j c g).1
  ·refine B4.of_at (by rw[b,a]) λi c u d k=>?_;obtain⟨l,p,hp,_,TJ⟩:=e i c d;refine (Sw l).2 (TJ w A β u ?_).1;rw[I8,zr,k] at hp;simp at hp;subst hp;exact A7.sc u
 ·split at h
  ·exact⟨_,h,rfl,λw A β=>A7.lnil true _⟩
  ·cases h
 ·exact sc _ h
theorem RV(h:D3 N w0 X0 Y β s a w)(Dz:(execOp a.eval o).run P w=.ok (.value (a.eval x)) w){K:PV->Option R}(b:UA P o.type s.tm x K=some r):
  ∃v,K v=some r/\Gm P a w o Y β s v [] []:=by
 have dflt:K (Da s.tm x)=some r->∃v,K v=some r/\Gm P a w o Y β s v [] []:=λb=>⟨_,b,C5 Dz (Ec h x) (Hs h x)⟩;cases x with
 |const v=>
  obtain⟨p,b,c,d⟩:=At6 b;exact⟨p,b,C5 Dz (d _ _ _) (by rw[c];simp)⟩
 |tmp t=>exact dflt b
 |func f=>exact dflt b
 |global g=>exact dflt b
theorem Auu(b:o.op=.move x):(execOp a.eval o).run P w=.ok (.value (a.eval x)) w:=by unfold execOp;rw[b];rfl
theorem Amv(b:o.op=.assign x):(execOp a.eval o).run P w=.ok (.value (a.eval x)) w:=by unfold execOp;rw[b];rfl
theorem Aqq(h:D3 N w0 X0 Y β s a w){c y:Operand}(e:o.op=.pick c x y){K:PV->Option R}(d:(Bh (Da s.tm c) λt=>Ap t (K (Da s.tm x)) (K (Da s.tm y)))=some r):
  ∃v,K v=some r/\Gm P a w o Y β s v [] []:=by
 obtain⟨b,g,d⟩:=Fl d;have f:=Db h g;rcases U6 d with⟨rfl,d⟩|⟨rfl,d⟩
 ·exact⟨_,d,C5 (by unfold execOp;rw[e];simp[asBool,f]) (Ec h x) (Hs h x)⟩
 ·exact⟨_,d,C5 (by unfold execOp;rw[e];simp[asBool,f]) (Ec h y) (Hs h y)⟩
theorem Yu{K:Ae->Option R}(h:Kx P t K=some r):∃(v:Value)(cs:Ae),K cs=some r/\Ze P t=some v/\cs.length=(M2 P t).length/\cs.length=v.cells.toList.length/\cs.length=Bx P t /\
  ∀(j:Nat) c,cs[j]?=some c->MN c/\∃u,v.cells.toList[j]?=some u/\u.oneCell'=true/\∀(w:World) (A:Nat->Prop),A7 w A c u:=by
 unfold Kx at h;obtain⟨v,e,h⟩:=Dh h;obtain⟨a,h⟩:=Ax h;obtain⟨cs,h,Sf,f⟩:=IX h;simp only[Gh] at a;have b:=Ed a.1
 have Uk:(M2 P t).length=Bx P t:=by
  have:=a.2;simp only[Oi,Gh] at this;exact Ed this.2
 refine⟨v,cs,h,e,Sf,by rw[Sf,b],by rw[Sf,Uk],λj c g=>?_⟩;obtain⟨i,p,hp,_,TJ⟩:=f j c g;rw[I8,zr] at hp;cases d:v.cells.toList[j]? with
 |none=>rw[d] at hp;cases hp
 |some u=>
  rw[d] at hp;simp at hp;subst hp;exact⟨i,u,rfl,(TJ default (λ_=>False) (λ_=>none) u (A7.sc u)).2,λw A=>(TJ w A (λ_=>none) u (A7.sc u)).1⟩
theorem MF(h:Ze P t=some v)(w:World):(zeroValue t).run P w=.ok v w:=by
 unfold Ze at h;cases hi:P.info? t with
 |none=>rw[hi] at h;cases h
 |some i=>rw[hi] at h;simp at h;simp[zeroValue,typeInfo,hi,h]
theorem Ams(k:o.op=.alloc t){K:PV->Cl->List (Nat × Co)->Option R}(c:(Kx P t λcs=>K (.ptr d 0) [] [(d,A08 P t cs)])=some r):∃v fz nw,K v fz nw=some r/\Gm P a w o Y β s v fz nw:=by
 obtain⟨z,cs,c,l,_,q,_,e⟩:=Yu c
 have Dz:(execOp a.eval o).run P w=.ok (.value (.pointer (some ⟨w.heap.size,0,none⟩))) (w.alloc (.cells z.cells t)):=by
  unfold execOp;rw[k];simp[Instr.alloc,MF l,newVar,newRow]
 have h:=Ie.alloc w z.cells t;refine⟨_,_,_,c,?_⟩;unfold A08;cases DV P t
 ·refine Ad7 Dz h (λj p b=>?_) λx m id Ce=>?_
  ·obtain⟨i,u,f,_,g⟩:=e j p b;exact⟨u,by simpa using f,(Sw i).2 (g _ _)⟩
  ·obtain⟨j,b⟩:=zq.1 m;rw[Mc (e j x b).1] at Ce;cases Ce
 ·refine BK Ψ Dz h (λj p b=>?_) (.inl ⟨rfl,rfl⟩);obtain⟨i,u,f,n,g⟩:=e j p b;exact⟨u,by simpa using f,n,g _ _⟩
end
open Go.RowKit
section
variable {R:Type}{r:R}{P:Program}{N:Nat}{w0:World}{X0:M0}{Y:Nat->Prop}{β β':Bt}{s:St}{a:Act}{w w':World}{o:Oper}{A:Nat->Prop}
theorem BH(h:Oi P t=true):(∃d,P.underlying t=some d)/\(M2 P t).length=Bx P t/\(P.info? t).map (·.size)=some (Bx P t):=by
 simp only[Oi,Gh] at h;refine⟨j8.1 h.1,Ed h.2,?_⟩;unfold Bx;cases hi:P.info? t with
 |none=>unfold Program.underlying at h;rw[hi] at h;cases h.1
 |some i=>simp
theorem Vj(h:v.oneCell'=true):v.cells = #[v]:=by cases v<;>first|rfl|cases h
theorem Auf{K:Ae->Option R}(o:Gw w A β p v)(k:(cellsOf p).length=ts.length)(h:Xo ts (cellsOf p) 0 K=some r):
  ∃cs,K cs=some r/\cs.length=ts.length/\B4 (C4 w A β) cs v.cells.toList/\(∀u∈v.cells.toList,u.oneCell'=true)/\(∀c∈cs,∀id∈A6 c,id∈Cy p)/\∀c∈cs,(∀x,c ≠ .agg x)/\(∀x,c ≠ .tup x):=by
 obtain⟨cs,h,Sf,TW,j⟩:=HO h;refine⟨cs,h,Sf,?_⟩
 have single:(∀x,p ≠ .agg x)->cellsOf p=[p]:=by
  intro hp;cases p<;>first|rfl|exact absurd rfl (hp _)
 by_cases Jf:∃x,p=.agg x
 ·obtain⟨x,rfl⟩:=Jf;obtain⟨vs,rfl,s⟩:=o;have Ev:cs.length=vs.length:=by rw[Sf,<-k];exact s.len
  have g:∀(i:Nat) c u,cs[i]?=some c->vs[i]?=some u->C4 w A β c u/\u.oneCell'=true:=by
   intro i c u f a;obtain⟨q,b,_,_,d⟩:=j i c f;rw[I8] at b;exact d w A β u (s.at_ b a)
  refine⟨B4.of_at Ev λi c u f a=>(g i c u f a).1,?_,?_,TW⟩
  ·intro u a;obtain⟨i,hi⟩:=zq.1 (show u∈vs from a)
   have Ct:i<vs.length:=by
    rcases Kp i vs.length with h|h
    ·exact h
    ·rw[zh h] at hi;cases hi
   exact (g i _ u (zd Ω) hi).2
  ·intro c l id Ce;obtain⟨i,hi⟩:=zq.1 l;obtain⟨q,b,_,m,_⟩:=j i c hi;rw[I8] at b;show id∈x.flatMap A6;exact zk.2 ⟨q,zn b,m id Ce⟩
 ·have hp:∀x,p ≠ .agg x:=λx e=>Jf ⟨x,e⟩;rw[single hp] at k j;have n:cs.length=1:=by rw[Sf,<-k];rfl
  match cs,n with
  |[c],_=>
   obtain⟨q,b,y,m,d⟩:=j 0 c rfl;simp at b;subst b;have AA:∀x,p ≠ .tup x:=by rintro x rfl;exact y
   have Yb:C4 w A β p v:=(PL hp).1 ((Yk AA).1 o);obtain⟨z,t⟩:=d w A β v Yb;rw[Vj t];refine⟨⟨z,trivial⟩,?_,?_,TW⟩
   ·intro u a;simp at a;subst a;exact t
   ·intro B f id Ce;simp at f;subst f;have:=m id Ce;cases p<;>first|exact this|exact absurd rfl (hp _)|exact absurd rfl (AA _)
end
open Go.RowKit
section
variable {R:Type}{r:R}{P:Program}{N:Nat}{w0:World}{X0:M0}{Y:Nat->Prop}{β β':Bt}{s:St}{a:Act}{w w':World}{o:Oper}{A:Nat->Prop}
theorem B4.get{α β':Type}{R':α->β'->Prop}{a:List α}{bs:List β'}(h:B4 R' a bs){x:α}(b:a[i]?=some x):∃y,bs[i]?=some y/\R' x y:=by
 have Ct:i<a.length:=by
  rcases Kp i a.length with h|h
  ·exact h
  ·rw[zh h] at b;cases b
 have c:bs[i]?=some (bs[i]'(by rw[<-h.len];exact Ct)):=zd _
 exact⟨_,c,h.at_ b c⟩
theorem A87{K:Ae->Option R}(m:Gw w A β p v)(g:(cellsOf p).length=ts.length)(h:GC ts (cellsOf p) 0 K=some r):
  ∃cs,K cs=some r/\cs.length=ts.length/\B4 (A7 w A) cs v.cells.toList/\∀u∈v.cells.toList,u.oneCell'=true:=by
 obtain⟨cs,h,Sf,j⟩:=IX h;refine⟨cs,h,Sf,?_⟩;by_cases Jf:∃x,p=.agg x
 ·obtain⟨x,rfl⟩:=Jf;obtain⟨vs,rfl,n⟩:=m;have Ev:cs.length=vs.length:=by rw[Sf,<-g];exact n.len
  have d:∀(i:Nat) c u,cs[i]?=some c->vs[i]?=some u->A7 w A c u/\u.oneCell'=true:=by
   intro i c u k a;obtain⟨_,q,f,_,b⟩:=j i c k;rw[I8] at f;exact b w A β u (n.at_ f a)
  refine⟨B4.of_at Ev λi c u k a=>(d i c u k a).1,?_⟩;intro u a;obtain⟨i,hi⟩:=zq.1 (show u∈vs from a)
  have Ct:i<vs.length:=by
   rcases Kp i vs.length with h|h
   ·exact h
   ·rw[zh h] at hi;cases hi
  exact (d i _ u (zd Ω) hi).2
 ·have hp:∀x,p ≠ .agg x:=λx e=>Jf ⟨x,e⟩;have single:cellsOf p=[p]:=by cases p<;>first|rfl|exact absurd rfl (hp _)
  rw[single] at g j;have l:cs.length=1:=by rw[Sf,<-g];rfl
  match cs,l with
  |[c],_=>
   obtain⟨_,q,f,s,b⟩:=j 0 c rfl;simp at f;subst f;have AA:∀x,p ≠ .tup x:=by rintro x rfl;exact s
   have Yb:C4 w A β p v:=(PL hp).1 ((Yk AA).1 m);obtain⟨t,o⟩:=b w A β v Yb;rw[Vj o];exact⟨⟨t,trivial⟩,λu a=>by simp at a;subst a;exact o⟩
theorem Au5(h:D3 N w0 X0 Y β s a w)(m:o.op=.box t x){K:PV->Cl->List (Nat × Co)->Option R}(b:(As (Oi P t&&Nat.beq (cellsOf (Da s.tm x)).length (M2 P t).length)
      (bif DV P t then GC (M2 P t) (cellsOf (Da s.tm x)) 0 λcs=>K (.ptr d 0) [] [(d,.ar false cs)]
       else Xo (M2 P t) (cellsOf (Da s.tm x)) 0 λcs=>K (.ptr d 0) [] [(d,.st cs)]))=some r):∃v fz nw,K v fz nw=some r/\Gm P a w o Y β s v fz nw:=by
  obtain⟨e,b⟩:=Ax b
  simp only[Gh] at e
  have e:=Ed e.2
  have Dz:(execOp a.eval o).run P w=.ok (.value (.pointer (some ⟨w.heap.size,0,none⟩))) (w.alloc (.cells (a.eval x).cells t)):=by
    unfold execOp
    rw[m]
    simp[Instr.box,newVar,newRow]
  have k:=Ie.alloc w (a.eval x).cells t
  cases l:DV P t
  · rw[l] at b
    obtain⟨cs,b,_,g,_,n,_⟩:=Auf (Ec h x) e b
    refine⟨_,_,_,b,Ad7 Dz k (λj p i=>?_) λc q id Ce=>Hs h x id (n c q id Ce)⟩
    obtain⟨u,f,hp⟩:=g.get i
    exact⟨u,by simpa using f,hp⟩
  · rw[l] at b
    obtain⟨cs,b,_,g,y⟩:=A87 (Ec h x) e b
    refine⟨_,_,_,b,BK Ψ Dz k (λj p i=>?_) (.inl ⟨rfl,rfl⟩)⟩
    obtain⟨u,f,hp⟩:=g.get i
    exact⟨u,by simpa using f,y u (zn f),hp⟩
theorem Aq2{c:PV}(a:∀x,c ≠ .agg x)(b:∀x,c ≠ .tup x):Cy c=A6 c:=by cases c<;>first|rfl|exact absurd rfl (a _)|exact absurd rfl (b _)
theorem PM{ad:Addr}(b:Oi P t=true)(Ev:cs.length=(M2 P t).length)(TW:∀c∈cs,(∀x,c ≠ .agg x)/\(∀x,c ≠ .tup x))(e:∀(j:Nat) c,cs[j]?=some c->∃v,w.cell? (ad.add j)=some v/\C4 w A β c v)(hp:(C6 P t=true/\p=.agg cs)\/(C6 P t=false/\cs=[p])):∃val,(loadVar t ad).run P w=.ok val w/\Gw w A β p val:=by
 obtain⟨⟨d,hd⟩,n,hi⟩:=BH b;rcases hp with⟨Jf,rfl⟩|⟨Jf,rfl⟩
 ·have l:∀j,j<Bx P t->w.cell? (ad.add j)=some ((w.cell? (ad.add j)).getD undef):=by
   intro j o;obtain⟨v,a,_⟩:=e j _ (zd Ω);rw[a];rfl
  refine⟨_,?_,(za (Bx P t)).map (λj=>(w.cell? (ad.add j)).getD undef),rfl,?_⟩
  ·simp only[loadVar,xd,Vl hd,Jf,xf,if_true,Rd hi,run_loadCells w ad (Bx P t) _ l];simp
  ·refine B4.of_at (by simp;omega) λi c u f g=>?_
   obtain⟨v,a,WK⟩:=e i c f
   have Ct:i<Bx P t:=by
    rcases Kp i cs.length with h|h
    ·omega
    ·rw[zh h] at f;cases f
   rw[zr,List.getElem?_range Ct] at g;simp[a] at g;subst g;exact WK
 ·obtain⟨v,a,WK⟩:=e 0 p rfl;have k:=TW p Ψ;have m:ad.add 0=ad:=by simp[Addr.add]
  rw[m] at a;refine⟨v,?_,(Yk k.2).2 ((PL k.1).2 WK)⟩;simp only[loadVar,xd,Vl hd,Jf,xf];simp[a]
theorem A2z{id:Nat}(h:rd hp id=some c):hp id=some (.st c)\/∃f,hp id=some (.ar f c):=by
 unfold rd at h;split at h
 ·rename_i e;simp at h;subst h;exact .inl e
 ·rename_i f _ e;simp at h;subst h;exact .inr ⟨_,e⟩
 ·cases h
theorem Aiy{id:Nat}(h:Pf hp id=some c):∃f,hp id=some (.ar f c):=by
 unfold Pf at h;split at h
 ·rename_i e;simp at h;subst h;exact⟨_,e⟩
 ·cases h
theorem ZM(h:D3 N w0 X0 Y β s a w){id:Nat}(g:rd s.hp id=some c){b ob:Nat}(i:β id=some (b,ob))(l:c[j]?=some p):
  ∃v,w.cell? ⟨b,ob+j,none⟩=some v/\C4 w (Em s.hp β Y) β p v:=by
 rcases A2z g with e|⟨f,e⟩
 ·obtain⟨o,q,d,k,_⟩:=h.box id _ e;rw[i] at d;simp at d;obtain⟨rfl,rfl⟩:=d;exact k j p l
 ·rcases h.box id _ e with⟨d,_⟩|⟨o,q,d,k,_⟩
  ·rw[i] at d;cases d
  ·rw[i] at d;simp at d;obtain⟨rfl,rfl⟩:=d
   obtain⟨v,m,_,ht⟩:=k j p l;rw[E1] at m;refine⟨v,m,?_⟩;cases ht with
   |sc=>exact A7.sc _
   |top=>exact A7.top _
   |ub=>exact A7.ub _
   |lnil=>exact A7.lnil _ _
   |lemp=>exact A7.lemp _ _ _
   |lst es n cells a cap f r e t x y d g=>exact A7.lst es n cells a cap f r e t x y d g
theorem Rn:∀{ts:List CT}{cells:Ae}{off:Nat}{K:Ae->Option R},GC ts cells off K=some r->Xo ts cells off K=some r
 |[],_,_,_,h=>h
 |.int k::ts,cells,off,K,h=>by
  obtain⟨n,hp,h⟩:=Gz (show Bi k (cells.getD off .top) _=some r from h);show Bi k _ _=_;rw[hp];simp only[Bi,if_true];exact Rn h
 |.bool::ts,cells,off,K,h=>by
  obtain⟨n,hp,h⟩:=Fl (show Bh (cells.getD off .top) _=some r from h);show Bh _ _=_;rw[hp];exact Rn h
 |.str::ts,cells,off,K,h=>by
  obtain⟨n,hp,h⟩:=E8 (show At (cells.getD off .top) _=some r from h);show At _ _=_;rw[hp];exact Rn h
 |.sl es::ts,cells,off,K,h=>by
  obtain⟨z,n,c,h,hp⟩:=Jy (show Y9 es (cells.getD off .top) _=some r from h);change fcK (.sl es) (cells.getD off .top) (λc=>Xo ts cells (off+1) λr=>K (c::r))=some r;unfold fcK;dsimp only;unfold fsK;rcases hp with hp|⟨hp,rfl,rfl,rfl⟩
  ·rw[hp];simp only[Y9,Uz,cond_true];exact Rn h
  ·rw[hp];exact Rn h
 |.any::ts,cells,off,K,h=>by
  have a:∀v,GC ts cells (off+1) (λr=>K (.sc v::r))=some r->Xo ts cells (off+1) (λr=>K (.sc v::r))=some r:=λv h=>Rn h;have h:fnK (cells.getD off .top) (λv=>GC ts cells (off+1) λr=>K (.sc v::r))=some r:=h;show fnK (cells.getD off .top) (λv=>Xo ts cells (off+1) λr=>K (.sc v::r))=some r;unfold fnK at h ⊢;split at h
  ·rename_i e;exact a _ h
  ·exact a _ h
  ·cases h
theorem A7.unz{w:World}{A:Nat->Prop}(h:A7 w A (.lst z es n c) u):A7 w A (.lst false es n c) u:=by
 cases h with
 |lnil z es=>exact .lnil false es
 |lemp es a cap=>exact .lemp es a cap
 |lst es n c a cap f b d e g i j k=>exact .lst es n c a cap f b d e g i j k
theorem Axt{w:World}{A:Nat->Prop}{β:Bt}(h:C4 w A β p u):C4 w A β (Aii p) u:=by
 cases p with
 |lst z es n c=>exact A7.unz h
 |_=>exact h
theorem Aq6(p:PV):A6 (Aii p)=A6 p:=by cases p<;>rfl
theorem Afk{w:World}{A:Nat->Prop}{β:Bt}:∀{cs:Ae}{vs:List Value},B4 (C4 w A β) cs vs->B4 (C4 w A β) (cs.map Aii) vs
 |[],[],_=>trivial
 |_::_,_::_,h=>⟨Axt h.1,Afk h.2⟩
 |[],_::_,h=>h.elim
 |_::_,[],h=>h.elim
theorem Avu{w:World}{A:Nat->Prop}{β:Bt}(h:Gw w A β p u):Gw w A β (Ao8 p) u:=by
 cases p with
 |agg a=>
  obtain⟨vs,b,d⟩:=(show Mq w A β (.agg a) u from h)
  exact⟨vs,b,Afk d⟩
 |lst z es n c=>exact A7.unz (show A7 w A (.lst z es n c) u from h)
 |_=>exact h
theorem Auy(p:PV):Cy (Ao8 p)=Cy p:=by
 cases p with
 |agg b=>
  show (b.map Aii).flatMap A6=b.flatMap A6
  induction b with
  |nil=>rfl
  |cons a l c=>rw[ER,Le,Le,c,Aq6]
 |_=>rfl
theorem A80{x:PV}{K:PV->Option R}(h:QG nz P (rd hp) (Pf hp) t x K=some r):
  OB P (rd hp) t x K=some r\/OB P (rd hp) t x (λv=>K (Ao8 v))=some r:=by
 have a:OB P (rd hp) t x K=some r\/OB P (rd hp) t x (λv=>K (bif nz then v else Ao8 v))=some r:=by
  unfold QG at h;unfold OB;split at h
  ·rename_i id off;obtain⟨b,h⟩:=Ax h;rw[b];show Dq _ _=_\/Dq _ _=_;split at h
   ·rename_i c d;obtain⟨f,Tn⟩:=Aiy d;have:rd hp id=some c:=by unfold rd;rw[Tn]
    rw[this];exact .inr (Rn h)
   ·exact .inl h
  ·exact .inr h
  ·cases h
 cases nz
 ·exact a
 ·exact .inl (a.elim id id)
theorem Ae6(h:D3 N w0 X0 Y β s a w){x:PV}(G:Gw w (Em s.hp β Y) β x u){K:PV->Option R}(d:OB P (rd s.hp) t x K=some r):
  ∃v ad val,K v=some r/\u=.pointer (some ad)/\(loadVar t ad).run P w=.ok val w/\Gw w (Em s.hp β Y) β v val/\∀i∈Cy v,s.hp i≠none:=by
 unfold OB at d;split at d
 ·rename_i id off;obtain⟨k,d⟩:=Ax d;obtain⟨c,C,d⟩:=Dh d;obtain⟨l,d,o,TW,m⟩:=HO d;obtain⟨b,J,H,y⟩:=G
  have Fc:∀(j:Nat) q,l[j]?=some q->∃v,w.cell? ((⟨b,J+off,none⟩:Addr).add j)=some v/\C4 w (Em s.hp β Y) β q v:=by
   intro j q e;obtain⟨p,hp,_,_,TJ⟩:=m j q e;obtain⟨v,g,WK⟩:=ZM h C H hp;exact⟨v,by rw[E1,Ld];exact g,(TJ _ _ _ _ WK).1⟩
  have ME:∀q∈l,∀i∈A6 q,s.hp i≠none:=by
   intro q e i hi;obtain⟨j,n⟩:=zq.1 e;obtain⟨p,hp,_,z,_⟩:=m j q n;rcases A2z C with B|⟨f,B⟩
   ·exact h.wfB id c B p (zn hp) i (z i hi)
   ·obtain⟨v,g,WK⟩:=ZM h C H hp;exfalso;have Ek:=z i hi;rcases h.box id _ B with⟨_,rfl⟩|⟨O,Q,S,L,_⟩
    ·simp at hp
    ·obtain⟨T,_,_,ht⟩:=L _ p hp;cases ht<;>cases Ek
  rcases Ajh d with⟨Jf,Hn⟩|⟨Jf,q,rfl,Hn⟩
  ·obtain⟨val,SF,g⟩:=PM k o TW Fc (.inl ⟨Jf,rfl⟩);refine⟨_,_,val,Hn,y,SF,g,λi hi=>?_⟩;obtain⟨q,e,hi⟩:=zk.1 (show i∈l.flatMap A6 from hi);exact ME q e i hi
  ·obtain⟨val,SF,g⟩:=PM k o TW Fc (.inr ⟨Jf,rfl⟩);refine⟨_,_,val,Hn,y,SF,g,λi hi=>ME q Ψ i ?_⟩;have A:=TW q Ψ;rw[Aq2 A.1 A.2] at hi;exact hi
 ·rename_i c off;obtain⟨k,d⟩:=Ax d;obtain⟨l,d,o,m⟩:=IX d;obtain⟨ad,y,U,B,V,D⟩:=G
  have TW:∀q∈l,(∀x,q ≠ .agg x)/\(∀x,q ≠ .tup x):=by
   intro q e;obtain⟨j,n⟩:=zq.1 e;exact⟨RW (m j q n).1,Ato (m j q n).1⟩
  have Fc:∀(j:Nat) q,l[j]?=some q->∃v,w.cell? ((ad.add off).add j)=some v/\C4 w (Em s.hp β Y) β q v:=by
   intro j q e;obtain⟨M,p,hp,E,TJ⟩:=m j q e;obtain⟨v,g,_,ht⟩:=D (off+j) p hp;exact⟨v,by rw[add_add];exact g,(Sw M).2 (TJ w (Em s.hp β Y) β v ((Sw E).2 ht)).1⟩
  have ME:∀q∈l,A6 q=[]:=by
   intro q e;obtain⟨j,n⟩:=zq.1 e;exact Mc (m j q n).1
  rcases Ajh d with⟨Jf,Hn⟩|⟨Jf,q,rfl,Hn⟩
  ·obtain⟨val,SF,g⟩:=PM k o TW Fc (.inl ⟨Jf,rfl⟩);refine⟨_,_,val,Hn,y,SF,g,λi hi=>?_⟩;obtain⟨q,e,hi⟩:=zk.1 (show i∈l.flatMap A6 from hi);rw[ME q e] at hi;cases hi
  ·obtain⟨val,SF,g⟩:=PM k o TW Fc (.inr ⟨Jf,rfl⟩);refine⟨_,_,val,Hn,y,SF,g,λi hi=>?_⟩;have A:=TW q Ψ;rw[Aq2 A.1 A.2,ME q Ψ] at hi;cases hi
 ·cases d
theorem Al3(h:D3 N w0 X0 Y β s a w){x:PV}(c:Gw w (Em s.hp β Y) β x u){K:PV->Option R}(b:QG nz P (rd s.hp) (Pf s.hp) t x K=some r):
  ∃v ad val,K v=some r/\u=.pointer (some ad)/\(loadVar t ad).run P w=.ok val w/\Gw w (Em s.hp β Y) β v val/\∀i∈Cy v,s.hp i≠none:=by
 rcases A80 b with b|b
 ·exact Ae6 h c b
 ·obtain⟨v,ad,val,d,e,f,g,j⟩:=Ae6 h c b;exact⟨Ao8 v,ad,val,d,e,f,Avu g,by rw[Auy];exact j⟩
theorem Apw(h:D3 N w0 X0 Y β s a w)(b:o.op=.load t x){K:PV->Option R}(c:QG nz P (rd s.hp) (Pf s.hp) t (Da s.tm x) K=some r):
  ∃v,K v=some r/\Gm P a w o Y β s v [] []:=by
 obtain⟨v,ad,val,d,e,f,g,i⟩:=Al3 h (Ec h x) c;refine⟨v,d,C5 ?_ g i⟩;unfold execOp;rw[b];simp[Instr.loadAt,xg,e,f]
theorem Axb{x:PV}{K:PV->Option R}(h:JE x d K=some r):(∃id off,x=.ptr id off/\K (.ptr id (off+d))=some r)\/∃c off,x=.iptr c off/\K (.iptr c (off+d))=some r:=by
 unfold JE at h;split at h
 ·exact .inl ⟨_,_,rfl,h⟩
 ·exact .inr ⟨_,_,rfl,h⟩
 ·cases h
theorem NV(h:D3 N w0 X0 Y β s a w){K:PV->Option R}(f:JE (Da s.tm x) d K=some r)(Dz:∀ad:Addr,a.eval x=.pointer (some ad)->(execOp a.eval o).run P w=.ok (.value (.pointer (some (ad.add d)))) w):∃v,K v=some r/\Gm P a w o Y β s v [] []:=by
 have j:=Ec h x;have g:=Hs h x;rcases Axb f with⟨id,off,e,f⟩|⟨c,off,e,f⟩
 ·rw[e] at j g;obtain⟨b,l,m,k⟩:=j;refine⟨_,f,C5 (Dz _ k) ⟨b,l,m,by rw[E1,Ld]⟩ g⟩
 ·rw[e] at j;obtain⟨ad,k,n,p,q,t⟩:=j;exact⟨_,f,C5 (Dz _ k) ⟨ad,by rw[add_add],n,p,q,t⟩ (by intro i hi;cases hi)⟩
theorem ZF(h:D3 N w0 X0 Y β s a w)(b:o.op=.nilCheck x){K:PV->Option R}(c:JE (Da s.tm x) 0 K=some r):∃v,K v=some r/\Gm P a w o Y β s v [] []:=by refine NV h c λad d=>?_;unfold execOp;rw[b];simp[d,Addr.add]
theorem SI{q:Nat × TypeId}(h:BS P t f=some q):∃a g,P.underlying t=some (.struct a)/\a[f]?=some g/\q=(g.offset,g.type):=by
 unfold BS at h;split at h
 ·rename_i a e;cases b:a[f]? with
  |none=>rw[b] at h;cases h
  |some g=>rw[b] at h;simp at h;exact⟨a,g,e,b,h.symm⟩
 ·cases h
theorem WR(h:D3 N w0 X0 Y β s a w)(d:o.op=.fieldAddr t x f){K:PV->Option R}(b:(Dq (BS P t f) λq=>As (jg 1 (Bx P q.2)) (JE (Da s.tm x) q.1 K))=some r):∃v,K v=some r/\Gm P a w o Y β s v [] []:=by
 obtain⟨q,e,b⟩:=Dh b;obtain⟨c,b⟩:=Ax b;obtain⟨n,g,i,j,rfl⟩:=SI e;have c:1<=Bx P g.type:=Vc c;have k:=A29 (P:=P) (t:=g.type) rfl Ω;refine NV h b λad l=>?_;unfold execOp;rw[d];have m:¬Bx P g.type=0:=Ω
 simp[Instr.fieldAt,run_underlying i,j,xg,l,fieldPlace,Rd k,m]
end
open Go.RowKit
section
variable {R:Type}{r:R}{P:Program}{N:Nat}{w0:World}{X0:M0}{Y:Nat->Prop}{β β':Bt}{s:St}{a:Act}{w w':World}{o:Oper}{A:Nat->Prop}
theorem Ab6(h:D3 N w0 X0 Y β s a w){vs:List Value}{off:Nat}{K:PV->Option R}(C:Da s.tm x=.agg cs)(D:B4 (C4 w (Em s.hp β Y) β) cs vs)(e:As (Oi P t) (Xo (M2 P t) cs off λc=>mkV (C6 P t) c K)=some r)(Dz:∀val,(part t ⟨vs⟩ off).run P w=.ok val w->(execOp a.eval o).run P w=.ok (.value val) w):∃v,K v=some r/\Gm P a w o Y β s v [] []:=by
 obtain⟨m,e⟩:=Ax e;obtain⟨⟨d,hd⟩,G,hi⟩:=BH m;obtain⟨k,e,E,TW,z⟩:=HO e;have f:=Hs h x;rw[C] at f
 have Fc:∀(j:Nat) q,k[j]?=some q->∃v,vs[off+j]?=some v/\C4 w (Em s.hp β Y) β q v:=by
  intro j q n;obtain⟨p,hp,_,_,TJ⟩:=z j q n;obtain⟨v,Yb,g⟩:=D.get hp;exact⟨v,Yb,(TJ _ _ _ _ g).1⟩
 have ME:∀q∈k,∀i∈A6 q,s.hp i≠none:=by
  intro q b i hi;obtain⟨j,n⟩:=zq.1 b;obtain⟨p,hp,_,y,_⟩:=z j q n;exact f i (zk.2 ⟨p,zn hp,y i hi⟩)
 rcases Ajh e with⟨Jf,Hn⟩|⟨Jf,q,rfl,Hn⟩
 ·have JJ:Bx P t=0\/off+Bx P t<=vs.length:=by
   rcases jo (Bx P t) with A|A
   ·exact .inl A
   ·obtain⟨v,Yb,_⟩:=Fc (Bx P t-1) _ (zd Ω)
    have:off+(Bx P t-1)<vs.length:=by
     rcases Kp (off+(Bx P t-1)) vs.length with h|h
     ·exact h
     ·rw[zh h] at Yb;cases Yb
    exact .inr Ω
  refine⟨_,Hn,C5 (Dz (.agg ⟨(vs.drop off).take (Bx P t)⟩) ?_) ⟨(vs.drop off).take (Bx P t),rfl,?_⟩ λi hi=>?_⟩
  ·simp only[part,xd,Vl hd,Jf,xf,if_true,Rd hi];simp[List.extract_eq_take_drop]
  ·refine B4.of_at ?_ λi c u g B=>?_
   ·simp only[List.length_take,List.length_drop];omega
   ·obtain⟨v,Yb,WK⟩:=Fc i c g
    have Ct:i<Bx P t:=by
     rcases Kp i k.length with h|h
     ·omega
     ·rw[zh h] at g;cases g
    rw[List.getElem?_take_of_lt Ct,zg,Yb] at B;cases B;exact WK
  ·obtain⟨q,b,hi⟩:=zk.1 (show i∈k.flatMap A6 from hi);exact ME q b i hi
 ·obtain⟨v,Yb,WK⟩:=Fc 0 q rfl;have l:=TW q Ψ;refine⟨_,Hn,C5 (Dz v ?_) ((Yk l.2).2 ((PL l.1).2 WK)) λi hi=>?_⟩
  ·simp only[part,xd,Vl hd,Jf,xf];rw[Zzr] at Yb;simp[Yb]
  ·rw[Aq2 l.1 l.2] at hi;exact ME q Ψ i hi
theorem Amx(h:D3 N w0 X0 Y β s a w)(j:o.op=.field t x f){K:PV->Option R}(b:(Dq (BS P t f) λq=>As (Oi P q.2)<|Cr (Da s.tm x) λcs=>Xo (M2 P q.2) cs q.1 λc=>mkV (C6 P q.2) c K)=some r):∃v,K v=some r/\Gm P a w o Y β s v [] []:=by
 obtain⟨q,k,b⟩:=Dh b;obtain⟨e,b⟩:=Ax b;obtain⟨cs,i,b⟩:=Lt b;obtain⟨y,g,l,m,rfl⟩:=SI k;have d:=Ec h x;rw[i] at d;obtain⟨vs,n,p⟩:=d;refine Ab6 (t:=g.type) (off:=g.offset) h i p (by rw[show Oi P g.type=true from e];exact b) λval hp=>?_
 unfold execOp;rw[j];simp[Instr.field,run_underlying l,m,asAgg,n,hp]
theorem Ac7(h:D3 N w0 X0 Y β s a w)(f:o.op=.extract x i){K:PV->Option R}(b:(match Da s.tm x with | .tup vs=>Dq vs[i]? K|_=>none)=some r):∃v,K v=some r/\Gm P a w o Y β s v [] []:=by
 have d:=Ec h x;have c:=Hs h x;split at b
 ·rename_i ps e;rw[e] at d c;obtain⟨p,hp,b⟩:=Dh b;obtain⟨vs,g,j⟩:=d;obtain⟨v,Yb,TJ⟩:=j.get hp
  have Ba9:∀y,p ≠ .tup y:=by
   rintro y rfl
   have Bn9:A7 _ _ (.tup y) v:=TJ;cases Bn9
  refine⟨p,b,C5 (val:=v) ?_ ((Yk Ba9).2 TJ) λid Ce=>c id ?_⟩
  ·unfold execOp;rw[f];simp[Instr.extract,g,Yb]
  ·refine zk.2 ⟨p,zn hp,?_⟩;cases p<;>first|exact Ce|exact absurd rfl (Ba9 _)
 ·cases b
theorem J0(hp:p=.lst z es n c\/(p=.sc (.slice none 0 0)/\z=true/\n=0/\c=[]))(b:Gw w A β p v):
  (v=.slice none 0 0/\n=0/\c=[])\/(∃ad cap,v=.slice (some ad) n cap/\z=false/\n<=cap/\ad.spot=none/\ad.block<w.heap.size/\¬A ad.block/\RdT w A ad c)\/∃ad cap,v=.slice (some ad) 0 cap/\z=false/\n=0/\c=[]:=by
 have Yb:C4 w A β p v:=by rcases hp with rfl|⟨rfl,_⟩<;>exact b
 have ht:=NE hp Yb;cases ht with
 |lnil=>exact .inl ⟨rfl,rfl,rfl⟩
 |lst _ _ _ ad cap f d e g h i k l=>exact .inr (.inl ⟨ad,cap,rfl,rfl,h,d,e,g,λj q a=>⟨f j,i j q a,k j q a,l j q a⟩⟩)
 |lemp _ ad cap=>exact .inr (.inr ⟨ad,cap,rfl,rfl,rfl,rfl⟩)
theorem WQ(h:D3 N w0 X0 Y β s a w){i:Operand}(q:o.op=.indexAddr t x i){K:PV->Option R}(d:(Fa (Da s.tm i) λ_ n=>Rl P t (Da s.tm x) n K)=some r):∃v,K v=some r/\Gm P a w o Y β s v [] []:=by
 obtain⟨Q,n,hi,d⟩:=Fi d;have g:=Db h hi;have A:=Ec h x;have j:=Hs h x;unfold Rl at d;split at d
 ·rename_i len e m;obtain⟨B,d⟩:=Ax d;obtain⟨f,d⟩:=Ax d;simp only[Gh,JT] at f;obtain⟨k,Zj⟩:=j8.1 B;refine NV h d λad l=>?_;unfold execOp;rw[q];simp[xh,asIntOf,g,l,run_underlying m,xg,f.1,f.2,sizeOf,typeInfo,Zj,Bx]
 ·rename_i e m;obtain⟨B,d⟩:=Ax d;obtain⟨k,Zj⟩:=j8.1 B;have D:Bx P e=k.size:=by simp[Bx,Zj]
  split at d
  ·rename_i id es off E G;rw[G] at A j;obtain⟨FZ,d⟩:=Ax d;have FZ:=Ed FZ;subst FZ;obtain⟨f,d⟩:=Ax d;simp only[Gh,JT] at f;rcases A with⟨_,_,rfl,_⟩|⟨b,C,y,cap,H,l,p,_⟩
   ·omega
   ·have p:y=C+off:=by rcases p with p|⟨rfl,_⟩<;>omega
    subst p;refine⟨_,d,C5 (val:=.pointer (some ⟨b,C+(off+n.toNat*Bx P e),none⟩)) ?_ ⟨b,C,H,rfl⟩ j⟩;unfold execOp;rw[q];simp[xh,asIntOf,g,l,run_underlying m,f.1,f.2,sizeOf,typeInfo,Zj,D,E1,Ld]
  ·obtain⟨z,E,c,d,hp⟩:=Jy d;obtain⟨f,d⟩:=Ax d;simp only[Gh,JT] at f;rcases J0 hp A with⟨_,rfl,_⟩|⟨ad,cap,l,_,_,J,L,M,O⟩|⟨_,_,_,_,rfl,_⟩
   ·omega
   rotate_left
   ·omega
   ·refine⟨_,d,C5 (val:=.pointer (some (ad.add (n.toNat*Bx P e)))) ?_ ⟨ad,rfl,J,L,M,O⟩ (by intro i hi;cases hi)⟩
    unfold execOp;rw[q];simp[xh,asIntOf,g,l,run_underlying m,f.1,f.2,sizeOf,typeInfo,Zj,D]
 ·cases d
theorem Ak5(h:D3 N w0 X0 Y β s a w){i:Operand}(y:o.op=.index t x i){K:PV->Option R}(d:(Fa (Da s.tm i) λ_ n=>
   match P.underlying t with
   |some .string=>At (Da s.tm x) λs=>As (decide (0<=n)) (Dq (s.data.toList[n.toNat]?) λb=>K (.sc (.int .u8 b.toNat)))
   |some (.array len e)=>Cr (Da s.tm x) λcs=>As (decide (0<=n)&&decide (n<len)&&Oi P e) (Xo (M2 P e) cs (n.toNat*Bx P e) λc=>mkV (C6 P e) c K)
   |_=>none)=some r):∃v,K v=some r/\Gm P a w o Y β s v [] []:=by
 obtain⟨B,n,hi,d⟩:=Fi d;have g:=Db h hi;split at d
 ·rename_i m;obtain⟨j,l,d⟩:=E8 d;have p:=Db h l;obtain⟨q,d⟩:=Ax d;obtain⟨b,f,d⟩:=Dh d;have q:=of_decide_eq_true q;refine⟨_,d,Do ?_⟩
  have Ct:n.toNat<j.size:=by
   rcases Kp n.toNat j.data.toList.length with h|h
   ·simpa using h
   ·rw[zh h] at f;cases f
  have Mv:j[n.toNat]=b:=by
   have:j.data.toList[n.toNat]?=some j[n.toNat]:=by
    rw[zd (by simpa using Ct)];rfl
   rw[f] at this;injection this with this;exact this.symm
  unfold execOp;rw[y];simp[xi,asIntOf,g,p,run_underlying m,q,Ct,Mv]
 ·rename_i len e m;obtain⟨cs,l,d⟩:=Lt d;obtain⟨f,d⟩:=Ax d;simp only[Gh,JT] at f;have k:=Ec h x;rw[l] at k;obtain⟨vs,p,z⟩:=k;obtain⟨_,_,A⟩:=BH f.2;refine Ab6 (t:=e) (off:=n.toNat*Bx P e) h l z (by rw[f.2];exact d) λval hp=>?_
  unfold execOp;rw[y];simp[xi,asIntOf,g,p,run_underlying m,f.1.1,f.1.2,Rd A,hp]
 ·cases d
end
open Go.RowKit
section
variable {R:Type}{r:R}{P:Program}{N:Nat}{w0:World}{X0:M0}{Y:Nat->Prop}{β β':Bt}{s:St}{a:Act}{w w':World}{o:Oper}{A:Nat->Prop}
theorem Fw(h:D3 N w0 X0 Y β s a w){x:Option Operand}{dflt:Nat}{K:Nat->Option R}(b:Ku (x.map (Da s.tm)) dflt K=some r):
  ∃l,K l=some r/\((x=none/\l=dflt)\/∃y k,x=some y/\a.eval y=.int k (l:Int)):=by
 cases x with
 |none=>exact⟨dflt,b,.inl ⟨rfl,rfl⟩⟩
 |some y=>
  obtain⟨k,i,hi,b⟩:=Fi (show Fa (Da s.tm y) _=some r from b);obtain⟨c,b⟩:=Ax b;have c:=of_decide_eq_true c;exact⟨i.toNat,b,.inr ⟨y,k,rfl,by rw[Db h hi,Int.toNat_of_nonneg c]⟩⟩
theorem Nv{lo hi:Option Operand}{isS:Bool}{len cap l u:Nat}(f:(lo=none/\l=0)\/∃y k,lo=some y/\a.eval y=.int k (l:Int))(g:(hi=none/\u=len)\/∃y k,hi=some y/\a.eval y=.int k (u:Int))(c:l<=u)(d:u<=cap):
  (xj isS len cap (lo.map a.eval) (hi.map a.eval) none).run P w=.ok (l,u,cap) w:=by
 rcases f with⟨rfl,rfl⟩|⟨y,k,rfl,e⟩<;>rcases g with⟨rfl,rfl⟩|⟨h,i,rfl,b⟩
 ·simp[xj]
 ·simp[xj,xk,asIntOf,b,d]
 ·simp[xj,xk,asIntOf,e,c]
 ·simp[xj,xk,asIntOf,e,b,c,d]
theorem D4(h:(P.info? e).isSome=true)(w:World):(sizeOf e).run P w=.ok (Bx P e) w:=by obtain⟨i,hi⟩:=j8.1 h;exact Rd (by simp[Bx,hi]) w
theorem RZ{b:Nat}(h:w.cell? ⟨b,j,none⟩=some v):j<bsz w b:=by
 unfold jy at h;unfold bsz;split at h
 ·rename_i c e fz d;simp only at d;rw[d];simp only[Option.isSome_none,qf,if_false] at h;rcases Kp j c.size with Ct|a
  ·exact Ct
  ·rw[xa a] at h;cases h
 ·cases h
theorem Amr(h:D3 N w0 X0 Y β s a w){lo hi:Option Operand}(J:o.op=.slice t x lo hi none){K:PV->Option R}(d:TF P (rd s.hp) t (Da s.tm x) (lo.map (Da s.tm)) (hi.map (Da s.tm)) K=some r):∃v,K v=some r/\Gm P a w o Y β s v [] []:=by
 have M:=Ec h x;have k:=Hs h x;unfold TF at d;split at d
 ·rename_i G;obtain⟨sb,Q,d⟩:=E8 d;have m:=Db h Q;obtain⟨l,d,D⟩:=Fw h d;obtain⟨u,d,Oy⟩:=Fw h d;obtain⟨f,d⟩:=Ax d;simp only[Gh,JT] at f;refine⟨_,d,Do ?_⟩;unfold execOp;rw[J];simp[xl,xm,run_underlying G,m,Nv D Oy f.1 f.2]
 ·rename_i e G;obtain⟨Zj,d⟩:=Ax d;split at d
  ·rename_i id es off n S;rw[S] at M k;obtain⟨FZ,d⟩:=Ax d;have FZ:=Ed FZ;subst FZ;obtain⟨l,d,D⟩:=Fw h d;obtain⟨u,d,Oy⟩:=Fw h d;obtain⟨f,d⟩:=Ax d;simp only[Gh,JT] at f;rcases M with⟨H,rfl,rfl,ad,m⟩|⟨b,p,y,cap,H,m,O,T,JB,Ct⟩
   ·have A:u=0:=Ω
    have B:l=0:=Ω
    subst A B;refine⟨_,d,C5 (val:=.slice ad 0 0) ?_ (.inl ⟨H,Ψ,rfl,ad,rfl⟩) k⟩;unfold execOp;rw[J];cases ad<;>simp[xl,xm,run_underlying G,m,Nv D Oy (Cz 0) (Cz 0),D4 Zj]
   ·have Dz:(execOp a.eval o).run P w=.ok (.value (.slice (some (if cap=l then ⟨b,y,none⟩ else ⟨b,y+l*Bx P e,none⟩)) (u-l) (cap-l))) w:=by
     unfold execOp;rw[J];have g:=Nv (P:=P) (w:=w) (isS:=true) D Oy f.1 (jl f.2 T);simp[xl,xm,run_underlying G,m,g,D4 Zj,E1];split<;>rfl
    refine⟨_,d,C5 Dz (.inr ?_) k⟩;by_cases E:cap=l
    ·rw[Bv E];refine⟨b,p,y,cap-l,H,rfl,?_,Ω,⟨by rw[E,jq];have:=JB.1;omega,JB.2⟩,Ct⟩
     by_cases U:l*Bx P e=0
     ·rw[U,Zzr];rcases O with O|⟨SL,X⟩
      ·exact .inl O
      ·exact .inr ⟨Ω,X⟩
     ·exact .inr ⟨Ω,Ω⟩
    ·rw[Bd E];refine⟨b,p,y+l*Bx P e,cap-l,H,rfl,?_,Ω,?_,Ct⟩
     ·rcases O with O|⟨SL,X⟩
      ·exact .inl Ω
      ·exact .inr ⟨Ω,Ω⟩
     ·have:l*Bx P e+(cap-l)*Bx P e=cap*Bx P e:=by
       rw[<-jr]
       congr 1
       omega
      have:=JB.1;exact⟨Ω,JB.2⟩
  ·obtain⟨z,n,c,d,hp⟩:=Jy d;obtain⟨l,d,D⟩:=Fw h d;obtain⟨u,d,Oy⟩:=Fw h d;obtain⟨f,d⟩:=Ax d;simp only[Gh,JT] at f;rcases J0 hp M with⟨m,rfl,rfl⟩|⟨ad,cap,m,rfl,T,Z,h2,h3,V⟩|⟨ad,cap,m,rfl,rfl,rfl⟩
   rotate_right
   ·have A:u=0:=Ω
    have B:l=0:=Ω
    subst A B;refine⟨_,d,C5 (val:=.slice (some (if cap=0 then ad else ad.add (0*Bx P e))) (0-0) (cap-0)) ?_ ?_ (by intro i hi;cases hi)⟩
    ·unfold execOp;rw[J];have g:=Nv (P:=P) (w:=w) (isS:=true) D Oy (Cz 0) (jt cap);simp[xl,xm,run_underlying G,m,g,D4 Zj];split<;>rfl
    ·have:((([]:Ae).drop (0*Bx P e)).take ((0-0)*Bx P e))=[]:=Ψ
     rw[this];exact A7.lemp _ _ _
   ·have A:u=0:=Ω
    have B:l=0:=Ω
    subst A B;refine⟨_,d,C5 (val:=.slice none 0 0) ?_ ?_ (by intro i hi;cases hi)⟩
    ·unfold execOp;rw[J];simp[xl,xm,run_underlying G,m,Nv D Oy (Cz 0) (Cz 0),D4 Zj]
    ·have:((([]:Ae).drop (0*Bx P e)).take ((0-0)*Bx P e))=[]:=Ψ
     rw[this];exact A7.lnil z _
   ·have Dz:(execOp a.eval o).run P w=.ok (.value (.slice (some (if cap=l then ad else ad.add (l*Bx P e))) (u-l) (cap-l))) w:=by
     unfold execOp;rw[J];have g:=Nv (P:=P) (w:=w) (isS:=true) D Oy f.1 (jl f.2 T);simp[xl,xm,run_underlying G,m,g,D4 Zj];split<;>rfl
    refine⟨_,d,C5 Dz ?_ (by intro i hi;cases hi)⟩
    by_cases E:cap=l
    ·rw[Bv E];have:u-l=0:=Ω
     rw[this];simp only[jk,zs];exact A7.lst _ _ [] ad _ (λ_=>undef) Z h2 h3 Ω Ψ Ψ Ψ
    ·rw[Bd E]
     have Fc:∀(j:Nat) q,((c.drop (l*Bx P e)).take ((u-l)*Bx P e))[j]?=some q->c[l*Bx P e+j]?=some q:=by
      intro j q C;rw[zt] at C;split at C
      ·rw[zg] at C;exact C
      ·cases C
     refine A7.lst _ _ _ (ad.add (l*Bx P e)) _ (λj=>(w.cell? (ad.add (l*Bx P e+j))).getD undef) (Aze Z _) (by rw[Hp];exact h2) (by rw[Hp];exact h3) Ω (λj q C=>?_) (λj q C=>?_) (λj q C=>?_)
     ·obtain⟨v,L,_⟩:=V _ q (Fc j q C);rw[add_add,L];rfl
     ·obtain⟨v,L,h5,_⟩:=V _ q (Fc j q C);rw[L];exact h5
     ·obtain⟨v,L,_,ht⟩:=V _ q (Fc j q C);rw[L];exact ht
 ·rename_i n e G;obtain⟨Zj,d⟩:=Ax d;split at d
  ·rename_i id off S;rw[S] at M k;obtain⟨c,W,d⟩:=Dh d;obtain⟨Ev,d⟩:=Ax d;simp only[Gh,JT] at Ev;have FZ:=Ed Ev.2
   replace Ev:=Ev.1
   obtain⟨l,d,D⟩:=Fw h d;obtain⟨u,d,Oy⟩:=Fw h d;obtain⟨f,d⟩:=Ax d;simp only[Gh,JT] at f;obtain⟨b,p,H,m⟩:=M
   have hbs:p+off+n*Bx P e<=bsz w b:=by
    obtain⟨v,L,_⟩:=ZM h W H (j:=off+n*Bx P e-1) (zd Ω);have:=RZ L;omega
   have Ct:b<w.heap.size:=h.blt id b p (k id (by simp[Cy,Dj,A6])) H
   have Dz:(execOp a.eval o).run P w=.ok (.value (.slice (some (if n=l then ⟨b,p+off,none⟩ else ⟨b,p+off+l*Bx P e,none⟩)) (u-l) (n-l))) w:=by
    unfold execOp;rw[J];have g:=Nv (P:=P) (w:=w) (isS:=false) D Oy f.1 f.2;simp[xl,xg,run_underlying G,m,g,D4 Zj,E1]
   refine⟨_,d,C5 Dz (.inr ?_) k⟩;by_cases E:n=l
   ·rw[Bv E];refine⟨b,p,p+off,n-l,H,rfl,?_,Ω,⟨by rw[E,jq];omega,.inl FZ⟩,Ct⟩
    by_cases U:l*Bx P e=0
    ·rw[U,Zzr];exact .inl rfl
    ·exact .inr ⟨Ω,Ω⟩
   ·rw[Bd E];refine⟨b,p,p+off+l*Bx P e,n-l,H,rfl,.inl Ω,Ω,?_,Ct⟩
    have:l*Bx P e+(n-l)*Bx P e=n*Bx P e:=by
     rw[<-jr]
     congr 1
     omega
    exact⟨Ω,.inl FZ⟩
  ·cases d
 ·cases d
end
open Go.RowKit
section
variable {R:Type}{r:R}{P:Program}{N:Nat}{w0:World}{X0:M0}{Y:Nat->Prop}{β β':Bt}{s:St}{a:Act}{w w':World}{o:Oper}{A:Nat->Prop}
theorem Axm(h:D3 N w0 X0 Y β s a w){c:Call}(l:o.op=.call c)(m:c.callee=.builtin .len){K:PV->Option R}(d:(Ad c.args.toList λx _=>Ad c.argTypes.toList λt _=>Awc P t (Da s.tm x) λn=>K (.sc (.int .i64 n)))=some r):∃v,K v=some r/\Gm P a w o Y β s v [] []:=by
 obtain⟨x,I,i,d⟩:=B5 d;obtain⟨t,p,j,d⟩:=B5 d;have k:=Ec h x;have Hw:c.args=(x::I).toArray:=by rw[<-i]
 have XA:c.argTypes=(t::p).toArray:=by rw[<-j]
 have Dz:∀n:Nat,(xr c.argTypes o.type (c.args.map a.eval)).run P w=.ok (.int .i64 n) w->(execOp a.eval o).run P w=.ok (.value (.int .i64 n)) w:=by
  intro n q;unfold execOp;rw[l];simp only[resolve,m,invoke,builtin,xd,xe,xf,q]
 unfold Awc at d;split at d
 ·rename_i g;obtain⟨B,Boi,d⟩:=E8 d;have f:=Db h Boi;refine⟨_,d,Do (Dz _ ?_)⟩;simp[xr,Hw,XA,run_underlying g,f,goInt]
 ·rename_i n e g;refine⟨_,d,Do (Dz _ ?_)⟩;simp[xr,Hw,XA,run_underlying g,goInt]
 ·rename_i e g;split at d
  ·rename_i id es off n A;rw[A] at k;obtain⟨_,d⟩:=Ax d;refine⟨_,d,Do (Dz _ ?_)⟩;rcases k with⟨_,_,rfl,ad,f⟩|⟨b,C,y,cap,_,f,_⟩<;>simp[xr,Hw,XA,run_underlying g,f,goInt]
  ·obtain⟨z,n,cc,d,hp⟩:=Jy d;refine⟨_,d,Do (Dz _ ?_)⟩;rcases J0 hp k with⟨f,rfl,_⟩|⟨ad,cap,f,_⟩|⟨ad,cap,f,_,rfl,_⟩<;>simp[xr,Hw,XA,run_underlying g,f,goInt]
 ·cases d
theorem Axf(h:D3 N w0 X0 Y β s a w){c:Call}(k:o.op=.call c)(l:c.callee=.builtin .cap){K:PV->Option R}(b:(Ad c.args.toList λx _=>Ad c.argTypes.toList λt _=>Ava P t (Da s.tm x) λn=>K (.sc (.int .i64 n)))=some r):∃v,K v=some r/\Gm P a w o Y β s v [] []:=by
 obtain⟨x,I,f,b⟩:=B5 b;obtain⟨t,m,g,b⟩:=B5 b;have p:=Ec h x;have Hw:c.args=(x::I).toArray:=by rw[<-f]
 have XA:c.argTypes=(t::m).toArray:=by rw[<-g]
 have Dz:∀n:Nat,(xs c.argTypes o.type (c.args.map a.eval)).run P w=.ok (.int .i64 n) w->(execOp a.eval o).run P w=.ok (.value (.int .i64 n)) w:=by
  intro n q;unfold execOp;rw[k];simp only[resolve,l,invoke,builtin,xd,xe,xf,q]
 unfold Ava at b;split at b
 ·rename_i e y;obtain⟨z,n,cc,b,hp⟩:=Jy b;obtain⟨j,b⟩:=Ax b;refine⟨_,b,Do (Dz _ ?_)⟩;rcases J0 hp p with⟨i,rfl,_⟩|⟨ad,cap,i,d,_⟩|⟨ad,cap,i,d,_,_⟩
  ·simp[xs,Hw,XA,run_underlying y,i,goInt]
  ·rw[j] at d;cases d
  ·rw[j] at d;cases d
 ·cases b
theorem Axa(h:D3 N w0 X0 Y β s a w){c:Call}(e:o.op=.call c)(f:c.callee=.builtin .min){K:PV->Option R}(b:(Ad c.args.toList λx r=>Ad r λy r'=>Ag r' (A9m (Da s.tm x) (Da s.tm y) K))=some r):∃v,K v=some r/\Gm P a w o Y β s v [] []:=by
 obtain⟨x,I,d,b⟩:=B5 b;obtain⟨y,j,rfl,b⟩:=B5 b;obtain⟨rfl,b⟩:=Fj b;obtain⟨k,n,g,b⟩:=Fi b;obtain⟨m,i,b⟩:=Gz b
 have Hw:c.args = #[x,y]:=by
  have:c.args=([x,y]:List Operand).toArray:=by rw[<-d]
  exact this
 refine⟨_,b,Do ?_⟩;unfold execOp;rw[e];simp[resolve,f,invoke,builtin,Hw,Builtin.min_,Builtin.min2,Db h g,Db h i]
theorem Au1(h:D3 N w0 X0 Y β s a w){c:Call}(e:o.op=.call c)(f:c.callee=.builtin .max){K:PV->Option R}(b:(Ad c.args.toList λx r=>Ad r λy r'=>Ag r' (A75 (Da s.tm x) (Da s.tm y) K))=some r):∃v,K v=some r/\Gm P a w o Y β s v [] []:=by
 obtain⟨x,I,d,b⟩:=B5 b;obtain⟨y,j,rfl,b⟩:=B5 b;obtain⟨rfl,b⟩:=Fj b;obtain⟨k,n,g,b⟩:=Fi b;obtain⟨m,i,b⟩:=Gz b
 have Hw:c.args = #[x,y]:=by
  have:c.args=([x,y]:List Operand).toArray:=by rw[<-d]
  exact this
 refine⟨_,b,Do ?_⟩;unfold execOp;rw[e];simp[resolve,f,invoke,builtin,Hw,Builtin.max_,Builtin.max2,Db h g,Db h i]
theorem Aqx(h:D3 N w0 X0 Y β s a w){op:UnOp}(e:o.op=.unOp op t x){K:PV->Option R}(c:unK op (Da s.tm x) K=some r):
  ∃v,K v=some r/\Gm P a w o Y β s v [] []:=by
 unfold unK at c;split at c
 ·obtain⟨b,d,c⟩:=Fl c;refine⟨_,c,Do ?_⟩;unfold execOp;rw[e];simp[jc,Db h d]
 ·obtain⟨k,n,d,c⟩:=Fi c;refine⟨_,c,Do ?_⟩;unfold execOp;rw[e];simp[jc,Op.intArith,Db h d]
 ·obtain⟨k,n,d,c⟩:=Fi c;refine⟨_,c,Do ?_⟩;unfold execOp;rw[e];simp[jc,Op.intBits,Db h d,Bgo]
 ·cases c
theorem Awg{m n:Int}{y:Operand}{K:PV->Option R}(b:op ≠ .shl)(SN:op ≠ .shr)(a:Ab9 op k m n K=some r):
  ∃v,K (.sc v)=some r/\(do eqGuard op t x y (.int k m) (.int k n);binOp op t (.int k m) (.int k n)).run P w=.ok v w:=by
 cases op<;>first
  |exact absurd rfl b
  |exact absurd rfl SN
  |(obtain⟨c,a⟩:=Ax a;have c:=of_decide_eq_true c;exact⟨_,a,by simp[eqGuard,binOp,Op.intDiv,c]⟩)
  |exact⟨_,a,by simp[eqGuard,binOp,-zy,-BitVec.toNat_or,-BitVec.toNat_xor,-gt_iff_lt,-ge_iff_le]<;>rfl⟩
theorem Awj{m n:ByteArray}{y:Operand}{K:PV->Option R}(a:Ab1 op m n K=some r):
  ∃v,K (.sc v)=some r/\(do eqGuard op t x y (.string m) (.string n);binOp op t (.string m) (.string n)).run P w=.ok v w:=by
 cases op<;>first
  |cases a
  |(obtain⟨b,a⟩:=Ax a;have b:=of_decide_eq_true b;exact⟨_,a,by
    have Mv:¬(((m.size+n.size:Nat):Int)>IntKind.i64.max):=by
     have:IntKind.i64.max=9223372036854775807:=rfl;rw[this];omega
    simp only[eqGuard,binOp,Op.stringOp,Bd Mv];rfl⟩)
  |exact⟨_,a,by simp only[eqGuard,binOp,Op.stringOp,ByteArray.toList_eq];rfl⟩
end
open Go.RowKit
section
variable {R:Type}{r:R}{P:Program}{N:Nat}{w0:World}{X0:M0}{Y:Nat->Prop}{β β':Bt}{s:St}{a:Act}{w w':World}{o:Oper}{A:Nat->Prop}
theorem ZD(a:P.underlying t=some .bool)(x y:Bool):(jd t (.bool x) (.bool y)).run P w=.ok (x==y) w:=by
 have h:∀d,(jf (d+1) t (.bool x) (.bool y)).run P w=.ok (x==y) w:=λd=>by simp[jf,run_underlying a]
 exact h 9999
theorem KF(a:P.underlying t=some (.slice e))(x:Option Addr)(n c:Nat):(jd t (.slice x n c) (.slice none 0 0)).run P w=.ok x.isNone w:=by
 have h:∀d,(jf (d+1) t (.slice x n c) (.slice none 0 0)).run P w=.ok x.isNone w:=λd=>by
  cases x<;>simp[jf,run_underlying a]
 exact h 9999
theorem QL{k:TypeId}(a:P.underlying t=some (.map k e)):(jd t (.map none) (.map none)).run P w=.ok true w:=by
 have h:∀d,(jf (d+1) t (.map none) (.map none)).run P w=.ok true w:=λd=>by
  simp[jf,run_underlying a]
 exact h 9999
theorem Ow(d:Nat)(c:(∃k m n,P.underlying t=some (.int k)/\v=.int k m/\u=.int k n)\/(∃m n,P.underlying t=some .bool/\v=.bool m/\u=.bool n)\/∃m n,P.underlying t=some .string/\v=.string m/\u=.string n)(e:∀k m n,v=.int k m->u=.int k n->b=(m==n))(Mv:∀m n,v=.bool m->u=.bool n->b=(m==n))(Bm8:∀m n,v=.string m->u=.string n->b=(m==n)):(jf (d+1) t v u).run P w=.ok b w:=by
 rcases c with⟨k,m,n,a,rfl,rfl⟩|⟨m,n,a,rfl,rfl⟩|⟨m,n,a,rfl,rfl⟩
 ·rw[e k m n rfl rfl];simp[jf,run_underlying a]
 ·rw[Mv m n rfl rfl];simp[jf,run_underlying a]
 ·rw[Bm8 m n rfl rfl];simp[jf,run_underlying a]
theorem CN{a:TypeDesc}(b:P.underlying t=some a)(hd:C6 P t=false)(c:I[i]?=some v):(part t I i).run P w=.ok v w:=by simp only[part,xd,Vl b,hd,xf];simp[c]
theorem Ad9(k:IntKind)(n:Int)(K:Int->Option R):Bi k (.sc (.int k n)) K=K n:=by simp[Bi]
theorem Ak0(d : Nat): ∀ (C : List Field) (i : Nat) (I D : Array Value) (ps s : Ae) (K : Bool -> Option R), Ak1 P C i = true -> Sr (C.map (fty P)) ps s K = some r ->
    (∀ (j : Nat) p, ps[j]? = some p -> ∃ v, I[i + j]? = some v /\ C4 w A β p v) -> (∀ (j : Nat) p, s[j]? = some p -> ∃ v, D[i + j]? = some v /\ C4 w A β p v) ->
    ∃ b, K b = some r /\ (forIn C ((none, ()) : Option Bool × Unit) fun (f : Field) (_ : Option Bool × Unit) =>
            if f.name = "_" then pure (ForInStep.yield ((none, ()) : Option Bool × Unit))
            else do
              let x <- part f.type I f.offset
              let y <- part f.type D f.offset
              let e <- Op.equalIn (d + 1) f.type x y
              if e = false then pure (ForInStep.done ((some false, ()) : Option Bool × Unit)) else pure (ForInStep.yield ((none, ()) : Option Bool × Unit)) : Sem (Option Bool × Unit)).run P w = .ok (if b then (none, ()) else (some false, ())) w
  | [], i, I, D, ps, s, K, _, c, _, _ => by
    cases ps with
    | nil => cases s with
      | nil => exact⟨true, c, by simp⟩
      | cons q s => cases c
    | cons p ps => cases c
  | f :: C, i, I, D, ps, s, K, IV, c, hp, S => by
    simp only[Ak1, Gh] at IV
    obtain⟨⟨⟨M, Ay0⟩, X⟩, MI⟩ := IV
    have M := Ed M
    have YW : f.name ≠ "_" := by simpa using Ay0
    cases ps with
    | nil =>
      simp only[ER] at c
      cases Be3 : fty P f <;> rw[Be3] at c <;> cases c
    | cons p ps =>
      cases s with
      | nil =>
        simp only[ER] at c
        cases Be3 : fty P f <;> rw[Be3] at c <;> cases c
      | cons q s =>
        obtain⟨v, T, TJ⟩ := hp 0 p rfl
        obtain⟨u, U, B⟩ := S 0 q rfl
        rw[Zzr] at T U
        have main : ∃ E G, P.underlying f.type = some G /\ C6 P f.type = false /\ (Op.equalIn (d + 1) f.type v u).run P w = .ok E w /\ Sr (C.map (fty P)) ps s (fun r => K (E && r)) = some r := by
          simp only[ER] at c
          unfold fty at c
          split at c
          · rename_i k g
            obtain⟨m, h, H⟩ := Gz (show Bi k p _ = some r from c)
            obtain⟨n, l, Hn⟩ := Gz H
            subst h l
            have Yb : v = .int k m := A7.val (w := w) (A := A) TJ
            have Oy : u = .int k n := A7.val (w := w) (A := A) B
            subst Yb Oy
            refine⟨m == n, _, g, by simp[C6, g], Ow d (.inl ⟨k, m, n, g, rfl, rfl⟩) ?_ ?_ ?_, Hn⟩
            · intro V t z a o; injection a with _ a; injection o with _ o; rw[a, o]
            · intro t z a; cases a
            · intro t z a; cases a
          · rename_i g
            obtain⟨m, h, H⟩ := Fl (show Bh p _ = some r from c)
            obtain⟨n, l, Hn⟩ := Fl H
            subst h l
            have Yb : v = .bool m := A7.val (w := w) (A := A) TJ
            have Oy : u = .bool n := A7.val (w := w) (A := A) B
            subst Yb Oy
            refine⟨m == n, _, g, by simp[C6, g], Ow d (.inr (.inl ⟨m, n, g, rfl, rfl⟩)) ?_ ?_ ?_, Hn⟩
            · intro V t z a; cases a
            · intro t z a o; injection a with a; injection o with o; rw[a, o]
            · intro t z a; cases a
          · rename_i g
            obtain⟨m, h, H⟩ := E8 (show At p _ = some r from c)
            obtain⟨n, l, Hn⟩ := E8 H
            subst h l
            have Yb : v = .string m := A7.val (w := w) (A := A) TJ
            have Oy : u = .string n := A7.val (w := w) (A := A) B
            subst Yb Oy
            refine⟨m == n, _, g, by simp[C6, g], Ow d (.inr (.inr ⟨m, n, g, rfl, rfl⟩)) ?_ ?_ ?_, Hn⟩
            · intro V t z a; cases a
            · intro t z a; cases a
            · intro t z a o; injection a with a; injection o with o; rw[a, o]
          · cases c
        obtain⟨E, G, g, Jf, W, c⟩ := main
        obtain⟨b, N, Dz⟩ := Ak0 d C (i + 1) I D ps s _ MI c (fun j O Q => by have := hp (j + 1) O Q; rwa [Ld, Nat.add_comm 1 j]) (fun j O Q => by have := S (j + 1) O Q; rwa [Ld, Nat.add_comm 1 j])
        refine⟨E && b, N, ?_⟩
        have J : (part f.type I f.offset).run P w = .ok v w := CN g Jf (by rw[M]; exact T)
        have L : (part f.type D f.offset).run P w = .ok u w := CN g Jf (by rw[M]; exact U)
        cases E
        · simp[List.forIn_cons, YW, J, L, W]
        · simp only[Zzm]
          rw[<- Dz]
          simp[List.forIn_cons, YW, J, L, W]
theorem XP(d:Nat){a:Array Field}(n:P.underlying t=some (.struct a))(o:P.stoodInHeld t=false)(IV:Ak1 P a.toList 0=true){I:Ae}{e f:List Value}(g:B4 (C4 w A β) I e)(h:B4 (C4 w A β) c f){K:Bool->Option R}(q:Sr (a.toList.map (fty P)) I c K=some r):
  ∃b,K b=some r/\(jf (d+2) t (.agg ⟨e⟩) (.agg ⟨f⟩)).run P w=.ok b w:=by
 obtain⟨b,i,Dz⟩:=Ak0 (P:=P) (w:=w) (A:=A) (β:=β) d a.toList 0 ⟨e⟩ ⟨f⟩ I c K IV q (λj p k=>by
   obtain⟨v,l,m⟩:=g.get k;exact⟨v,by simpa using l,m⟩) (λj p k=>by
   obtain⟨v,l,m⟩:=h.get k;exact⟨v,by simpa using l,m⟩)
 refine⟨b,i,?_⟩;rw[xb] at Dz;rw[jf];simp[run_underlying n,o];rw[Dz];cases b<;>simp
theorem SH:∀(a:List CT){e:List CT}{ps f:Ae}{K:Bool->Option R},Sr (a++e) ps f K=some r ->
  Sr a (ps.take a.length) (f.take a.length) (λb=>Sr e (ps.drop a.length) (f.drop a.length) λr'=>K (b&&r'))=some r
 |[],e,ps,f,K,h=>by
  simp only[SO,zs,Jo,Sr,Zzm];exact h
 |t::a,e,ps,f,K,h=>by
  rw[Zzp] at h;cases ps with
  |nil=>cases t<;>cases h
  |cons p ps=>
   cases f with
   |nil=>cases t<;>cases h
   |cons q f=>
    simp only[M9,ze,List.drop_succ_cons];cases t with
    |int k=>
     obtain⟨m,c,g⟩:=Gz (show Bi k p _=some r from h);obtain⟨n,d,i⟩:=Gz g;subst c d;have:=SH a i;simp only[<-qh] at this;exact (Ad9 _ _ _).trans ((Ad9 _ _ _).trans this)
    |bool=>
     obtain⟨m,c,g⟩:=Fl (show Bh p _=some r from h);obtain⟨n,d,i⟩:=Fl g;subst c d;have:=SH a i;simp only[<-qh] at this;exact this
    |str=>
     obtain⟨m,c,g⟩:=E8 (show At p _=some r from h);obtain⟨n,d,i⟩:=E8 g;subst c d;have:=SH a i;simp only[<-qh] at this;exact this
    |sl es=>cases h
    |any=>cases h
theorem Alw:∀(ts:List CT){ps a:Ae}{K:Bool->Option R},Sr ts ps a K=some r->ps.length=ts.length/\a.length=ts.length
 |[],ps,a,K,h=>by
  cases ps with
  |nil=>cases a with
   |nil=>exact⟨rfl,rfl⟩
   |cons q a=>cases h
  |cons p ps=>cases h
 |t::ts,ps,a,K,h=>by
  cases ps with
  |nil=>cases t<;>cases h
  |cons p ps=>
   cases a with
   |nil=>cases t<;>cases h
   |cons q a=>
    have g:∃f,Sr ts ps a f=some r:=by
     cases t with
     |int k=>
      obtain⟨m,b,c⟩:=Gz (show Bi k p _=some r from h);obtain⟨n,d,e⟩:=Gz c;exact⟨_,e⟩
     |bool=>
      obtain⟨m,b,c⟩:=Fl (show Bh p _=some r from h);obtain⟨n,d,e⟩:=Fl c;exact⟨_,e⟩
     |str=>
      obtain⟨m,b,c⟩:=E8 (show At p _=some r from h);obtain⟨n,d,e⟩:=E8 c;exact⟨_,e⟩
     |sl es=>cases h
     |any=>cases h
    obtain⟨f,i⟩:=g;have:=Alw ts i;exact⟨by simp[this.1],by simp[this.2]⟩
theorem Anv{a:TypeDesc}(b:P.underlying t=some a)(hd:C6 P t=true)(hi:(P.info? t).isSome=true)(I:Array Value)(i:Nat):(part t I i).run P w=.ok (.agg (I.extract i (i+Bx P t))) w:=by simp only[part,xd,Vl b,hd,xf,if_true,D4 hi];rfl
theorem Aga{ps:Ae}(k:n<=ps.length)(hp:∀(j:Nat) p,ps[j]?=some p->∃v,I[i+j]?=some v/\C4 w A β p v):B4 (C4 w A β) (ps.take n) (I.extract i (i+n)).toList:=by
 rcases jo n with f|f
 ·subst f;simp[B4]
 have g:n-1<ps.length:=Ω
 obtain⟨v,e,_⟩:=hp (n-1) _ (zd g);have l:=(Array.getElem?_eq_some_iff.1 e).1;refine B4.of_at (by simp;omega) λj a b d c=>?_
 rw[zt] at d;split at d
 ·rename_i m;obtain⟨v,e,h⟩:=hp j a d;rw[Array.getElem?_toList,Array.getElem?_extract] at c;split at c
  ·rw[e] at c;cases c;exact h
  ·cases c
 ·cases d
theorem VM{f:Field}{a:Array Field}(b:P.underlying f.type=some (.struct a)):Am9 P f=a.toList.map (fty P):=by unfold Am9;rw[b]
theorem Apb{f:Field}(h:∀a,P.underlying f.type≠some (.struct a)):Am9 P f=[fty P f]:=by
 unfold Am9;split
 ·rename_i a b;exact absurd b (h a)
 ·rfl
theorem At3(d : Nat): ∀ (s : List Field) (i : Nat) (I G : Array Value) (ps h : Ae) (K : Bool -> Option R), Vu P s i = true -> Sr (LX P s) ps h K = some r ->
    (∀ (j : Nat) p, ps[j]? = some p -> ∃ v, I[i + j]? = some v /\ C4 w A β p v) -> (∀ (j : Nat) p, h[j]? = some p -> ∃ v, G[i + j]? = some v /\ C4 w A β p v) ->
    ∃ b, K b = some r /\ (forIn s ((none, ()) : Option Bool × Unit) fun (f : Field) (_ : Option Bool × Unit) =>
            if f.name = "_" then pure (ForInStep.yield ((none, ()) : Option Bool × Unit))
            else do
              let x <- part f.type I f.offset
              let y <- part f.type G f.offset
              let e <- Op.equalIn (d + 2) f.type x y
              if e = false then pure (ForInStep.done ((some false, ()) : Option Bool × Unit)) else pure (ForInStep.yield ((none, ()) : Option Bool × Unit)) : Sem (Option Bool × Unit)).run P w = .ok (if b then (none, ()) else (some false, ())) w
  | [], i, I, G, ps, h, K, _, c, _, _ => by
    cases ps with
    | nil => cases h with
      | nil => exact⟨true, c, by simp⟩
      | cons q h => cases c
    | cons p ps => cases c
  | f :: s, i, I, G, ps, h, K, IV, c, hp, V => by
    simp only[Vu, Gh] at IV
    obtain⟨⟨L, Ay0⟩, l⟩ := IV
    have L := Ed L
    have YW : f.name ≠ "_" := by simpa using Ay0
    have main : ∃ o v u n, (part f.type I f.offset).run P w = .ok v w /\ (part f.type G f.offset).run P w = .ok u w /\ (Op.equalIn (d + 2) f.type v u).run P w = .ok o w /\ Vu P s (i + n) = true /\ Sr (LX P s) (ps.drop n) (h.drop n) (fun r' => K (o && r')) = some r := by
      have c := SH (Am9 P f) (show Sr (Am9 P f ++ LX P s) ps h K = some r from c)
      have Ev := Alw _ c
      rw[List.length_take, List.length_take] at Ev
      have plain : (∀ C, P.underlying f.type ≠ some (.struct C)) -> Vu P s (i + 1) = true -> (match P.underlying f.type with | some (.int _) => true | some .bool => true | some .string => true | _ => false) = true ->
          ∃ o v u n, (part f.type I f.offset).run P w = .ok v w /\ (part f.type G f.offset).run P w = .ok u w /\ (Op.equalIn (d + 2) f.type v u).run P w = .ok o w /\ Vu P s (i + n) = true /\ Sr (LX P s) (ps.drop n) (h.drop n) (fun r' => K (o && r')) = some r := by
        intro hs Bdn CH
        rw[Apb hs] at c Ev
        simp only[List.length_singleton] at c Ev
        obtain⟨p, ps, rfl⟩ : ∃ p W, ps = p :: W := by
          cases ps with
          | nil => simp at Ev
          | cons p ps => exact⟨p, ps, rfl⟩
        obtain⟨q, h, rfl⟩ : ∃ q X, h = q :: X := by
          cases h with
          | nil => simp at Ev
          | cons q h => exact⟨q, h, rfl⟩
        obtain⟨v, hv, TJ⟩ := hp 0 p rfl
        obtain⟨u, hu, H⟩ := V 0 q rfl
        rw[Zzr] at hv hu
        simp only[List.take_succ_cons, List.take_zero, List.drop_succ_cons, Jo] at c ⊢
        have one : ∃ o N, P.underlying f.type = some N /\ C6 P f.type = false /\ (Op.equalIn (d + 2) f.type v u).run P w = .ok o w /\ Sr (LX P s) ps h (fun r' => K (o && r')) = some r := by
          unfold fty at c
          split at c
          · rename_i k a
            obtain⟨m, t, O⟩ := Gz (show Bi k p _ = some r from c)
            obtain⟨n, z, Hn⟩ := Gz O
            subst t z
            have Yb : v = .int k m := A7.val (w := w) (A := A) TJ
            have Oy : u = .int k n := A7.val (w := w) (A := A) H
            subst Yb Oy
            have e : ∀ b : Bool, (b && true) = b := Zzn
            simp only[Sr, e] at Hn
            refine⟨m == n, _, a, by simp[C6, a], Ow (d + 1) (.inl ⟨k, m, n, a, rfl, rfl⟩) ?_ ?_ ?_, Hn⟩
            · intro k' D E g B; injection g with _ g; injection B with _ B; rw[g, B]
            · intro D E g; cases g
            · intro D E g; cases g
          · rename_i a
            obtain⟨m, t, O⟩ := Fl (show Bh p _ = some r from c)
            obtain⟨n, z, Hn⟩ := Fl O
            subst t z
            have Yb : v = .bool m := A7.val (w := w) (A := A) TJ
            have Oy : u = .bool n := A7.val (w := w) (A := A) H
            subst Yb Oy
            have e : ∀ b : Bool, (b && true) = b := Zzn
            simp only[Sr, e] at Hn
            refine⟨m == n, _, a, by simp[C6, a], Ow (d + 1) (.inr (.inl ⟨m, n, a, rfl, rfl⟩)) ?_ ?_ ?_, Hn⟩
            · intro k' D E g; cases g
            · intro D E g B; injection g with g; injection B with B; rw[g, B]
            · intro D E g; cases g
          · rename_i a
            obtain⟨m, t, O⟩ := E8 (show At p _ = some r from c)
            obtain⟨n, z, Hn⟩ := E8 O
            subst t z
            have Yb : v = .string m := A7.val (w := w) (A := A) TJ
            have Oy : u = .string n := A7.val (w := w) (A := A) H
            subst Yb Oy
            have e : ∀ b : Bool, (b && true) = b := Zzn
            simp only[Sr, e] at Hn
            refine⟨m == n, _, a, by simp[C6, a], Ow (d + 1) (.inr (.inr ⟨m, n, a, rfl, rfl⟩)) ?_ ?_ ?_, Hn⟩
            · intro k' D E g; cases g
            · intro D E g; cases g
            · intro D E g B; injection g with g; injection B with B; rw[g, B]
          · cases c
        obtain⟨o, N, a, Jf, M, c⟩ := one
        exact⟨o, v, u, 1, CN a Jf (by rw[L]; exact hv), CN a Jf (by rw[L]; exact hu), M, Bdn, by simpa using c⟩
      split at l
      · rename_i k a
        exact plain (fun C e => by rw[a] at e; cases e) l (by rw[a])
      · rename_i a
        exact plain (fun C e => by rw[a] at e; cases e) l (by rw[a])
      · rename_i a
        exact plain (fun C e => by rw[a] at e; cases e) l (by rw[a])
      · rename_i C a
        simp only[Gh, Bool.not_eq_true'] at l
        obtain⟨⟨⟨⟨Y, I1⟩, hi⟩, U⟩, MI⟩ := l
        have U := Ed U
        have Sf : (Am9 P f).length = C.size := by rw[VM a, List.length_map, Array.length_toList]
        rw[Sf] at c Ev
        rw[VM a] at c
        have hx := Aga (n := C.size) (by omega) hp
        have hy := Aga (n := C.size) (by omega) V
        obtain⟨o, J, M⟩ := XP d a I1 Y hx hy c
        have ha : C6 P f.type = true := by simp[C6, a]
        exact⟨o, _, _, C.size, by rw[Anv a ha hi, L, U], by rw[Anv a ha hi, L, U], M, MI, J⟩
      · cases l
    obtain⟨o, v, u, n, Q, S, M, Bdn, c⟩ := main
    obtain⟨b, J, Dz⟩ := At3 d s (i + n) I G (ps.drop n) (h.drop n) _ Bdn c (fun j Z T => by rw[List.getElem?_drop] at T; have := hp (n + j) Z T; rwa [<- Ld] at this) (fun j Z T => by rw[List.getElem?_drop] at T; have := V (n + j) Z T; rwa [<- Ld] at this)
    refine⟨o && b, J, ?_⟩
    cases o
    · simp[List.forIn_cons, YW, Q, S, M]
    · simp only[Zzm]
      rw[<- Dz]
      simp[List.forIn_cons, YW, Q, S, M]
theorem Aak(d:Nat){a:Array Field}(n:P.underlying t=some (.struct a))(o:P.stoodInHeld t=false)(IV:Vu P a.toList 0=true){I:Ae}{e f:List Value}(g:B4 (C4 w A β) I e)(h:B4 (C4 w A β) c f){K:Bool->Option R}(q:Sr (LX P a.toList) I c K=some r):
  ∃b,K b=some r/\(jf (d+3) t (.agg ⟨e⟩) (.agg ⟨f⟩)).run P w=.ok b w:=by
 obtain⟨b,i,Dz⟩:=At3 (P:=P) (w:=w) (A:=A) (β:=β) d a.toList 0 ⟨e⟩ ⟨f⟩ I c K IV q (λj p k=>by
   obtain⟨v,l,m⟩:=g.get k;exact⟨v,by simpa using l,m⟩) (λj p k=>by
   obtain⟨v,l,m⟩:=h.get k;exact⟨v,by simpa using l,m⟩)
 refine⟨b,i,?_⟩;rw[xb] at Dz;rw[jf];simp[run_underlying n,o];rw[Dz];cases b<;>simp
theorem Aem(h:D3 N w0 X0 Y β s a w){g:Array Field}{y:Operand}(i:op=.eql\/op=.neq)(o:P.underlying t=some (.struct g))(IV:Ah8 P t g=true){I n:Ae}(p:Da s.tm x=.agg I)(q:Da s.tm y=.agg n){K:Bool->Option R}(v:Sr (LX P g.toList) I n K=some r):
  ∃b,K b=some r/\(do eqGuard op t x y (a.eval x) (a.eval y);binOp op t (a.eval x) (a.eval y)).run P w=.ok (.bool (if op=.eql then b else !b)) w:=by
 have d:=Ec h x;have e:=Ec h y;rw[p] at d;rw[q] at e;obtain⟨z,A,j⟩:=d;obtain⟨B,k,l⟩:=e;simp only[Ah8,Gh,qg] at IV;obtain⟨⟨IV,C⟩,f⟩:=IV;obtain⟨b,m,c⟩:=Aak 9997 o C IV j l v;have c:(jd t (.agg ⟨z⟩) (.agg ⟨B⟩)).run P w=.ok b w:=c;refine⟨b,m,?_⟩;rw[A,k];rcases i with rfl|rfl
 ·simp[eqGuard,binOp,c,f]
 ·simp[eqGuard,binOp,c,f]
theorem Aj9(h:D3 N w0 X0 Y β s a w){ty:TypeId}{y:Operand}(J:o.op=.binOp op t x y ty){K:PV->Option R}(d:KG P op t (Da s.tm x) (Da s.tm y) K=some r):∃v,K v=some r/\Gm P a w o Y β s v [] []:=by
 have Dz:∀v,(do eqGuard op t x y (a.eval x) (a.eval y);binOp op t (a.eval x) (a.eval y)).run P w=.ok v w->(execOp a.eval o).run P w=.ok (.value v) w:=by
  intro v H;unfold execOp;rw[J];simp only[xd] at H ⊢;rw[H];rfl
 unfold KG at d;split at d
 ·rename_i O p;split at d
  ·obtain⟨IV,d⟩:=Ax d;obtain⟨I,j,d⟩:=Lt d;obtain⟨L,g,d⟩:=Lt d;obtain⟨b,d,B⟩:=Aem h (.inl rfl) p IV j g d;exact⟨_,d,Do (Dz _ (by rw[B];rfl))⟩
  ·obtain⟨IV,d⟩:=Ax d;obtain⟨I,j,d⟩:=Lt d;obtain⟨L,g,d⟩:=Lt d;obtain⟨b,d,B⟩:=Aem h (.inr rfl) p IV j g d;exact⟨_,d,Do (Dz _ (by rw[B];rfl))⟩
  ·cases d
 ·unfold A0b at d;split at d
  ·rename_i k p;split at d
   ·obtain⟨m,j,d⟩:=Gz d;obtain⟨M,n,g,d⟩:=Fi d;obtain⟨A,d⟩:=Ax d;have A:=of_decide_eq_true A;refine⟨_,d,Do (Dz _ ?_)⟩;have:¬n<0:=Ω
    simp[eqGuard,binOp,Op.shift,Db h j,Db h g,this]
   ·obtain⟨m,j,d⟩:=Gz d;obtain⟨M,n,g,d⟩:=Fi d;obtain⟨A,d⟩:=Ax d;have A:=of_decide_eq_true A;refine⟨_,d,Do (Dz _ ?_)⟩;have:¬n<0:=Ω
    simp[eqGuard,binOp,Op.shift,Db h j,Db h g,this]
   ·rename_i D SN;obtain⟨m,j,d⟩:=Gz d;obtain⟨n,g,d⟩:=Gz d;obtain⟨v,d,B⟩:=Awg (P:=P) (w:=w) (t:=t) (x:=x) (y:=y) D SN d;exact⟨_,d,Do (Dz _ (by rw[Db h j,Db h g];exact B))⟩
  ·rename_i p;obtain⟨m,j,d⟩:=E8 d;obtain⟨n,g,d⟩:=E8 d;obtain⟨v,d,B⟩:=Awj (P:=P) (w:=w) (t:=t) (x:=x) (y:=y) d;exact⟨_,d,Do (Dz _ (by rw[Db h j,Db h g];exact B))⟩
  ·rename_i p;split at d
   ·obtain⟨m,j,d⟩:=Fl d;obtain⟨n,g,d⟩:=Fl d;refine⟨_,d,Do (Dz _ ?_)⟩;simp[eqGuard,binOp,Db h j,Db h g,ZD p]
   ·obtain⟨m,j,d⟩:=Fl d;obtain⟨n,g,d⟩:=Fl d;refine⟨_,d,Do (Dz _ ?_)⟩;simp[eqGuard,binOp,Db h j,Db h g,ZD p]
   ·cases d
  ·rename_i e p;have j:=Ec h x
   have nilQ:∀{e:Bool} {E:PV->Option R},Aby e (Da s.tm x) E=some r->∃q ad n c,E q=some r/\a.eval x=.slice ad n c/\(q=.sc (.bool (if ad.isNone then e else !e))\/q=.ub):=by
    intro e E f;unfold Aby at f;split at f
    ·rename_i C;exact⟨_,none,0,0,f,Db h C,.inl rfl⟩
    ·rename_i z es n c C;rcases J0 (.inl C) j with⟨l,rfl,_⟩|⟨ad,cap,l,rfl,_⟩|⟨ad,cap,l,rfl,rfl,_⟩
     ·rcases U6 f with⟨_,f⟩|⟨_,f⟩
      ·exact⟨_,none,0,0,f,l,.inl rfl⟩
      ·rcases U6 f with⟨A,_⟩|⟨_,f⟩
       ·exact absurd (of_decide_eq_true A) Ω
       ·exact⟨_,none,0,0,f,l,.inr rfl⟩
     ·rcases U6 f with⟨G,_⟩|⟨_,f⟩
      ·cases G
      ·rcases U6 f with⟨_,f⟩|⟨_,f⟩
       ·exact⟨_,some ad,n,cap,f,l,.inl rfl⟩
       ·exact⟨_,some ad,n,cap,f,l,.inr rfl⟩
     ·rcases U6 f with⟨G,_⟩|⟨_,f⟩
      ·cases G
      ·rcases U6 f with⟨A,_⟩|⟨_,f⟩
       ·exact absurd (of_decide_eq_true A) Ω
       ·exact⟨_,some ad,0,cap,f,l,.inr rfl⟩
    ·rename_i id es off n C;rw[C] at j;rcases j with⟨_,_,rfl,ad,l⟩|⟨b,Q,S,cap,_,l,_⟩
     ·rcases U6 f with⟨A,_⟩|⟨_,f⟩
      ·exact absurd (of_decide_eq_true A) Ω
      ·exact⟨_,ad,0,0,f,l,.inr rfl⟩
     ·rcases U6 f with⟨_,f⟩|⟨_,f⟩
      ·exact⟨_,_,n,cap,f,l,.inl rfl⟩
      ·exact⟨_,_,n,cap,f,l,.inr rfl⟩
    ·cases f
   split at d
   ·rename_i g;obtain⟨q,ad,n,c,d,l,A⟩:=nilQ d;rcases A with rfl|rfl
    ·refine⟨_,d,Do (Dz _ ?_)⟩;cases ad<;>simp[eqGuard,binOp,l,Db h g,KF p]
    ·refine⟨_,d,C5 (val:=.bool ad.isNone) (Dz _ ?_) (A7.ub _) (by intro i hi;cases hi)⟩
     simp[eqGuard,binOp,l,Db h g,KF p]
   ·rename_i g;obtain⟨q,ad,n,c,d,l,A⟩:=nilQ d;rcases A with rfl|rfl
    ·refine⟨_,d,Do (Dz _ ?_)⟩;cases ad<;>simp[eqGuard,binOp,l,Db h g,KF p]
    ·refine⟨_,d,C5 (val:=.bool !ad.isNone) (Dz _ ?_) (A7.ub _) (by intro i hi;cases hi)⟩
     simp[eqGuard,binOp,l,Db h g,KF p]
   ·cases d
  ·rename_i T U p;split at d
   ·rename_i j g;refine⟨_,d,Do (Dz _ ?_)⟩;simp[eqGuard,binOp,Db h j,Db h g,QL p]
   ·rename_i j g;refine⟨_,d,Do (Dz _ ?_)⟩;simp[eqGuard,binOp,Db h j,Db h g,QL p]
   ·cases d
  ·cases d
end
open Go.RowKit
section
variable {R:Type}{r:R}{P:Program}{N:Nat}{w0:World}{X0:M0}{Y:Nat->Prop}{β β':Bt}{s:St}{a:Act}{w w':World}{o:Oper}{A:Nat->Prop}
theorem VL:∀{c:Ae}{ns:Ak},JL c=some ns->c=ns.map (λn=>.sc (.int .i32 n))
 |[],ns,h=>by simp[JL] at h;subst h;rfl
 |p::c,ns,h=>by
  unfold JL at h;split at h
  ·rename_i e;cases e
  ·rename_i n r e;cases e;cases a:JL c with
   |none=>rw[a] at h;cases h
   |some b=>
    rw[a] at h;simp at h;subst h;rw[VL a];rfl
  ·cases h
theorem WL:∀{c:Ae}{l:List UInt8},H2 c=some l->∃ns:Ak,c=ns.map (λn=>.sc (.int .u8 n))/\l=ns.map λn=>n.toNat.toUInt8
 |[],l,h=>⟨[],rfl,by simp[H2] at h;subst h;rfl⟩
 |p::c,l,h=>by
  unfold H2 at h;split at h
  ·rename_i e;cases e
  ·rename_i n r e;cases e;cases a:H2 c with
   |none=>rw[a] at h;cases h
   |some b=>
    rw[a] at h;simp at h;obtain⟨ns,rfl,rfl⟩:=WL a;exact⟨n::ns,rfl,h.symm⟩
  ·cases h
theorem EH:∀(ns:Ak)(b:ByteArray),ns.foldl (λr n=>r.push (UInt8.ofNat n.toNat)) b=⟨b.data++(ns.map λn=>n.toNat.toUInt8).toArray⟩
 |[],b=>Ψ
 |n::ns,b=>by
  simp only[zu];rw[EH ns];simp[ByteArray.push]
theorem Acp(h:D3 N w0 X0 Y β s a w){K:Nat->Ae->Option R}(d:Am2 (Pf s.hp) es (Da s.tm x) K=some r):
  ∃n c,K n c=some r/\(((∃ad,a.eval x=.slice ad 0 0)/\n=0/\c=[])\/∃ad cap,a.eval x=.slice (some ad) n cap/\n<=cap/\(c=[]\/ad.block<w.heap.size)/\RdT w (Em s.hp β Y) ad c):=by
 have o:=Ec h x;have q:=Hs h x;unfold Am2 at d;split at d
 ·rename_i id t off n e;rw[e] at o q;cases C:Nat.beq t es
  ·rw[C] at d;cases d
  ·rw[C] at d;obtain⟨c,H,d⟩:=Dh (show Dq _ _=some r from d);obtain⟨D,d⟩:=Ax d;have D:=of_decide_eq_true D;obtain⟨f,Axl⟩:=Aiy H;refine⟨_,_,d,?_⟩;rcases o with⟨_,rfl,rfl,ad,k⟩|⟨b,J,y,cap,E,k,l,A,_,Ct⟩
   ·exact .inl ⟨⟨ad,k⟩,rfl,Ψ⟩
   ·refine .inr ⟨_,cap,k,A,.inr Ct,λj p i=>?_⟩
    have Akr:0<n*es:=by
     rcases jo (n*es) with m|m
     ·rw[m] at i;simp at i
     ·exact m
    have SL:n≠0:=by rintro rfl;simp at Akr
    have l:y=J+off:=by rcases l with l|⟨m,_⟩<;>omega
    subst l;rw[zt] at i;split at i
    ·rw[zg] at i;rcases h.box id _ Axl with⟨g,_⟩|⟨O,P,g,B,_⟩
     ·rw[E] at g;cases g
     ·rw[E] at g;simp at g;obtain⟨rfl,rfl⟩:=g
      obtain⟨v,G,L,ht⟩:=B (off+j) p i;rw[E1] at G;exact⟨v,by rw[E1,Ld];exact G,L,ht⟩
    ·cases i
 ·obtain⟨z,n,c,d,hp⟩:=Jy d;refine⟨n,c,d,?_⟩;rcases J0 hp o with g|⟨ad,cap,k,_,A,g,B,_,M⟩|⟨ad,cap,k,_,rfl,rfl⟩
  ·exact .inl ⟨⟨none,g.1⟩,g.2⟩
  ·exact .inr ⟨ad,cap,k,A,.inr B,M⟩
  ·exact .inr ⟨ad,cap,k,jt _,.inl rfl,λj c i=>by simp at i⟩
theorem Axk(b:ByteArray)(j:Nat)(p:PV)(h:(Dt b)[j]?=some p):∃x,b.data[j]?=some x/\p=.sc (.int .u8 x.toNat):=by
 unfold Dt at h;rw[zr] at h;cases a:b.data.toList[j]? with
 |none=>rw[a] at h;cases h
 |some x=>
  rw[a] at h;simp at h;exact⟨x,by simpa using a,h.symm⟩
theorem Aqc(h:D3 N w0 X0 Y β s a w){g q:TypeId}(U:o.op=.convert g q x){K:PV->List (Nat × Co)->Option R}(f:ZQ P (Pf s.hp) d g q (Da s.tm x) K=some r):∃v nw,K v nw=some r/\Gm P a w o Y β s v [] nw:=by
 have Dz:∀v w',(convert g q (a.eval x)).run P w=.ok v w'->(execOp a.eval o).run P w=.ok (.value v) w':=by
  intro v w' D;unfold execOp;rw[U];simp[D]
 unfold ZQ at f;split at f
 ·rename_i k B;obtain⟨A,f⟩:=Ax f;obtain⟨W,n,L,f⟩:=Fi f;exact⟨_,_,f,Do (Dz _ _ (by rw[Db h L];obtain⟨V,M⟩:=j8.1 A;cases V<;>simp[convert,run_underlying M,run_underlying B,Conv.intToInt]))⟩
 ·rename_i B;split at f
  ·rename_i A;obtain⟨b,L,f⟩:=E8 f;exact⟨_,_,f,Do (Dz _ _ (by rw[Db h L];simp[convert,run_underlying A,run_underlying B]))⟩
  ·rename_i e A;split at f
   ·rename_i E;obtain⟨n,c,f,O⟩:=Acp h f;obtain⟨C,f⟩:=Ax f;have C:=of_decide_eq_true C;obtain⟨l,Q,f⟩:=Dh f;obtain⟨ns,rfl,rfl⟩:=WL Q;refine⟨_,_,f,Do (Dz _ _ ?_)⟩;rcases O with⟨⟨ad,G⟩,rfl,z⟩|⟨ad,cap,G,_,_,H⟩
    ·have:ns=[]:=by simpa using z
     subst this;rw[G,run_convert_bytes_string w g q e ad 0 0 A E B];cases ad<;>rfl
    ·rw[G,run_convert_bytes_string w g q e _ _ _ A E B]
     have J:(loadCells ad n).run P w=.ok (ns.map (Value.int .u8)).toArray w:=by
      have:=run_loadCells_list (P:=P) w ad (ns.map (Value.int .u8)) (λj v t=>by
       rw[zr] at t;cases z:ns[j]? with
       |none=>rw[z] at t;cases t
       |some m=>
        rw[z] at t;simp at t;subst t;obtain⟨v,D,_,ht⟩:=H j (.sc (.int .u8 m)) (by rw[zr,z];rfl)
        rw[ht.val] at D;exact D)
      simp only[zv] at this C;rw[C] at this;exact this
     rw[run_bytesToString w ad n cap ns J,EH];simp
   ·rename_i E;obtain⟨n,c,f,O⟩:=Acp h f;obtain⟨C,f⟩:=Ax f;have C:=of_decide_eq_true C;obtain⟨ns,Q,Hn⟩:=Dh f;have EF:=VL Q;clear f;subst EF;refine⟨_,_,Hn,Do (Dz _ _ ?_)⟩;rcases O with⟨⟨ad,G⟩,NI,z⟩|⟨ad,cap,G,_,_,H⟩
    ·have:ns=[]:=by simpa using z
     subst this;rw[G,run_convert_runes_string w g q e ad _ _ A E B];cases ad with
     |none=>rfl
     |some p=>
      have SL:n=0:=by simpa using NI
      subst SL;exact run_runesToString w p 0 0 [] (by simpa using run_loadCells_list (P:=P) w p [] Ψ)
    ·rw[G,run_convert_runes_string w g q e _ _ _ A E B]
     have J:(loadCells ad n).run P w=.ok (ns.map (Value.int .i32)).toArray w:=by
      have:=run_loadCells_list (P:=P) w ad (ns.map (Value.int .i32)) (λj v t=>by
       rw[zr] at t;cases z:ns[j]? with
       |none=>rw[z] at t;cases t
       |some m=>
        rw[z] at t;simp at t;subst t;obtain⟨v,D,_,ht⟩:=H j (.sc (.int .i32 m)) (by rw[zr,z];rfl)
        rw[ht.val] at D;exact D)
      simp only[zv] at this C;rw[C] at this;exact this
     exact run_runesToString w ad n cap ns J
   ·cases f
  ·cases f
 ·rename_i e B;split at f
  ·rename_i E A;obtain⟨b,L,f⟩:=E8 f;obtain⟨X,f⟩:=Ax f;have T:=run_bytes_of_string (P:=P) w g q e b A B E;rw[<-Db h L] at T
   have JB:b.size<=grownCap w b.size 0 e:=by
    unfold grownCap;simp[Question.cut]
   have Ank:(bytesRow b (grownCap w b.size 0 e)).size=grownCap w b.size 0 e:=by
    simp only[bytesRow,Array.size_append,Array.size_map,Array.size_replicate];have:b.data.size=b.size:=rfl;omega
   refine⟨_,_,f,BK (c:=bytesRow b (grownCap w b.size 0 e)) (e:=e) Ψ (Dz _ _ T) ?_ (λj p t=>?_) (.inr ⟨1,b.size,grownCap w b.size 0 e,rfl,rfl,JB,by rw[Ank];omega,.inl rfl⟩)⟩
   ·exact⟨rfl,rfl,rfl,λi hi=>Below.heap_alloc w.drew _ i hi,by show (w.heap.push _).size=_;simp,_,by show (w.heap.push _)[w.heap.size]?=_;simp;rfl,.inr (Cz _)⟩
   ·obtain⟨y,S,rfl⟩:=Axk b j p t;refine⟨.int .u8 y.toNat,?_,rfl,A7.sc _⟩
    have Ct:j<b.data.size:=by
     rcases Kp j b.data.size with h|h
     ·exact h
     ·rw[xa h] at S;cases S
    simp only[bytesRow];rw[Array.getElem?_append_left (by simpa using Ct),xc,S];rfl
  ·cases f
 ·cases f
end
open Go.RowKit
section
variable {R:Type}{r:R}{P:Program}{N:Nat}{w0:World}{X0:M0}{Y:Nat->Prop}{β β':Bt}{s:St}{a:Act}{w w':World}{o:Oper}{A:Nat->Prop}
theorem PN:∀{n:Nat}{l:Ae}{j:Nat}{c:PV},(Xx n l)[j]?=some c->j<n*l.length/\l[j % l.length]?=some c
 |0,l,j,c,h=>by simp[Xx] at h
 |n+1,l,j,c,h=>by
  have e:Xx (n+1) l=l++Xx n l:=by simp[Xx,zw]
  rw[e] at h;by_cases a:j<l.length
  ·rw[zi a] at h;refine⟨by rw[jr];omega,?_⟩
   rw[Nat.mod_eq_of_lt a];exact h
  ·rw[List.getElem?_append_right Ω] at h;obtain⟨d,b⟩:=PN h;refine⟨by rw[jr];omega,?_⟩
   rw[Nat.mod_eq_sub_mod Ω];exact b
theorem An6(n:Nat)(l:Ae):(Xx n l).length=n*l.length:=by
 induction n with
 |zero=>simp[Xx]
 |succ n a=>
  have e:Xx (n+1) l=l++Xx n l:=by simp[Xx,zw]
  rw[e,Ru,a,jr];omega
theorem Alq{z:Array Value}(a:j<n)(b:z[j % z.size]?=some v):(madeCells z n)[j]?=some v:=by unfold madeCells;rw[xc,Array.getElem?_range,Bv a];simp only[jz];rw[getElem!_def,b]
theorem Aqy(h:D3 N w0 X0 Y β s a w){y:Operand}(C:o.op=.makeSlice t x y){K:PV->Cl->List (Nat × Co)->Option R}(b:(match P.underlying t with
   |some (.slice e)=>Fa (Da s.tm x) λ_ n=>Fa (Da s.tm y) λ_ m=>
     As (decide (0<=n)&&decide (n<=m)&&decide (m*((P.info? e).map (·.bytes)).getD 0<=1099511627776)&&decide (m<=1099511627776))
      (Kx P e λz=>K (.view d (Bx P e) 0 n.toNat) [] [(d,.ar false (Xx n.toNat z))])
   |_=>none)=some r):∃v fz nw,K v fz nw=some r/\Gm P a w o Y β s v fz nw:=by
 split at b
 ·rename_i e D;obtain⟨k1,n,E,b⟩:=Fi b;obtain⟨G,m,H,b⟩:=Fi b;obtain⟨A,b⟩:=Ax b;simp only[Gh,JT] at A;obtain⟨⟨⟨J,XO⟩,HT⟩,V⟩:=A;obtain⟨z,L,b,f,M,W,B,O⟩:=Yu b
  have g:∃i,P.info? e=some i/\i.zero=some z:=by
   unfold Ze at f;cases hi:P.info? e with
   |none=>rw[hi] at f;cases f
   |some i=>rw[hi] at f;exact⟨i,rfl,f⟩
  obtain⟨i,hi,k⟩:=g;have Bke:Bx P e=i.size:=by simp[Bx,hi]
  simp only[hi,jz,Option.getD_some] at HT;have Q:=run_make (P:=P) w t e i z D hi k k1 G n m J XO (by rw[Int.mul_comm];omega) Ω
  have Dz:(execOp a.eval o).run P w=.ok (.value (.slice (some ⟨w.heap.size,0,none⟩) n.toNat m.toNat)) (w.alloc (.cells (madeCells z.cells (m.toNat*i.size)) e)):=by
   unfold execOp;rw[C];simp[Db h E,Db h H,Q]
  have l:z.cells.size=Bx P e:=by
   have:z.cells.toList.length=z.cells.size:=Ψ
   omega
  refine⟨_,_,_,b,BK (c:=madeCells z.cells (m.toNat*i.size)) (e:=e) Ψ Dz (Ie.alloc w _ e) (λj p S=>?_) (.inr ⟨Bx P e,n.toNat,m.toNat,rfl,rfl,Ω,by rw[size_madeCells,Bke];exact Cz _,.inr (Rc w _ e)⟩)⟩
  obtain⟨X,T⟩:=PN S;obtain⟨Z,u,Oy,q,U⟩:=O _ p T;refine⟨u,Alq ?_ ?_,q,U _ _⟩
  ·have:n.toNat*L.length<=m.toNat*i.size:=by
    rw[B,Bke];exact Nat.mul_le_mul_right _ Ω
   omega
  ·rw[l,<-B]
   simpa using Oy
 ·cases b
theorem Awn(hp:okP p=true)(a:Gw w A β p v):B4 (C4 w A β) (cellsOf p) v.cells.toList:=by
 have one:v.oneCell'=true->C4 w A β p v->(∀x,p ≠ .agg x)->B4 (C4 w A β) (cellsOf p) v.cells.toList:=by
  intro c b d;have:cellsOf p=[p]:=by cases p<;>first|rfl|exact absurd rfl (d _)
  rw[this,Vj c];exact⟨b,trivial⟩
 unfold okP at hp;split at hp
 ·obtain⟨vs,rfl,b⟩:=a;exact b
 ·refine one ?_ a Ψ;have Yb:A7 w A _ v:=a;cases Yb<;>rfl
 ·refine one ?_ a Ψ;rcases a with⟨_,_,_,_,rfl⟩|⟨_,_,_,_,_,rfl,_⟩<;>rfl
 ·have:=TP a;subst this;exact one rfl a Ψ
 ·have:=TP a;subst this;exact one rfl a Ψ
 ·have:=TP a;subst this;exact one rfl a Ψ
 ·have:=TP a;subst this;exact one rfl a Ψ
 ·cases hp
theorem Aug:∀(vs:List Value)(k off:Nat)(cells:Array Value),off+k+vs.length<=cells.size ->
  ((vs.zipIdx k).foldl (λcs (q:Value × Nat)=>cs.setIfInBounds (off+q.2) q.1) cells).toList=cells.toList.take (off+k)++vs++cells.toList.drop (off+k+vs.length)
 |[],k,off,cells,_=>Ψ
 |v::vs,k,off,cells,h=>by
  simp only[List.zipIdx_cons,zu,M9] at h ⊢;rw[Aug vs (k+1) off _ (by simp;omega)]
  have Ct:off+k<cells.toList.length:=by simp;omega
  simp only[Array.toList_setIfInBounds];rw[show off+(k+1)=off+k+1 from Ω,List.take_succ_eq_append_getElem (by simpa using Ct)];rw[List.getElem_set_self,List.take_set_of_le (Cz _),List.drop_set_of_lt Ω];simp only[Zzv,Zzp,SJ];rw[show off+k+1+vs.length=off+k+(vs.length+1) from Ω]
theorem YT(h:D3 N w0 X0 Y β s a w){Kb:Nat->Option (Nat × Nat)}:∀{parts:List (Nat × Operand)} {pc:Ae}{vc:Array Value}{K:Ae->Option R},
  GV Kb (parts.map λq=>(q.1,Da s.tm q.2)) pc K=some r->B4 (C4 w (Em s.hp β Y) β) pc vc.toList->(∀c∈pc,∀id∈A6 c,s.hp id≠none) ->
  ∃d f,K d=some r/\xn Kb vc (parts.map λq=>(q.1,a.eval q.2))=some f/\B4 (C4 w (Em s.hp β Y) β) d f.toList/\d.length=pc.length/\∀c∈d,∀id∈A6 c,s.hp id≠none
 |[],pc,vc,K,e,g,l=>⟨pc,vc,e,rfl,g,rfl,l⟩
 |(i,x)::parts,pc,vc,K,e,g,l=>by
  simp only[ER] at e;unfold GV at e;obtain⟨⟨off,size⟩,CH,e⟩:=Dh e;obtain⟨p,e⟩:=Ax e;simp only[Gh] at p;obtain⟨⟨m,t⟩,JJ⟩:=p;have t:(cellsOf (Da s.tm x)).length=size:=Ed t;have JJ:off+size<=pc.length:=Vc JJ;have j:=Awn m (Ec h x);have n:=j.len;have QA:=g.len;have Ox:vc.toList.length=vc.size:=Ψ
  have EF:(a.eval x).cells.toList.length=(a.eval x).cells.size:=Ψ
  have Am4:=Aug (a.eval x).cells.toList 0 off vc Ω;simp only[Zzr] at Am4
  have Bi3:((a.eval x).cells.zipIdx.foldl (λk (q:Value × Nat)=>k.setIfInBounds (off+q.2) q.1) vc).toList=vc.toList.take off++(a.eval x).cells.toList++vc.toList.drop (off+(a.eval x).cells.toList.length):=by
   rw[<-Am4,<-Array.foldl_toList];simp
  obtain⟨d,f,e,v,y,z,o⟩:=YT h (pc:=B9 pc (cellsOf (Da s.tm x)) off) (vc:=(a.eval x).cells.zipIdx.foldl (λk (q:Value × Nat)=>k.setIfInBounds (off+q.2) q.1) vc) e (by
    rw[Bi3,<-n];exact (((g.take off).app j).app (g.drop _))) (by
    intro c b id Ce;unfold B9 at b;rcases B8.1 b with b|b
    ·rcases B8.1 b with b|b
     ·exact l c (List.mem_of_mem_take b) id Ce
     ·refine Hs h x id ?_;cases hp:Da s.tm x with
      |agg k=>rw[hp] at b;exact zk.2 ⟨c,b,Ce⟩
      |tup k=>rw[hp] at b;simp[cellsOf] at b;subst b;cases Ce
      |_=>rw[hp] at b;simp[cellsOf] at b;subst b;exact Ce
    ·exact l c (List.mem_of_mem_drop b) id Ce)
  refine⟨d,f,e,?_,y,?_,o⟩
  ·simp only[ER,xn,CH];rw[Bd (by simp;omega)]
   exact v
  ·rw[z];simp[B9];omega
theorem Ake{z:Value}(e:cs.length=z.cells.toList.length)(d:∀(j:Nat) c,cs[j]?=some c->MN c/\∃u,z.cells.toList[j]?=some u/\u.oneCell'=true/\∀(w:World)(A:Nat->Prop),A7 w A c u)(_ht:Ze P t=some z):
  B4 (C4 w A β) cs z.cells.toList/\∀c∈cs,A6 c=[]:=by
 refine⟨B4.of_at e λi c u a f=>?_,λc b=>?_⟩
 ·obtain⟨g,l,Oy,_,h⟩:=d i c a;rw[f] at Oy;cases Oy;exact (Sw g).2 (h _ _)
 ·obtain⟨j,k⟩:=zq.1 b;exact Mc (d j c k).1
theorem Ab5:∀{a:List Field},(a.all λf=>ZA P f.type)=true->a.mapM (λf=>(P.info? f.type).map λi=>(f.offset,i.size))=some (a.map λf=>(f.offset,Bx P f.type))
 |[],_=>rfl
 |f::a,h=>by
  simp only[List.all_cons,Gh] at h;obtain⟨i,hi⟩:=j8.1 h.1;simp[List.mapM_cons,hi,Ab5 h.2,Bx]
theorem NO{p q:Nat->Option (Nat × Nat)}(h:∀i,p i=q i)(cells:Array Value)(parts:List (Nat × Value)):xn p cells parts=xn q cells parts:=by have:p=q:=funext h;rw[this]
theorem Amd(h:D3 N w0 X0 Y β s a w)(Q:o.op=.build t ps){K:PV->Option R}(d:(As (AZ P t&&C6 P t)<|Kx P t λz=>GV (CM P t) (ps.toList.map λq=>(q.1,Da s.tm q.2)) z λcs=>Xo (M2 P t) cs 0 λB=>K (.agg B))=some r):∃v,K v=some r/\Gm P a w o Y β s v [] []:=by
 obtain⟨CH,d⟩:=Ax d;simp only[Gh] at CH;obtain⟨CH,Jf⟩:=CH;obtain⟨z,cs,d,x,S,T,T6,U⟩:=Yu d;obtain⟨C,D⟩:=Ake (w:=w) (A:=Em s.hp β Y) (β:=β) T U x;obtain⟨V,b,d,J,L,Rj,E⟩:=YT h d C (λc l id Ce=>by rw[D c l] at Ce;cases Ce)
 obtain⟨W,d,X,TW,M⟩:=HO d
 have Bct:P.built t (ps.toList.map λq=>(q.1,a.eval q.2))=some b:=by
  have g:∃i,P.info? t=some i/\i.zero=some z:=by
   unfold Ze at x;cases hi:P.info? t with
   |none=>rw[hi] at x;cases x
   |some i=>rw[hi] at x;exact⟨i,rfl,x⟩
  obtain⟨i,hi,g⟩:=g;unfold AZ at CH;unfold Program.built;split at CH
  ·rename_i Z k
   have m:xn (((Z.toList.map λf=>(f.offset,Bx P f.type)).toArray)[·]?) z.cells (ps.toList.map λq=>(q.1,a.eval q.2))=some b:=by
    rw[<-J];refine NO (λj=>?_) _ _;simp[CM,k]
   simp only[hi,k,g,Ab5 CH];exact m
  ·rename_i n e k;obtain⟨O,y⟩:=j8.1 CH
   have m:xn (λj=>some (j*O.size,O.size)) z.cells (ps.toList.map λq=>(q.1,a.eval q.2))=some b:=by
    rw[<-J];refine NO (λj=>?_) _ _;simp[CM,k,Bx,y]
   simp only[hi,k,g,y];exact m
  ·rename_i e k;simp[C6,k] at Jf
  ·cases CH
 refine⟨_,d,C5 (val:=.agg b) ?_ ⟨b.toList,rfl,?_⟩ ?_⟩
 ·unfold execOp;rw[Q];have:=run_build (P:=P) w t (ps.map λq=>(q.1,a.eval q.2)) b (by simpa using Bct);simp[this]
 ·refine B4.of_at (by have:=L.len;omega) λj c u G k=>?_
  obtain⟨p,hp,_,_,TJ⟩:=M j c G;rw[I8] at hp;exact (TJ _ _ _ _ (L.at_ hp k)).1
 ·intro id Ce;obtain⟨c,l,Ce⟩:=zk.1 (show id∈W.flatMap A6 from Ce);obtain⟨j,hj⟩:=zq.1 l;obtain⟨p,hp,_,H,_⟩:=M j c hj;rw[I8] at hp;exact E p (zn hp) id (H id Ce)
end
open Go.RowKit
section
variable {R:Type}{r:R}{P:Program}{N:Nat}{w0:World}{X0:M0}{Y:Nat->Prop}{β β':Bt}{s:St}{a:Act}{w w':World}{o:Oper}{A:Nat->Prop}
theorem Aqb(h:D3 N w0 X0 Y β s a w)(EO:∀id∈fz,∃f c,s.hp id=some (.ar f c)){id:Nat}(i:id∈fz){f:Bool}(g:s.hp id=some (.ar f c)){b ob:Nat}(e:β id=some (b,ob)):
  ¬Em (Aj s.hp fz) β Y b/\RdT w (Em (Aj s.hp fz) β Y) ⟨b,ob,none⟩ c/\b<w.heap.size:=by
 have j:=h.freeze EO;have k:Aj s.hp fz id=some (.ar true c):=by rw[Cv,Bv i,g];rfl
 rcases j.box id _ k with⟨d,_⟩|⟨n,o,d,l,_,m⟩
 ·rw[e] at d;cases d
 ·rw[e] at d;simp at d;obtain⟨rfl,rfl⟩:=d;exact⟨m rfl,l,h.blt id b ob (by rw[g];simp) e⟩
theorem Aya(h:D3 N w0 X0 Y β s a w)(EO:∀id∈fz,∃f c,s.hp id=some (.ar f c)){id off:Nat}(o:id∈fz){f:Bool}(r:s.hp id=some (.ar f c))(e:C4 w (Em s.hp β Y) β (.view id es off n) v):A7 w (Em (Aj s.hp fz) β Y) (.lst false es n ((c.drop off).take (n*es))) v:=by
 rcases e with⟨_,rfl,rfl,ad,rfl⟩|⟨b,i,y,cap,t,rfl,g,l,_,Ct⟩
 ·simp only[jk,zs];cases ad with
  |none=>exact A7.lnil false es
  |some p=>exact A7.lemp es p 0
 ·obtain⟨m,k,_⟩:=Aqb h EO o r t;by_cases SL:n*es=0
  ·rw[SL,zs];exact A7.lst es n [] ⟨b,y,none⟩ cap (λ_=>undef) rfl Ct m l Ψ Ψ Ψ
  ·have g:y=i+off:=by
    rcases g with g|⟨x,_⟩
    ·exact g
    ·rw[x] at SL;simp at SL
   subst g
   have Fc:∀(j:Nat) q,((c.drop off).take (n*es))[j]?=some q->c[off+j]?=some q:=by
    intro j q d;rw[zt] at d;split at d
    ·rw[zg] at d;exact d
    ·cases d
   refine A7.lst es n _ ⟨b,i+off,none⟩ cap (λj=>(w.cell? ⟨b,i+off+j,none⟩).getD undef) rfl Ct m l (λj q d=>?_) (λj q d=>?_) (λj q d=>?_)
   ·obtain⟨v,e,_⟩:=k _ q (Fc j q d);rw[E1,<-Ld] at e;rw[E1,e];rfl
   ·obtain⟨v,e,z,_⟩:=k _ q (Fc j q d);rw[E1,<-Ld] at e;rw[e];exact z
   ·obtain⟨v,e,_,ht⟩:=k _ q (Fc j q d);rw[E1,<-Ld] at e;rw[e];exact ht
theorem A7.zf{A:Nat->Prop}(h:A7 w A (.lst z es n c) v):A7 w A (.lst false es n c) v:=by
 cases h with
 |lnil=>exact .lnil _ _
 |lemp=>exact .lemp _ _ _
 |lst _ _ _ a cap f b d e g i j k=>exact .lst _ _ _ a cap f b d e g i j k
theorem Abv(h:D3 N w0 X0 Y β s a w){t:CT}{K:PV->Cl->Option R}(d:Xu (Pf s.hp) t p K=some r):
  ∃c m,K c m=some r/\MN c/\isF p/\(∀id∈m,∃f cc,s.hp id=some (.ar f cc))/\∀fz:Cl,(∀id∈m,id∈fz)->(∀id∈fz,∃f cc,s.hp id=some (.ar f cc))->∀v,C4 w (Em s.hp β Y) β p v->A7 w (Em (Aj s.hp fz) β Y) c v/\v.oneCell'=true:=by
 have tree:∀o,(TN o p λc=>K c [])=some r->∃c m,K c m=some r/\MN c/\isF p/\(∀id∈m,∃f cc,s.hp id=some (.ar f cc))/\∀fz:Cl,(∀id∈m,id∈fz)->(∀id∈fz,∃f cc,s.hp id=some (.ar f cc))->∀v,C4 w (Em s.hp β Y) β p v->A7 w (Em (Aj s.hp fz) β Y) c v/\v.oneCell'=true:=by
  intro o d;obtain⟨c,d,q,j,g⟩:=Vb d;refine⟨c,[],d,q,DS j,Ψ,λfz _ EO v TJ=>?_⟩;obtain⟨x,y⟩:=g _ _ _ _ TJ;exact⟨x.step (Df.refl _ _) (λb _ e=>e.imp AJ id),y⟩
 cases t with
 |sl es=>
  unfold Xu at d;dsimp only at d;split at d
  ·rename_i id l off n;cases e:Nat.beq l es
   ·rw[e] at d;cases d
   ·rw[e] at d;have:=Ed e;subst this;obtain⟨c,A,d⟩:=Dh (show Dq _ _=some r from d);obtain⟨_,d⟩:=Ax d;obtain⟨f,Tn⟩:=Aiy A;refine⟨_,[id],d,trivial,trivial,?_,λfz B EO v g=>⟨Aya h EO (B id Ψ) Tn g,?_⟩⟩
    ·intro i hi;simp at hi;subst hi;exact⟨f,c,Tn⟩
    ·rcases g with⟨_,_,_,_,rfl⟩|⟨_,_,_,_,_,rfl,_⟩<;>rfl
  ·obtain⟨z,n,c,d,hp⟩:=Jy d;refine⟨_,[],d,trivial,?_,Ψ,λfz _ EO v TJ=>?_⟩
   ·rcases hp with rfl|⟨rfl,_⟩<;>trivial
   ·have ht:=NE hp TJ;refine⟨A7.zf (ht.step (Df.refl _ _) (λb _ e=>e.imp AJ id)),?_⟩;cases ht<;>rfl
 |int k=>exact tree (.int k) d
 |bool=>exact tree .bool d
 |str=>exact tree .str d
 |any=>exact tree .any d
theorem AN(h:D3 N w0 X0 Y β s a w):∀{ts:List CT}{ps:Ae}{K:Ae->Cl->Option R},Wn (Pf s.hp) ts ps K=some r ->
  ∃cs m,K cs m=some r/\cs.length=ts.length/\ps.length=ts.length/\(∀c∈cs,MN c)/\(∀p∈ps,isF p)/\(∀id∈m,∃f cc,s.hp id=some (.ar f cc)) /\
   ∀fz:Cl,(∀id∈m,id∈fz)->(∀id∈fz,∃f cc,s.hp id=some (.ar f cc))->∀vs,B4 (C4 w (Em s.hp β Y) β) ps vs->B4 (A7 w (Em (Aj s.hp fz) β Y)) cs vs/\∀v∈vs,v.oneCell'=true
 |[],[],K,d=>⟨[],[],d,rfl,rfl,Ψ,Ψ,Ψ,λfz _ _ vs g=>by
   cases vs with
   |nil=>exact⟨trivial,Ψ⟩
   |cons v vs=>exact g.elim⟩
 |[],_::_,K,d=>by cases d
 |_::_,[],K,d=>by cases d
 |t::ts,p::ps,K,d=>by
  unfold Wn at d;obtain⟨c,m,d,o,q,y,g⟩:=Abv h d;obtain⟨cs,z,d,A,Rj,j,k,l,Ox⟩:=AN h d;refine⟨c::cs,m++z,d,by simp[A],by simp[Rj],?_,?_,?_,λfz e EO vs n=>?_⟩
  ·intro x b;rcases zl.1 b with rfl|b
   ·exact o
   ·exact j x b
  ·intro x b;rcases zl.1 b with rfl|b
   ·exact q
   ·exact k x b
  ·intro x b;rcases B8.1 b with b|b
   ·exact y x b
   ·exact l x b
  ·cases vs with
   |nil=>exact n.elim
   |cons v vs=>
    obtain⟨B,C⟩:=g fz (λi hi=>e i (by simp[hi])) EO v n.1;obtain⟨D,E⟩:=Ox fz (λi hi=>e i (by simp[hi])) EO vs n.2;refine⟨⟨B,D⟩,?_⟩;intro x b;rcases zl.1 b with rfl|b
    ·exact C
    ·exact E x b
theorem Ax3{R':PV->Value->Prop}{z:Array Value}(h:B4 R' cs z.toList)(n:Nat):B4 R' (Xx n cs) (madeCells z (n*cs.length)).toList:=by
 have a:z.size=cs.length:=by have:=h.len;simp at this;exact this.symm
 refine B4.of_at ?_ λj c v e f=>?_
 ·rw[An6];simp[size_madeCells]
 ·obtain⟨g,b⟩:=PN e
  have Ct:j % cs.length<cs.length:=by
   rcases Kp (j % cs.length) cs.length with h|h
   ·exact h
   ·rw[zh h] at b;cases b
  obtain⟨u,i,d⟩:=h.get b;have:(madeCells z (n*cs.length))[j]?=some u:=Alq g (by rw[a];simpa using i)
  have Yb:(madeCells z (n*cs.length))[j]?=some v:=by simpa using f
  rw[this] at Yb;cases Yb;exact d
theorem Aew{A':Nat->Prop}:∀{ps cs:Ae}{vs:List Value},B4 (C4 w (Em s.hp β Y) β) ps vs->B4 (A7 w A') cs vs->B4 (A7 w A') (Al9 true ps cs) vs
 |[],_,_,_,h=>h
 |_::_,[],_,_,h=>h
 |p::ps,c::cs,[],_,h=>h.elim
 |p::ps,c::cs,v::vs,hp,h=>by
  refine⟨?_,Aew hp.2 h.2⟩;split
  ·have a:A7 w (Em s.hp β Y) (.lst true _ 0 []) v:=hp.1;cases a;exact .lnil true _
  ·exact h.1
theorem TI(h:D3 N w0 X0 Y β s a w)(U:o.op=.buildSlice t n ps){K:PV->Cl->List (Nat × Co)->Option R}(g:(match P.underlying t with
   |some (.slice e)=>As (AZ P t&&jg (n*Bx P e) 16777216) (Kx P e λz=>GV (CM P t) (ps.toList.map λq=>(q.1,Da s.tm q.2)) (Xx n z) λcs=>
     Wn (Pf s.hp) (qz n (M2 P e)).flatten cs λk m=>K (.view d (Bx P e) 0 n) m [(d,.ar false (bif nz then Al9 true cs k else k))])
   |_=>none)=some r):∃v fz nw,K v fz nw=some r/\Gm P a w o Y β s v fz nw:=by
 split at g
 ·rename_i e l;obtain⟨y,g⟩:=Ax g;simp only[Gh] at y;have JJ:n*Bx P e<=16777216:=Vc y.2;have Zj:(P.info? e).isSome=true:=by have:=y.1;unfold AZ at this;rw[l] at this;exact this
  obtain⟨z,cs,g,O,V,W,Q,X⟩:=Yu g;obtain⟨B,C⟩:=Ake (w:=w) (A:=Em s.hp β Y) (β:=β) W X O;have Bpz:=Ax3 B n
  obtain⟨D,b,g,Z,E,Rj,hr'⟩:=YT h g Bpz (λc G id Ce=>by
   obtain⟨j,H⟩:=zq.1 G;obtain⟨_,hg⟩:=PN H;rw[C c (zn hg)] at Ce;cases Ce)
  obtain⟨S,m,g,hql,CH,hqT,_,T,J⟩:=AN h g;obtain⟨x,L⟩:=J m (λ_ hi=>hi) T _ E
  have x:B4 (A7 w (Em (Aj s.hp m) β Y)) (bif nz then Al9 true D S else S) b.toList:=by
   cases nz
   ·exact x
   ·exact Aew E x
  have f:xn (λi=>some (i*Bx P e,Bx P e)) (madeCells z.cells (n*cs.length)) (ps.toList.map λq=>(q.1,a.eval q.2))=some b:=by
   rw[<-Z];refine NO (λi=>?_) _ _;simp[CM,l]
  have QA:b.size=n*Bx P e:=by
   have M:=E.len;rw[Rj,An6] at M;simp at M;rw[<-M,Q]
  have Dz:(execOp a.eval o).run P w=.ok (.value (.slice (some ⟨w.heap.size,0,none⟩) n n)) (w.alloc (.cells b e)):=by
   unfold execOp;rw[U];have Bhc:¬(n*Bx P e>2 ^ 24):=Ω
   rw[Q] at f;by_cases SL:n*Bx P e=0
   ·simp only[xp,xd,run_underlying l,xf,D4 Zj,Bd Bhc,SL];rw[SL] at f;have e0:madeCells z.cells 0=(Array.range 0).map (λ_=>default):=by simp[madeCells]
    rw[e0] at f;simp[f,newRow]
   ·simp only[xp,xd,run_underlying l,xf,D4 Zj,Bd Bhc,Bd SL,MF O];unfold madeCells at f;simp[f,newRow]
  refine⟨_,_,_,g,BK (c:=b) (e:=e) T Dz (Ie.alloc w b e) (λj p H=>?_) (.inr ⟨Bx P e,n,n,rfl,rfl,Cz _,by rw[QA];exact Cz _,.inr (Rc w b e)⟩)⟩
  obtain⟨u,Oy,hp⟩:=x.get H;exact⟨u,by simpa using Oy,L u (zn Oy),hp⟩
 ·cases g
theorem Agv(h:D3 N w0 X0 Y β s a w){k:Operand}{ok:Bool}(D:o.op=.lookup t x k ok){K:PV->Option R}(d:(match P.underlying t with
   |some (.map j l)=>As (match P.underlying j with|some .string=>true|_=>false) (
    match Da s.tm x with
    |.sc (.map none)=>At (Da s.tm k) λ_=>Dq (Ze P l) λz=>cvK P l z λv=>As (match v with | .tup _=>false|_=>true) (K (bif ok then .tup [v,.sc (.bool false)] else v))
    |_=>none)
   |_=>none)=some r):∃v,K v=some r/\Gm P a w o Y β s v [] []:=by
 split at d
 ·rename_i j l E;obtain⟨f,d⟩:=Ax d
  have f:P.underlying j=some .string:=by
   split at f
   ·assumption
   ·cases f
  split at d
  ·rename_i G;obtain⟨b,p,d⟩:=E8 d;obtain⟨z,m,d⟩:=Dh d;obtain⟨v,d,A,B⟩:=At6 d;obtain⟨g,d⟩:=Ax d
   have g:∀C,v ≠ .tup C:=by
    rintro C rfl
    cases g
   have q:∀w:World,(zeroValue l).run P w=.ok z w:=by
    intro w;unfold Ze at m;cases hi:P.info? l with
    |none=>rw[hi] at m;cases m
    |some i=>
     rw[hi] at m;simp[zeroValue,typeInfo,hi,show i.zero=some z from m]
   have Dz:(execOp a.eval o).run P w=.ok (.value (if ok then .tuple #[z,.bool false] else z)) w:=by
    unfold execOp;rw[D];have y:∀c (n:Nat),(xq c (n+1) j (.string b)).run P w=.ok () w:=λc n=>by simp[xq,run_underlying f]
    have LB:∀c,(xq c 10000 j (.string b)).run P w=.ok () w:=λc=>y c 9999;cases ok<;>simp[Instr.lookup,run_underlying E,Db h G,Db h p,LB,Instr.findKey,Instr.findNow,run_underlying f,q]
   refine⟨_,d,C5 Dz ?_ ?_⟩
   ·cases ok
    ·exact B _ _ _
    ·refine⟨[z,.bool false],rfl,(Yk g).1 (B _ _ _),?_,trivial⟩;exact A7.sc _
   ·cases ok
    ·intro id Ce;simp only[cond_false] at Ce;rw[A] at Ce;cases Ce
    ·intro id Ce;have:Cy (.tup [v,.sc (.bool false)])=Dj v++[]:=by simp[Cy,Dj,A6]
     simp only[cond_true] at Ce;rw[this,List.append_nil] at Ce;have e:Dj v=Cy v:=by cases v<;>first|rfl|exact absurd rfl (g _)
     rw[e,A] at Ce;cases Ce
  ·cases d
 ·cases d
end
end
end
end Go.Proofs.YtfmabfhjccngbaaGreatDoor.Pv
