/-
  The proof of SigninAny, part 1.
-/
import Derived.Orders
import Derived.LoopN
import Derived.Below
import Derived.Laws.Cover4
import Derived.Lib.ValidU
import Derived.Lib.Bytealg
import Derived.IntWalk
import Derived.WalkKit
import Derived.WalkLawsBesides
import Derived.Laws.IdiomStrings
import Derived.Laws.MakeOwn
import Derived.Laws.Tables
set_option linter.unusedSimpArgs false
set_option linter.unusedVariables false
namespace Go.Proofs.YthlonbjmnomlcaaGreatDoor.Pv
set_option maxRecDepth 1000000
noncomputable section
theorem Ω{p:Prop}(h:p:=by omega):p:=h
theorem Ψ{p:Prop}(h:p:=by simp):p:=h
theorem Δ{p:Prop}(h:p:=by decide):p:=h
theorem Κ{p:Prop}(h:p:=by kernel_rfl):p:=h
theorem Φ{p:Prop}(h:p:=by show _=_;kernel_rfl):p:=h
theorem Es:type_of% @Bool.not_true:=@Bool.not_true
theorem Gg:type_of% @Bool.not_false:=@Bool.not_false
theorem Jy:type_of% @Nat.mul_one:=@Nat.mul_one
theorem Ka:type_of% @Nat.zero_add:=@Nat.zero_add
theorem Nr:type_of% @List.drop_zero.{0}:=@List.drop_zero
theorem Jo:type_of% @List.take_of_length_le.{0}:=@List.take_of_length_le
theorem Vl:type_of% @List.length_append.{0}:=@List.length_append
theorem SS:type_of% @List.length_nil.{0}:=@List.length_nil
theorem Ox:type_of% @List.length_cons.{0}:=@List.length_cons
theorem H8:type_of% @Int.toNat_natCast:=@Int.toNat_natCast
theorem Bb:type_of% @if_neg.{1}:=@if_neg
theorem Bq:type_of% @if_pos.{1}:=@if_pos
theorem Zzm:type_of% @Bool.true_and:=@Bool.true_and
theorem Zzn:type_of% @Bool.and_true:=@Bool.and_true
theorem Zzp:type_of% @List.cons_append.{0}:=@List.cons_append
theorem Zzq:type_of% @List.nil_append.{0}:=@List.nil_append
theorem Zzr:type_of% @Nat.add_zero:=@Nat.add_zero
theorem NT:type_of% @Bool.false_and:=@Bool.false_and
theorem Zzt:type_of% @Bool.and_false:=@Bool.and_false
theorem Zzv:type_of% @List.append_assoc.{0}:=@List.append_assoc
theorem CZ:type_of% @List.map_cons.{0,0}:=@List.map_cons
theorem Ge:type_of% @Bool.and_eq_true:=@Bool.and_eq_true
theorem JI:type_of% @decide_eq_true_eq:=@decide_eq_true_eq
theorem El:type_of% @Nat.eq_of_beq_eq_true:=@Nat.eq_of_beq_eq_true
theorem B2:type_of% @List.mem_append.{0}:=@List.mem_append
theorem L6:type_of% @List.flatMap_cons.{0,0}:=@List.flatMap_cons
theorem Xz:type_of% @List.mem_singleton_self.{0}:=@List.mem_singleton_self
theorem H2:type_of% @Nat.lt_of_lt_of_le:=@Nat.lt_of_lt_of_le
theorem Yh:type_of% @List.mem_cons_of_mem.{0}:=@List.mem_cons_of_mem
theorem Zy:type_of% @Nat.le_of_ble_eq_true:=@Nat.le_of_ble_eq_true
theorem Jt:type_of% @Nat.lt_or_ge:=@Nat.lt_or_ge
theorem Xx:type_of% @List.mem_singleton.{0}:=@List.mem_singleton
theorem Cg:type_of% @Nat.le_refl:=@Nat.le_refl
theorem R1:type_of% @Nat.add_assoc:=@Nat.add_assoc
theorem Vr:type_of% @Nat.beq_refl:=@Nat.beq_refl
theorem IQ:type_of% @List.mem_cons_self.{0}:=@List.mem_cons_self
inductive PV where
 |sc (v:Value)
 |lst (z:Bool) (es n:Nat) (cells:List PV)
 |own (es n:Nat) (cells:List PV)
 |view (id es off n:Nat)
 |ptr (id off:Nat)
 |iptr (cells:List PV) (off:Nat)
 |pbox (cells:List PV)
 |agg (cells:List PV)
 |tup (vs:List PV)
 |top
 |ub
abbrev Ae:=List PV
abbrev Ak:=List Int
abbrev B9:=List Nat
inductive Cd where
 |st (cells:Ae)
 |ar (fz:Bool) (cells:Ae)
 |mv
structure St where
 tm:Nat->PV
 hp:Nat->Option Cd
structure A8 where
 vals:Ae
 outs:List Ae
structure J7 where
 shr:FuncId->Bool
 mvd:FuncId->Nat->Bool
 lnd:FuncId->Nat->Bool
 kz:FuncId->Bool
 ext:FuncId->Option (Ae->Option A8)
 nz:Nat->Bool
def J7.core(C:J7):J7:={ C with ext:=λ_=>none }
def Dm{α:Type}(f:Nat->α)(i:Nat)(v:α):Nat->α:=λj=>bif Nat.beq j i then v else f j
def rd(hp:Nat->Option Cd)(id:Nat):Option Ae:=
 match hp id with
 |some (.st c)=>some c
 |some (.ar _ c)=>some c
 |_=>none
def Om(hp:Nat->Option Cd)(id:Nat):Option Ae:=
 match hp id with
 |some (.ar _ c)=>some c
 |_=>none
inductive CT where
 |int (k:IntKind)
 |bool
 |str
 |sl (es:Nat)
 |any
def Bs(P:Program)(t:TypeId):Nat:=((P.info? t).map (·.size)).getD 0
def Cm(P:Program)(t:TypeId):Bool:=
 match P.underlying t with
 |some (.struct _)=>true
 |some (.array _ _)=>true
 |_=>false
def A73(P:Program):Nat->TypeId->List CT
 |0,_=>[]
 |d+1,t=>
  match P.underlying t with
  |some (.int k)=>[.int k]
  |some .bool=>[.bool]
  |some .string=>[.str]
  |some (.slice e)=>[.sl (Bs P e)]
  |some (.struct a)=>a.toList.flatMap λf=>A73 P d f.type
  |some (.array n e)=>(List.replicate n (A73 P d e)).flatten
  |_=>[.any]
abbrev Lz(P:Program)(t:TypeId):List CT:=A73 P 9 t
def M6(P:Program)(t:TypeId):Bool:=(P.underlying t).isSome&&Nat.beq (Lz P t).length (Bs P t)
abbrev C5(k:IntKind)(a b:Int):Int:=k.wrap (BitVec.ofInt k.bits a &&& BitVec.ofInt k.bits b).toNat
abbrev Vg(k:IntKind)(a b:Int):Int:=k.wrap (BitVec.ofInt k.bits a ||| BitVec.ofInt k.bits b).toNat
abbrev E4(k:IntKind)(a b:Int):Int:=k.wrap (BitVec.ofInt k.bits a ^^^ BitVec.ofInt k.bits b).toNat
abbrev Zp(k:IntKind)(a b:Int):Int:=k.wrap (BitVec.ofInt k.bits a &&& ~~~BitVec.ofInt k.bits b).toNat
abbrev Dx(k:IntKind)(a b:Int):Int:=k.wrap (a*2 ^ (min b.toNat k.bits))
abbrev Gs(k:IntKind)(a b:Int):Int:=a.fdiv (2 ^ (min b.toNat k.bits))
abbrev Bbp(k:IntKind)(n:Int):Int:=k.wrap (BitVec.ofInt k.bits (if k.signed then -1 else k.max) ^^^ BitVec.ofInt k.bits n).toNat
section
variable {R:Type}
def Bn(k:IntKind)(p:PV)(K:Int->Option R):Option R:=
 match p with
 |.sc (.int a n)=>if a=k then K n else none
 |_=>none
def Be(p:PV)(K:Bool->Option R):Option R:=
 match p with
 |.sc (.bool b)=>K b
 |_=>none
def As(p:PV)(K:ByteArray->Option R):Option R:=
 match p with
 |.sc (.string s)=>K s
 |_=>none
def FF(es:Nat)(p:PV)(K:Bool->Nat->Ae->Option R):Option R:=
 match p with
 |.lst z a n c=>bif Nat.beq a es then K z n c else none
 |.sc (.slice none 0 0)=>K true 0 []
 |_=>none
def fsK(es:Nat)(p:PV)(K:PV->Option R):Option R:=
 match p with
 |.view id a off n=>bif Nat.beq a es then K (.view id es off n) else none
 |p=>FF es p λz n c=>K (.lst z es n c)
def Na(es:Nat)(p:PV)(K:Nat->Ae->Option R):Option R:=
 match p with
 |.own a n c=>bif Nat.beq a es then K n c else none
 |_=>none
def Aw(b:Bool)(K:Option R):Option R:=bif b then K else none
abbrev Aa{α:Type}(x:α)(K:α->Option R):Option R:=K x
def Ah9(b:Bool)(x y:Option R):Option R:=bif b then x else y
abbrev Bke(x:Nat)(K:Nat->Option R):Option R:=K x
def A5g(x:List B9)(K:List B9->Option R):Option R:=K x
def Aq(b:Bool)(x y:Option R):Option R:=bif b then x else y
def Dj{α:Type}(o:Option α)(K:α->Option R):Option R:=
 match o with
 |some a=>K a
 |none=>none
def Ad{α:Type}(l:List α)(K:α->List α->Option R):Option R:=
 match l with
 |a::r=>K a r
 |[]=>none
def Ah{α:Type}(l:List α)(K:Option R):Option R:=
 match l with
 |[]=>K
 |_::_=>none
def Dr(p:PV)(K:Ae->Option R):Option R:=
 match p with
 |.agg c=>K c
 |_=>none
def FI(p:PV)(K:Ae->Option R):Option R:=
 match p with
 |.pbox c=>K c
 |_=>none
def An(r:Option A8)(K:Ae->List Ae->Option R):Option R:=
 match r with
 |some ⟨v,o⟩=>K v o
 |none=>none
def fnK(p:PV)(K:Value->Option R):Option R:=
 match p with
 |.sc (.func f a b)=>K (.func f a b)
 |.sc (.map none)=>K (.map none)
 |_=>none
def fvK(p:PV)(K:FuncId->Option R):Option R:=
 match p with
 |.sc (.func (.func f) a b)=>bif a.isEmpty&&b.isEmpty then K f else none
 |_=>none
def QI(t:CT)(p:PV)(K:PV->Option R):Option R:=
 match t with
 |.int k=>Bn k p λn=>K (.sc (.int k n))
 |.bool=>Be p λb=>K (.sc (.bool b))
 |.str=>As p λs=>K (.sc (.string s))
 |.sl es=>FF es p λz n c=>K (.lst z es n c)
 |.any=>fnK p λv=>K (.sc v)
def fcK(t:CT)(p:PV)(K:PV->Option R):Option R:=
 match t with
 |.sl es=>fsK es p K
 |t=>QI t p K
def CL:List CT->Ae->Nat->(Ae->Option R)->Option R
 |[],_,_,K=>K []
 |t::a,cells,off,K=>QI t (cells.getD off .top) λc=>CL a cells (off+1) λr=>K (c::r)
def V5:List CT->Ae->Nat->(Ae->Option R)->Option R
 |[],_,_,K=>K []
 |t::a,cells,off,K=>fcK t (cells.getD off .top) λc=>V5 a cells (off+1) λr=>K (c::r)
def mkV(agg:Bool)(cells:Ae)(K:PV->Option R):Option R:=
 bif agg then K (.agg cells) else Ad cells λc r=>Ah r (K c)
def cellsOf:PV->Ae
 |.agg c=>c
 |p=>[p]
def cvK(P:Program)(t:TypeId)(v:Value)(K:PV->Option R):Option R:=
 match v with
 |.agg a=>Aw (Nat.beq a.toList.length (Lz P t).length) (CL (Lz P t) (a.toList.map .sc) 0 λc=>K (.agg c))
 |.slice none 0 0=>
  match P.underlying t with
  |some (.slice e)=>K (.lst true (Bs P e) 0 [])
  |_=>none
 |v=>K (.sc v)
end
def Cw(tm:Nat->PV):Operand->PV
 |.tmp t=>tm t
 |.const (.agg a)=>.agg (a.toList.map .sc)
 |.const v=>.sc v
 |.func f=>.sc (.func (.func f) #[] #[])
 |.global g=>.sc (.pointer (some ⟨g,0,none⟩))
section
variable {R:Type}
def Et(p:PV)(K:IntKind->Int->Option R):Option R:=
 match p with
 |.sc (.int k n)=>K k n
 |_=>none
def Aj6(a:Nat->Option Ae)(es:Nat)(p:PV)(K:Nat->Ae->Option R):Option R:=
 match p with
 |.view id b off n=>bif Nat.beq b es then Dj (a id) λc=>Aw (decide (off+n*es<=c.length)) (K n ((c.drop off).take (n*es))) else none
 |p=>FF es p λ_ n c=>K n c
def V3(a:Nat->Option Ae)(t:CT)(p:PV)(K:PV->B9->Option R):Option R:=
 match t with
 |.sl es=>
  match p with
  |.view id b off n=>bif Nat.beq b es then Dj (a id) λc=>Aw (decide (off+n*es<=c.length)) (K (.lst false es n ((c.drop off).take (n*es))) [id]) else none
  |p=>FF es p λ_ n c=>K (.lst false es n c) []
 |t=>QI t p λc=>K c []
def Ux(a:Nat->Option Ae):List CT->Ae->(Ae->B9->Option R)->Option R
 |[],[],K=>K [] []
 |t::b,p::ps,K=>V3 a t p λc m=>Ux a b ps λd e=>K (c::d) (m++e)
 |_,_,_=>none
def Aka(k:Bool):Ae->Ae->Ae
  |p::ps,c::a=>
    (match k,p with
     |true,.lst true es 0 []=>.lst true es 0 []
     |_,_=>c)::Aka k ps a
  |_,a=>a
def Alp(P:Program)(a:Nat->Option Ae)(t:TypeId)(p:PV)(K:PV->B9->Option R):Option R:=
 bif Cm P t then Dr p λps=>Ux a (Lz P t) ps λb m=>K (.agg b) m
 else Ux a (Lz P t) [p] λb m=>Ad b λc r=>Ah r (K c m)
def WZ(P:Program)(a:Nat->Option Ae):List TypeId->Ae->(Ae->B9->Option R)->Option R
 |[],[],K=>K [] []
 |t::b,p::ps,K=>Alp P a t p λv m=>WZ P a b ps λc d=>K (v::c) (m++d)
 |_,_,_=>none
def Ay5(shr:Bool)(id:Nat)(t:CT)(p:PV)(K:PV->List (Nat × Cd)->Option R):Option R:=
 match t with
 |.sl es=>bif shr then FF es p λ_ n c=>K (.lst false es n c) [] else Na es p λn c=>K (.view id es 0 n) [(id,.ar false c)]
 |t=>QI t p λc=>K c []
def X8(shr:Bool)(N:Nat):Nat->List CT->Ae->(Ae->List (Nat × Cd)->Option R)->Option R
 |_,[],ps,K=>Ah ps (K [] [])
 |id,t::a,ps,K=>Ad ps λp ps=>Ay5 shr id t p λc b=>X8 shr N (id+N) a ps λd bs=>K (c::d) (b++bs)
def MP(P:Program)(t:TypeId):Option TypeId:=
 match P.underlying t with
 |some (.pointer e)=>some e
 |_=>none
def Aic(P:Program)(t:TypeId):Nat:=
 match MP P t with
 |some e=>1+(Lz P e).length
 |none=>(Lz P t).length
def Aqn(P:Program)(shr:Bool)(N:Nat)(id:Nat)(t:TypeId)(p:PV)(K:PV->List (Nat × Cd)->Option R):Option R:=
 match MP P t with
 |some e=>FI p λps=>X8 shr N (id+N) (Lz P e) ps λa bs=>K (.ptr id 0) ((id,.st a)::bs)
 |none=>
 bif Cm P t then Dr p λps=>X8 shr N id (Lz P t) ps λa bs=>K (.agg a) bs
 else X8 shr N id (Lz P t) [p] λa bs=>Ad a λc r=>Ah r (K c bs)
def RH(P:Program)(shr:Bool)(N:Nat):Nat->List TypeId->Ae->(Ae->List (Nat × Cd)->Option R)->Option R
 |_,[],ps,K=>Ah ps (K [] [])
 |id,t::b,ps,K=>Ad ps λp ps=>Aqn P shr N id t p λv bs=>RH P shr N (id+N*Aic P t) b ps λc a=>K (v::c) (bs++a)
def Ve(P:Program)(t:TypeId):List TypeId:=
 match P.underlying t with
 |some (.tuple a)=>a.toList
 |_=>[t]
def U7(vs:Ae)(t:Bool):PV:=bif t then .tup vs else vs.headD .top
def Wf(P:Program)(t:TypeId):Bool:=
 match P.underlying t with
 |some (.tuple _)=>true
 |_=>false
def A1l(op:BinOp)(a b:Int)(K:Bool->Option R):Option R:=
 match op with
 |.eql=>K (a==b)
 |.neq=>K (a != b)
 |.lss=>K (decide (a<b))
 |.leq=>K (decide (a<=b))
 |.gtr=>K (decide (a>b))
 |.geq=>K (decide (a>=b))
 |_=>none
def VC(op:BinOp)(k:IntKind)(a b:Int)(K:PV->Option R):Option R:=
 match op with
 |.add=>Aa ((k.wrap (a+b))) λn=>K (.sc (.int k n))
 |.sub=>Aa ((k.wrap (a-b))) λn=>K (.sc (.int k n))
 |.mul=>Aa ((k.wrap (a*b))) λn=>K (.sc (.int k n))
 |.quo=>Aw (decide (b≠0)) (Aa ((k.wrap (a.tdiv b))) λn=>K (.sc (.int k n)))
 |.rem=>Aw (decide (b≠0)) (Aa ((a.tmod b)) λn=>K (.sc (.int k n)))
 |.and=>Aa (C5 k a b) λn=>K (.sc (.int k n))
 |.or=>Aa (Vg k a b) λn=>K (.sc (.int k n))
 |.xor=>Aa (E4 k a b) λn=>K (.sc (.int k n))
 |.andNot=>Aa (Zp k a b) λn=>K (.sc (.int k n))
 |op=>A1l op a b λr=>K (.sc (.bool r))
def YI(op:BinOp)(x y:ByteArray)(K:PV->Option R):Option R:=
 match op with
 |.add=>Aw (decide (x.size+y.size<=9223372036854775807)) (Aa (x++y) λs=>K (.sc (.string s)))
 |.eql=>K (.sc (.bool (x.data.toList==y.data.toList)))
 |.neq=>K (.sc (.bool !(x.data.toList==y.data.toList)))
 |.lss=>K (.sc (.bool (Op.bytesLess x.data.toList y.data.toList)))
 |.leq=>K (.sc (.bool (Op.bytesLess x.data.toList y.data.toList||x.data.toList==y.data.toList)))
 |.gtr=>K (.sc (.bool !(Op.bytesLess x.data.toList y.data.toList||x.data.toList==y.data.toList)))
 |.geq=>K (.sc (.bool !(Op.bytesLess x.data.toList y.data.toList)))
 |_=>none
def VT(e:Bool)(p:PV)(K:PV->Option R):Option R:=
 match p with
 |.sc (.slice none 0 0)=>K (.sc (.bool e))
 |.lst z _ n _=>Aq z (K (.sc (.bool e))) (Aq (decide (0<n)) (K (.sc (.bool !e))) (K .ub))
 |.view _ _ _ n=>Aq (decide (0<n)) (K (.sc (.bool !e))) (K .ub)
 |_=>none
def Ajq(P:Program):List Field->Nat->Bool
 |[],_=>true
 |f::r,i=>Nat.beq f.offset i&&(f.name != "_")&&(match P.underlying f.type with|some (.int _)=>true|some .bool=>true|some .string=>true|_=>false)&&Ajq P r (i+1)
def T8(P:Program):List Field->Nat->Bool
  |[],_=>true
  |f::r,i=>Nat.beq f.offset i&&(f.name != "_") &&
    (match P.underlying f.type with
     |some (.int _)=>T8 P r (i+1)
     |some .bool=>T8 P r (i+1)
     |some .string=>T8 P r (i+1)
     |some (.struct a)=>Ajq P a.toList 0 && !P.stoodInHeld f.type&&(P.info? f.type).isSome&&Nat.beq (Bs P f.type) a.size&&T8 P r (i+a.size)
     |_=>false)
def Ad5(P:Program)(t:TypeId)(a:Array Field):Bool:=T8 P a.toList 0 && !P.stoodInHeld t && !P.eqGuardType P.depth t
def fty(P:Program)(f:Field):CT:=
 match P.underlying f.type with
 |some (.int k)=>.int k
 |some .bool=>.bool
 |some .string=>.str
 |_=>.any
def Ahd(P:Program)(f:Field):List CT:=
 match P.underlying f.type with
 |some (.struct a)=>a.toList.map (fty P)
 |_=>[fty P f]
def HW(P:Program):List Field->List CT
 |[]=>[]
 |f::r=>Ahd P f++HW P r
def Qz:List CT->Ae->Ae->(Bool->Option R)->Option R
 |[],[],[],K=>K true
 |.int k::c,p::ps,q::d,K=>Bn k p λa=>Bn k q λb=>Qz c ps d λr=>K ((a==b)&&r)
 |.bool::c,p::ps,q::d,K=>Be p λa=>Be q λb=>Qz c ps d λr=>K ((a==b)&&r)
 |.str::c,p::ps,q::d,K=>As p λa=>As q λb=>Qz c ps d λr=>K ((a==b)&&r)
 |_,_,_,_=>none
def Awo(P:Program)(op:BinOp)(t:TypeId)(x y:PV)(K:PV->Option R):Option R:=
 match P.underlying t with
 |some (.int k)=>
  match op with
  |.shl=>Bn k x λa=>Et y λ_ b=>Aw (decide (0<=b)) (Aa (Dx k a b) λn=>K (.sc (.int k n)))
  |.shr=>Bn k x λa=>Et y λ_ b=>Aw (decide (0<=b)) (Aa (Gs k a b) λn=>K (.sc (.int k n)))
  |op=>Bn k x λa=>Bn k y λb=>VC op k a b K
 |some .string=>As x λa=>As y λb=>YI op a b K
 |some .bool=>
  match op with
  |.eql=>Be x λa=>Be y λb=>K (.sc (.bool (a==b)))
  |.neq=>Be x λa=>Be y λb=>K (.sc (.bool !(a==b)))
  |_=>none
 |some (.slice _)=>
  match op,y with
  |.eql,.sc (.slice none 0 0)=>VT true x K
  |.neq,.sc (.slice none 0 0)=>VT false x K
  |_,_=>none
 |some (.map _ _)=>
  match op,x,y with
  |.eql,.sc (.map none),.sc (.map none)=>K (.sc (.bool true))
  |.neq,.sc (.map none),.sc (.map none)=>K (.sc (.bool false))
  |_,_,_=>none
 |_=>none
def FN(P:Program)(op:BinOp)(t:TypeId)(x y:PV)(K:PV->Option R):Option R:=
 match P.underlying t with
 |some (.struct a)=>
  match op with
  |.eql=>Aw (Ad5 P t a) (Dr x λB=>Dr y λc=>Qz (HW P a.toList) B c λb=>K (.sc (.bool b)))
  |.neq=>Aw (Ad5 P t a) (Dr x λB=>Dr y λc=>Qz (HW P a.toList) B c λb=>K (.sc (.bool !b)))
  |_=>none
 |_=>Awo P op t x y K
def unK(op:UnOp)(x:PV)(K:PV->Option R):Option R:=
 match op with
 |.not=>Be x λb=>K (.sc (.bool !b))
 |.neg=>Et x λk n=>Aa (k.wrap (0-n)) λn=>K (.sc (.int k n))
 |.xor=>Et x λk n=>Aa (Bbp k n) λn=>K (.sc (.int k n))
 |_=>none
def H9:Ae->Option (List UInt8)
 |[]=>some []
 |.sc (.int .u8 n)::r=>(H9 r).map (n.toNat.toUInt8 :: ·)
 |_::_=>none
def GG:Ae->Option Ak
 |[]=>some []
 |.sc (.int .i32 n)::r=>(GG r).map (n :: ·)
 |_::_=>none
def D1(s:ByteArray):Ae:=s.data.toList.map λb=>.sc (.int .u8 b.toNat)
def YG(P:Program)(f:Nat->Option Ae)(d:Nat)(a g:TypeId)(x:PV)(K:PV->List (Nat × Cd)->Option R):Option R:=
 match P.underlying g with
 |some (.int k)=>Aw (P.underlying a).isSome (Et x λ_ n=>Aa (k.wrap n) λn=>K (.sc (.int k n)) [])
 |some .string=>
  match P.underlying a with
  |some .string=>As x λs=>K (.sc (.string s)) []
  |some (.slice e)=>
   match P.underlying e with
   |some (.int .u8)=>Aj6 f 1 x λn c=>Aw (decide (c.length=n)) (Dj (H9 c) λb=>K (.sc (.string ⟨b.toArray⟩)) [])
   |some (.int .i32)=>Aj6 f 1 x λn c=>Aw (decide (c.length=n)) (Dj (GG c) λh=>Aa (runesBytes h) λs=>K (.sc (.string s)) [])
   |_=>none
  |_=>none
 |some (.slice e)=>
  match P.underlying e,P.underlying a with
  |some (.int .u8),some .string=>As x λs=>Aw (decide (s.size<=1099511627776)) (K (.view d 1 0 s.size) [(d,.ar false (D1 s))])
  |_,_=>none
 |_=>none
def Jx(p:Option PV)(dflt:Nat)(K:Nat->Option R):Option R:=
 match p with
 |none=>K dflt
 |some p=>Et p λ_ i=>Aw (decide (0<=i)) (K i.toNat)
def ON(P:Program)(b:Nat->Option Ae)(t:TypeId)(x:PV)(a hi:Option PV)(K:PV->Option R):Option R:=
 match P.underlying t with
 |some .string=>As x λs=>Jx a 0 λl=>Jx hi s.size λh=>Aw (decide (l<=h)&&decide (h<=s.size)) (Aa (s.extract l h) λs=>K (.sc (.string s)))
 |some (.slice e)=>Aw (P.info? e).isSome (
  match x with
  |.view id es off n=>Aw (Nat.beq es (Bs P e)) (Jx a 0 λl=>Jx hi n λh=>Aw (decide (l<=h)&&decide (h<=n)) (Aa (off+l*es) λo=>Aa (h-l) λn=>K (.view id es o n)))
  |x=>FF (Bs P e) x λz n c=>Jx a 0 λl=>Jx hi n λh=>Aw (decide (l<=h)&&decide (h<=n)) (Aa (h-l) λn=>Aa ((c.drop (l*Bs P e)).take (n*Bs P e)) λc=>K (.lst z (Bs P e) n c)))
 |some (.array n e)=>Aw (P.info? e).isSome (
  match x with
  |.ptr id off=>Dj (b id) λc=>Aw (decide (1<=n*Bs P e)&&decide (off+n*Bs P e<=c.length)&&Nat.beq (Bs P e) 1)<|Jx a 0 λl=>Jx hi n λh=>Aw (decide (l<=h)&&decide (h<=n)) (Aa (off+l*Bs P e) λo=>Aa (h-l) λn=>K (.view id (Bs P e) o n))
  |_=>none)
 |_=>none
def FR(P:Program)(d:Nat)(t:TypeId)(x:PV)(a hi mx:Option PV)(K:PV->List (Nat × Cd)->Option R):Option R:=
 match P.underlying t with
 |some (.slice e)=>Aw ((P.info? e).isSome&&hi.isSome) (
  match x with
  |.view _ es _ n=>Aw (Nat.beq es (Bs P e)) (Jx a 0 λl=>Jx hi n λh=>Jx mx n λm=>Aw (Nat.beq l m&&Nat.beq h m&&decide (m<=n)) (K (.view d (Bs P e) 0 0) [(d,.ar false [])]))
  |x=>FF (Bs P e) x λ_ n _=>Jx a 0 λl=>Jx hi n λh=>Jx mx n λm=>Aw (Nat.beq l m&&Nat.beq h m&&decide (m<=n)) (K (.view d (Bs P e) 0 0) [(d,.ar false [])]))
 |_=>none
def ET(x:PV)(d:Nat)(K:PV->Option R):Option R:=
 match x with
 |.ptr id off=>K (.ptr id (off+d))
 |.iptr c off=>K (.iptr c (off+d))
 |_=>none
def YR(P:Program)(e:TypeId):Bool:=(P.info? e).isSome
def Yb(P:Program)(t:TypeId)(f:Nat):Option (Nat × TypeId):=
 match P.underlying t with
 |some (.struct a)=>(a[f]?).map λg=>(g.offset,g.type)
 |_=>none
def Pz(P:Program)(t:TypeId)(x:PV)(i:Int)(K:PV->Option R):Option R:=
 match P.underlying t with
 |some (.array n e)=>Aw (YR P e) (Aw (decide (0<=i)&&decide (i<n)) (ET x (i.toNat*Bs P e) K))
 |some (.slice e)=>Aw (YR P e) (
  match x with
  |.view id es off n=>Aw (Nat.beq es (Bs P e)) (Aw (decide (0<=i)&&decide (i<n)) (K (.ptr id (off+i.toNat*es))))
  |x=>FF (Bs P e) x λ_ n c=>Aw (decide (0<=i)&&decide (i<n)) (K (.iptr c (i.toNat*Bs P e))))
 |_=>none
def JC(P:Program)(a:Nat->Option Ae)(t:TypeId)(x:PV)(K:PV->Option R):Option R:=
 match x with
 |.ptr id off=>Aw (M6 P t) (Dj (a id) λc=>V5 (Lz P t) c off λb=>mkV (Cm P t) b K)
 |.iptr c off=>Aw (M6 P t) (CL (Lz P t) c off λb=>mkV (Cm P t) b K)
 |_=>none
def Af8:PV->PV
 |.lst _ es n c=>.lst false es n c
 |p=>p
def Anz:PV->PV
 |.agg a=>.agg (a.map Af8)
 |p=>Af8 p
def NI(nz:Bool)(P:Program)(b rdaf:Nat->Option Ae)(t:TypeId)(x:PV)(K:PV->Option R):Option R:=
 match x with
 |.ptr id off=>Aw (M6 P t) (
  match rdaf id with
  |some c=>CL (Lz P t) c off λa=>mkV (Cm P t) a λv=>K (bif nz then v else Anz v)
  |none=>Dj (b id) λc=>V5 (Lz P t) c off λa=>mkV (Cm P t) a K)
 |.iptr c off=>Aw (M6 P t) (CL (Lz P t) c off λa=>mkV (Cm P t) a λv=>K (bif nz then v else Anz v))
 |_=>none
def B1(cells new:Ae)(off:Nat):Ae:=cells.take off++new++cells.drop (off+new.length)
def okP:PV->Bool
 |.agg _=>true
 |.lst _ _ _ _=>true
 |.view _ _ _ _=>true
 |.sc (.int _ _)=>true
 |.sc (.bool _)=>true
 |.sc (.string _)=>true
 |.sc (.slice none 0 0)=>true
 |_=>false
def DA(J2:Nat->Option (Nat × Nat)):List (Nat × PV)->Ae->(Ae->Option R)->Option R
 |[],cells,K=>K cells
 |(i,p)::r,cells,K=>Dj (J2 i) λq=>Aw (okP p&&Nat.beq (cellsOf p).length q.2&&Nat.ble (q.1+q.2) cells.length) (Aa (B1 cells (cellsOf p) q.1) λcells=>DA J2 r cells K)
def AQ(P:Program)(t:TypeId)(i:Nat):Option (Nat × Nat):=
 match P.underlying t with
 |some (.struct a)=>(a[i]?).map λf=>(f.offset,Bs P f.type)
 |some (.array _ e)=>some (i*Bs P e,Bs P e)
 |some (.slice e)=>some (i*Bs P e,Bs P e)
 |_=>none
def Zg(P:Program)(t:TypeId):Bool:=
 match P.underlying t with
 |some (.struct a)=>a.toList.all λf=>YR P f.type
 |some (.array _ e)=>YR P e
 |some (.slice e)=>YR P e
 |_=>false
def Xw(P:Program)(t:TypeId):Option Value:=(P.info? t).bind (·.zero)
def J3(P:Program)(t:TypeId)(K:Ae->Option R):Option R:=
 Dj (Xw P t) λv=>Aw (Nat.beq v.cells.toList.length (Lz P t).length&&M6 P t) (CL (Lz P t) (v.cells.toList.map .sc) 0 K)
def AB(P:Program)(t:TypeId):Bool:=
 match P.underlying t with
 |some (.array _ _)=>true
 |_=>false
def Av4(P:Program)(t:TypeId)(cells:Ae):Cd:=bif AB P t then .ar false cells else .st cells
def Vu(n:Nat)(l:Ae):Ae:=(List.replicate n l).flatten
def A08(a b:PV)(K:PV->Option R):Option R:=Et a λk x=>Bn k b λy=>Aa (if y<x then y else x) λn=>K (.sc (.int k n))
def A3j(a b:PV)(K:PV->Option R):Option R:=Et a λk x=>Bn k b λy=>Aa (if x<y then y else x) λn=>K (.sc (.int k n))
def Asx(P:Program)(t:TypeId)(x:PV)(K:Nat->Option R):Option R:=
 match P.underlying t with
 |some .string=>As x λs=>K s.size
 |some (.array n _)=>K n
 |some (.slice e)=>
  match x with
  |.view _ es _ n=>Aw (Nat.beq es (Bs P e)) (K n)
  |x=>FF (Bs P e) x λ_ n _=>K n
 |_=>none
end
abbrev Ao:=FuncId->Ae->Option A8
section
variable {R:Type}
def Oi(P:Program)(ts:List TypeId):Bool:=ts.any λt=>(MP P t).isSome||(Lz P t).any λc=>match c with | .sl _=>true|_=>false
def PW(P:Program)(t:TypeId)(tm:Nat->PV)(x:Operand)(K:PV->Option R):Option R:=
 match x with
 |.const v=>cvK P t v K
 |x=>K (Cw tm x)
def Aes(P:Program)(e:TypeId):Bool:=
 match P.info? e with
 |some i=>(match i.zero with|some z=>Nat.beq z.cells.size i.size|none=>false)
 |none=>false
def An5(P:Program)(rdaf:Nat->Option Ae)(es:Nat)(t:TypeId)(x:PV)(K:Nat->Ae->Option R):Option R:=
 match P.underlying t with
 |some .string=>Aw (Nat.beq es 1) (As x λb=>K b.size (D1 b))
 |some (.slice _)=>Aj6 rdaf es x K
 |_=>none
abbrev Amb(P:Program)(s:St)(es:Nat)(t:TypeId)(x:PV)(K:Nat->Ae->Option R):Option R:=An5 P (Om s.hp) es t x K
def LC(c:Call):Bool:=
 match c.args.toList with
 |.const (.slice none 0 0)::_=>true
 |_=>false
def GD(P:Program)(rdaf:Nat->Option Ae)(d:Nat)(t tx:TypeId)(x:PV)(K:PV->List (Nat × Cd)->Option R):Option R:=
 match P.underlying t with
 |some (.slice e)=>Aw (Aes P e) <|
  An5 P rdaf (Bs P e) tx x λm new=>
   Aw (decide (new.length=m*Bs P e)&&decide (m*((P.info? e).map (·.bytes)).getD 0<=1099511627776)&&decide (m<=1099511627776)) (K (.view d (Bs P e) 0 m) [(d,.ar false new)])
 |_=>none
def Nw(k:Bool):List Operand->Ae->Ae
  |x::B,p::ps=>
    (match x,p with
     |.const (.slice none 0 0),.lst z es 0 []=>.lst (k||z) es 0 []
     |_,p=>p)::Nw k B ps
  |_,ps=>ps
def Aqv(P:Program)(t:TypeId)(x:PV)(K:Nat->Option R):Option R:=
 match P.underlying t with
 |some (.slice e)=>FF (Bs P e) x λz _ _=>Aw z (K 0)
 |_=>none
def XX(P:Program)(f:FuncId)(c:Call):List TypeId:=
 match P.funcs[f]? with
 |some a=>a.params.toList
 |none=>c.argTypes.toList
def UU(C:J7)(P:Program)(N:Nat)(F:Ao)(tm:Nat->PV)(rdaf:Nat->Option Ae)(o:Oper)(c:Call)(f:FuncId)(K:PV->B9->List (Nat × Cd)->Option R):Option R:=
 WZ P rdaf (XX P f c) (c.args.toList.map (Cw tm)) λb m=>
  An (F f (Nw (C.kz f) c.args.toList b)) λd ro=>Ah ro (Aw (Nat.blt 0 N)<|RH P (C.shr f) N (o.dst.getD 0) (Ve P o.type) d λa bs=>
   Aw (bif Wf P o.type then !Nat.beq a.length 1 else Nat.beq a.length 1)<|K (U7 a (Wf P o.type)) (bif Oi P (Ve P o.type) then m else []) bs)
def VA(C:J7)(P:Program)(N:Nat)(F:Ao)(tm:Nat->PV)(j rdaf:Nat->Option Ae)(o:Oper)(K:PV->B9->List (Nat × Cd)->Option R):Option R:=
  match o.op with
  |.move x=>PW P o.type tm x λp=>K p [] []
  |.assign x=>PW P o.type tm x λp=>K p [] []
  |.pick c a b=>Be (Cw tm c) λt=>Aq t (K (Cw tm a) [] []) (K (Cw tm b) [] [])
  |.alloc t=>Dj o.dst λd=>J3 P t λg=>K (.ptr d 0) [] [(d,Av4 P t g)]
  |.box t x=>Dj o.dst λd=>Aw (M6 P t&&Nat.beq (cellsOf (Cw tm x)).length (Lz P t).length)
      (bif AB P t then CL (Lz P t) (cellsOf (Cw tm x)) 0 λg=>K (.ptr d 0) [] [(d,.ar false g)]
       else V5 (Lz P t) (cellsOf (Cw tm x)) 0 λg=>K (.ptr d 0) [] [(d,.st g)])
  |.build t ps=>Aw (Zg P t&&Cm P t)<|J3 P t λz=>DA (AQ P t) (ps.toList.map λq=>(q.1,Cw tm q.2)) z λg=>V5 (Lz P t) g 0 λh=>K (.agg h) [] []
  |.buildSlice t n ps=>Dj o.dst λd=>
      match P.underlying t with
      |some (.slice e)=>Aw (Zg P t&&Nat.ble (n*Bs P e) 16777216) (J3 P e λz=>DA (AQ P t) (ps.toList.map λq=>(q.1,Cw tm q.2)) (Vu n z) λg=>
          Ux rdaf (List.replicate n (Lz P e)).flatten g λh m=>K (.view d (Bs P e) 0 n) m [(d,.ar false (bif C.nz N then Aka true g h else h))])
      |_=>none
  |.load t a=>NI (C.nz N) P j rdaf t (Cw tm a) λv=>K v [] []
  |.nilCheck x=>ET (Cw tm x) 0 λp=>K p [] []
  |.binOp op t x y _=>
      FN P op t (Cw tm x) (Cw tm y) λv=>K v [] []
  |.unOp op _ x=>unK op (Cw tm x) λv=>K v [] []
  |.convert w A x=>YG P rdaf (o.dst.getD 0) w A (Cw tm x) λv b=>Dj o.dst λ_=>K v [] b
  |.makeSlice t l c=>Dj o.dst λd=>
      match P.underlying t with
      |some (.slice e)=>Et (Cw tm l) λ_ n=>Et (Cw tm c) λ_ m=>
          Aw (decide (0<=n)&&decide (n<=m)&&decide (m*((P.info? e).map (·.bytes)).getD 0<=1099511627776)&&decide (m<=1099511627776))
            (J3 P e λz=>K (.view d (Bs P e) 0 n.toNat) [] [(d,.ar false (Vu n.toNat z))])
      |_=>none
  |.slice t x D hi mx=>
      match mx with
      |none=>ON P j t (Cw tm x) (D.map (Cw tm)) (hi.map (Cw tm)) λv=>K v [] []
      |some m=>Dj o.dst λd=>FR P d t (Cw tm x) (D.map (Cw tm)) (hi.map (Cw tm)) (some (Cw tm m)) λv nw=>K v [] nw
  |.fieldAddr t x f=>Dj (Yb P t f) λq=>Aw (Nat.ble 1 (Bs P q.2)) (ET (Cw tm x) q.1 λp=>K p [] [])
  |.field t x f=>Dj (Yb P t f) λq=>Aw (M6 P q.2)<|Dr (Cw tm x) λg=>V5 (Lz P q.2) g q.1 λc=>mkV (Cm P q.2) c λv=>K v [] []
  |.indexAddr t x i=>Et (Cw tm i) λ_ n=>Pz P t (Cw tm x) n λp=>K p [] []
  |.index t x i=>Et (Cw tm i) λ_ n=>
      match P.underlying t with
      |some .string=>As (Cw tm x) λs=>Aw (decide (0<=n)) (Dj (s.data.toList[n.toNat]?) λb=>K (.sc (.int .u8 b.toNat)) [] [])
      |some (.array len e)=>Dr (Cw tm x) λg=>Aw (decide (0<=n)&&decide (n<len)&&M6 P e) (V5 (Lz P e) g (n.toNat*Bs P e) λc=>mkV (Cm P e) c λv=>K v [] [])
      |_=>none
  |.lookup t x k ok=>
      match P.underlying t with
      |some (.map G E)=>Aw (match P.underlying G with|some .string=>true|_=>false) (
        match Cw tm x with
        |.sc (.map none)=>As (Cw tm k) λ_=>Dj (Xw P E) λz=>cvK P E z λv=>Aw (match v with | .tup _=>false|_=>true) (K (bif ok then .tup [v,.sc (.bool false)] else v) [] [])
        |_=>none)
      |_=>none
  |.extract x i=>
      match Cw tm x with
      |.tup H=>Dj H[i]? λp=>K p [] []
      |_=>none
  |.call c=>
      match c.callee with
      |.builtin .len=>Ad c.args.toList λx _=>Ad c.argTypes.toList λt _=>Asx P t (Cw tm x) λn=>K (.sc (.int .i64 n)) [] []
      |.builtin .cap=>Ad c.args.toList λx _=>Ad c.argTypes.toList λt _=>Aqv P t (Cw tm x) λn=>K (.sc (.int .i64 n)) [] []
      |.builtin .min=>Ad c.args.toList λx r=>Ad r λy r'=>Ah r' (A08 (Cw tm x) (Cw tm y) λv=>K v [] [])
      |.builtin .max=>Ad c.args.toList λx r=>Ad r λy r'=>Ah r' (A3j (Cw tm x) (Cw tm y) λv=>K v [] [])
      |.builtin .append=>Aw (LC c) (Dj o.dst λd=>Ad c.args.toList λ_ r=>Ad r λx r'=>Ah r' (Ad c.argTypes.toList λt u=>Ad u λI _=>GD P rdaf d t I (Cw tm x) λv nw=>K v [] nw))
      |.value (.func f)=>UU C P N F tm rdaf o c f K
      |.value (.tmp t)=>fvK (tm t) λf=>UU C P N F tm rdaf o c f K
      |_=>none
  |_=>none
def BP(C:J7)(P:Program)(o:Op):Bool:=
 match o with
 |.store .. =>true
 |.call c=>
  match c.callee with
  |.builtin .append=> !LC c
  |.builtin .copy=>true
  |.builtin _=>false
  |.value (.func f)=>((XX P f c).any λt=>(MP P t).isSome)||((XX P f c).zipIdx.any λq=>C.mvd f q.2||C.lnd f q.2)
  |_=>false
 |_=>false
def DU(b:Cd):Cd:=
 match b with
 |.ar _ c=>.ar true c
 |b=>b
def Aj(hp:Nat->Option Cd)(ids:B9):Nat->Option Cd:=λi=>bif ids.any (Nat.beq i) then (hp i).map DU else hp i
def A4(hp:Nat->Option Cd):List (Nat × Cd)->Nat->Option Cd
 |[]=>hp
 |(i,b)::r=>A4 (Dm hp i (some b)) r
def Ch(hp:Nat->Option Cd):List (Nat × Cd)->Bool
 |[]=>true
 |(i,_)::r=>(hp i).isNone && !(r.any λq=>Nat.beq q.1 i)&&Ch hp r
def Df(tm:Nat->PV)(d:Option Tmp)(v:PV):Nat->PV:=
 match d with
 |some i=>Dm tm i v
 |none=>tm
def I5(N:Nat)(d:Option Tmp):Bool:=
 match d with
 |some i=>Nat.blt i N
 |none=>true
def QD(N:Nat)(s:St)(d:Option Tmp)(v:PV)(fz:B9)(nw:List (Nat × Cd))(K:St->Option R):Option R:=
 Aw (I5 N d&&Ch s.hp nw) (K ⟨Df s.tm d v,A4 (Aj s.hp fz) nw⟩)
def OX(P:Program)(s:St)(t:TypeId)(a x:PV)(K:St->Option R):Option R:=
 match a with
 |.ptr id off=>
  match s.hp id with
  |some (.st c)=>Aw (M6 P t&&Nat.beq (cellsOf x).length (Lz P t).length&&decide (off+(Lz P t).length<=c.length)) (V5 (Lz P t) (cellsOf x) 0 λb=>Aa (B1 c b off) λc=>K ⟨s.tm,Dm s.hp id (some (.st c))⟩)
  |some (.ar false c)=>Aw (M6 P t&&decide (off+(Lz P t).length<=c.length)) (Ux (Om s.hp) (Lz P t) (cellsOf x) λb m=>Aw (!m.any (Nat.beq id)) (Aa (B1 c b off) λc=>K ⟨s.tm,Dm (Aj s.hp m) id (some (.ar false c))⟩))
  |_=>none
 |_=>none
def UL(P:Program)(t:TypeId):Bool:=
 match P.underlying t with
 |some (.int _)=>true
 |_=>false
def MO(P:Program)(N:Nat)(s:St)(d:Nat)(e:TypeId)(b x:PV)(K:St->Option R):Option R:=
 Et x λ_ n=>FF (Bs P e) b λz _ _=>
  Aw (z&&Nat.blt d N&&(s.hp d).isNone&&decide (0<=n)&&decide (n.toNat*((P.info? e).map (·.bytes)).getD 0<=1099511627776)&&decide (n<=1099511627776))
   (K ⟨Dm s.tm d (.view d (Bs P e) 0 n.toNat),Dm s.hp d (some (.ar false []))⟩)
def FZ(P:Program)(N:Nat)(s:St)(d:Nat)(t tx:TypeId)(b x:PV)(K:St->Option R):Option R:=
 match P.underlying t with
 |some (.slice e)=>Aw (Aes P e) <|
  bif UL P tx then MO P N s d e b x K else
  Amb P s (Bs P e) tx x λm new=>
  match b with
  |.view id es off n=>
   match s.hp id with
   |some (.ar false c)=>
    Aw (Nat.beq es (Bs P e)&&Nat.beq off 0&&Nat.blt d N&&(s.hp d).isNone&&decide (n*es<=c.length)&&decide (new.length=m*es)
     && decide ((n+m)*((P.info? e).map (·.bytes)).getD 0<=1099511627776)&&decide (n+m<=1099511627776))
     (Aa (n+m) λa=>Aa (c.take (n*es)++new) λc=>K ⟨Dm s.tm d (.view d es 0 a),Dm (Dm s.hp id (some .mv)) d (some (.ar false c))⟩)
   |_=>none
  |b=>FF (Bs P e) b λz _ _=>
    Aw (z&&Nat.blt d N&&(s.hp d).isNone&&decide (new.length=m*Bs P e)&&decide (m*((P.info? e).map (·.bytes)).getD 0<=1099511627776)&&decide (m<=1099511627776))
     (K ⟨Dm s.tm d (.view d (Bs P e) 0 m),Dm s.hp d (some (.ar false new))⟩)
 |_=>none
def Abc(P:Program)(N:Nat)(s:St)(d:Option Tmp)(t tx:TypeId)(b x:PV)(K:St->Option R):Option R:=
 match P.underlying t with
 |some (.slice e)=>Aw (YR P e&&I5 N d) <|
  Amb P s (Bs P e) tx x λm new=>
  match b with
  |.view id es off n=>
   match s.hp id with
   |some (.ar false c)=>Aw (Nat.beq es (Bs P e)&&decide (off+n*es<=c.length)&&decide (new.length=m*es))
     (Aa (min m n) λk=>Aa (B1 c (new.take (k*es)) off) λc=>K ⟨Df s.tm d (.sc (.int .i64 k)),Dm s.hp id (some (.ar false c))⟩)
   |_=>none
  |_=>none
 |_=>none
def As8(mv:Bool)(hp:Nat->Option Cd)(t:CT)(p:PV)(K:PV->B9->B9->Option R):Option R:=
 match t with
 |.sl es=>
  bif mv then
   match p with
   |.view id a off n=>
    match hp id with
    |some (.ar false c)=>
     bif Nat.beq a es&&Nat.beq off 0 then Aw (decide (n*es<=c.length)) (K (.own es n (c.take (n*es))) [] [id])
     else V3 (Om hp) (.sl es) (.view id a off n) λc m=>K c m []
    |_=>V3 (Om hp) (.sl es) (.view id a off n) λc m=>K c m []
   |p=>FF es p λz n c=>bif z then K (.own es 0 []) [] [] else K (.lst false es n c) [] []
  else V3 (Om hp) (.sl es) p λc m=>K c m []
 |t=>QI t p λc=>K c [] []
def RE(mv:Bool)(hp:Nat->Option Cd):List CT->Ae->(Ae->B9->B9->Option R)->Option R
 |[],[],K=>K [] [] []
 |t::a,p::ps,K=>As8 mv hp t p λc m x=>RE mv hp a ps λb d B=>K (c::b) (m++d) (x++B)
 |_,_,_=>none
inductive Jn where
 |var (id off:Nat) (cts:List CT) (ws:Ae)
 |row (id:Nat)
 |none
def Jn.ids:Jn->B9
 |.var id _ _ _=>[id]
 |.row id=>[id]
 |.none=>[]
def A96(P:Program)(t:TypeId):Option TypeId:=
 match P.underlying t with
 |some (.slice e)=>some e
 |_=>none
def Awu(hp:Nat->Option Cd)(es:Nat)(p:PV)(K:PV->List Jn->Option R):Option R:=
 match p with
 |.view id a off n=>
  match hp id with
  |some (.ar false c)=>Aw (Nat.beq a es&&Nat.beq off 0) (K (.tup [.own es n c]) [.row id])
  |_=>none
 |p=>FF es p λz _ _=>Aw z (K (.tup [.own es 0 []]) [.none])
def QH(C:J7)(P:Program)(f:FuncId)(hp:Nat->Option Cd)(i:Nat)(t:TypeId)(p:PV)(K:PV->B9->B9->List Jn->Option R):Option R:=
 match MP P t with
 |some e=>
  match p with
  |.ptr id off=>
   match hp id with
   |some (.st c)=>Aw (M6 P e&&decide (off+(Lz P e).length<=c.length)) (RE (C.mvd f i) hp (Lz P e) ((c.drop off).take (Lz P e).length) λa m x=>K (.pbox a) m x [.var id off (Lz P e) a])
   |_=>none
  |_=>none
 |none=>
  bif C.lnd f i then Dj (A96 P t) λe=>Awu hp (Bs P e) p λv l=>K v [] [] l
  else bif Cm P t then Dr p λps=>RE (C.mvd f i) hp (Lz P t) ps λa m x=>K (.agg a) m x []
  else RE (C.mvd f i) hp (Lz P t) [p] λa m x=>Ad a λc r=>Ah r (K c m x [])
def Acc(C:J7)(P:Program)(f:FuncId)(hp:Nat->Option Cd):Nat->List TypeId->Ae->(Ae->B9->B9->List Jn->Option R)->Option R
 |_,[],[],K=>K [] [] [] []
 |i,t::a,p::ps,K=>QH C P f hp i t p λv m x l=>Acc C P f hp (i+1) a ps λb c B d=>K (v::b) (m++c) (x++B) (l++d)
 |_,_,_,_=>none
def EX(hp:Nat->Option Cd)(ids:B9):Nat->Option Cd:=λi=>bif ids.any (Nat.beq i) then (hp i).map (λ_=>Cd.mv) else hp i
def nid(N t:Nat):Nat:=N*(1000+t)
def Ail(N:Nat)(hp:Nat->Option Cd):Nat->Nat->Nat
 |0,t=>t
 |k+1,t=>bif (hp (nid N t)).isNone then t else Ail N hp k (t+1)
def Atj(N t:Nat)(ct:CT)(a p:PV)(K:Nat->PV->List (Nat × Cd)->Option R):Option R:=
 match ct with
 |.sl es=>
  match a with
  |.own _ _ _=>Na es p λn c=>K (t+1) (.view (nid N t) es 0 n) [(nid N t,.ar false c)]
  |_=>FF es p λ_ n c=>K t (.lst false es n c) []
 |ct=>QI ct p λc=>K t c []
def Aa8(N:Nat):Nat->List CT->Ae->Ae->(Nat->Ae->List (Nat × Cd)->Option R)->Option R
 |t,[],[],ps,K=>Ah ps (K t [] [])
 |t,ct::a,w::d,ps,K=>Ad ps λp ps=>Atj N t ct w p λe c b=>Aa8 N e a d ps λt'' f bs=>K t'' (c::f) (b++bs)
 |_,_,_,_,_=>none
def IP(N:Nat):Nat->List Jn->List Ae->(Nat->Option Cd)->((Nat->Option Cd)->List (Nat × Cd)->Option R)->Option R
 |_,[],ro,hp,K=>Ah ro (K hp [])
 |t,.var id off a f::l,ro,hp,K=>Ad ro λb ro=>Aa8 N t a f b λg d bs=>
   match hp id with
   |some (.st c)=>Aa (B1 c d off) λc=>IP N g l ro (Dm hp id (some (.st c))) λEe e=>K Ee (bs++e)
   |_=>none
 |t,.row id::l,ro,hp,K=>Ad ro λb ro=>IP N t l ro (Dm hp id (some (.ar false b))) K
 |t,.none::l,ro,hp,K=>Ad ro λ_ ro=>IP N t l ro hp K
def Fn:B9->Bool
 |[]=>true
 |a::r=> !(r.any (Nat.beq a))&&Fn r
def PA(C:J7)(P:Program)(N:Nat)(F:Ao)(s:St)(o:Oper)(f:FuncId)(c:Call)(K:St->Option R):Option R:=
 Acc C P f s.hp 0 (XX P f c) (c.args.toList.map (Cw s.tm)) λd m x l=>
  Aw (Fn (l.flatMap Jn.ids++x)&&m.all (λi=> !((l.flatMap Jn.ids++x).any (Nat.beq i)))&&Nat.blt 0 N&&I5 N o.dst) <|
  An (F f (Nw (C.kz f) c.args.toList d)) λe ro=>
   RH P (C.shr f) N (o.dst.getD N) (Ve P o.type) e λb bs=>
    Aw (bif Wf P o.type then !Nat.beq b.length 1 else Nat.beq b.length 1) <|
    Bke (Ail N s.hp 100 0) λg=>IP N g l ro (EX (Aj s.hp m) x) λEe a=>
     Aw (Ch Ee (bs++a)) (K ⟨Df s.tm o.dst (U7 b (Wf P o.type)),A4 Ee (bs++a)⟩)
def Ad3(C:J7)(P:Program)(N:Nat)(F:Ao)(s:St)(o:Oper)(K:St->Option R):Option R:=
 match o.op with
 |.store t a x=>Aw (o.dst.isNone) (OX P s t (Cw s.tm a) (Cw s.tm x) K)
 |.call c=>
  match c.callee with
  |.builtin .append=>Dj o.dst λd=>Ad c.args.toList λb r=>Ad r λx r'=>Ah r' (Ad c.argTypes.toList λt u=>Ad u λe _=>FZ P N s d t e (Cw s.tm b) (Cw s.tm x) K)
  |.builtin .copy=>Ad c.args.toList λb r=>Ad r λx r'=>Ah r' (Ad c.argTypes.toList λt u=>Ad u λe _=>Abc P N s o.dst t e (Cw s.tm b) (Cw s.tm x) K)
  |.value (.func f)=>PA C P N F s o f c K
  |_=>none
 |_=>none
def Aiq(C:J7)(P:Program)(N:Nat)(F:Ao)(o:Oper)(s:St)(K:St->Option R):Option R:=
 bif BP C P o.op then Ad3 C P N F s o K
 else VA C P N F s.tm (rd s.hp) (Om s.hp) o λv fz nw=>QD N s o.dst v fz nw K
def E5(C:J7)(P:Program)(N:Nat)(F:Ao)(ops:Array Oper)(o:Oper)(s:St)(K:St->Option R):Option R:=
 match o.guard with
 |none=>Aiq C P N F o s K
 |some (j,want)=>
  match (ops[j]?).bind (·.dst) with
  |none=>none
  |some d=>
   match s.tm d with
   |.sc (.bool b)=>
    Aq b (bif want then Aiq C P N F o ⟨Dm s.tm d (.sc (.bool true)),s.hp⟩ K else Aw (I5 N o.dst) (K ⟨Df (Dm s.tm d (.sc (.bool true))) o.dst (.sc undef),s.hp⟩))
     (bif want then Aw (I5 N o.dst) (K ⟨Df (Dm s.tm d (.sc (.bool false))) o.dst (.sc undef),s.hp⟩) else Aiq C P N F o ⟨Dm s.tm d (.sc (.bool false)),s.hp⟩ K)
   |.sc (.tuple _)=>Aw (I5 N o.dst) (K ⟨Df s.tm o.dst (.sc undef),s.hp⟩)
   |_=>none
def Uf(C:J7)(P:Program)(N:Nat)(F:Ao)(ops:Array Oper):List Oper->St->(St->Option R)->Option R
 |[],s,K=>K s
 |o::r,s,K=>E5 C P N F ops o s λa=>Uf C P N F ops r a K
def RR(x y:Option R):Option R:=open Classical in if x=y then x else none
def An1(ops:Array Oper)(o:Oper)(s:St)(F:St->Option R):Option R:=
 match o.guard with
 |none=>F s
 |some (j,_)=>
  match (ops[j]?).bind (·.dst) with
  |none=>F s
  |some d=>
   match s.tm d with
   |.ub=>RR (F ⟨Dm s.tm d (.sc (.bool true)),s.hp⟩) (F ⟨Dm s.tm d (.sc (.bool false)),s.hp⟩)
   |_=>F s
def Ae5(C:J7)(P:Program)(N:Nat)(F:Ao)(ops:Array Oper):List Oper->St->(St->Option R)->Option R
 |[],s,K=>K s
 |o::r,s,K=>An1 ops o s λs1=>E5 C P N F ops o s1 λa=>Ae5 C P N F ops r a K
end
def Avq(o:Oper):B9:=o.op.operands.toList.filterMap λx=>match x with | .tmp t=>some t|_=>none
def looks(ops:Array Oper)(o:Oper):B9:=
 Avq o++(match o.guard with|some (g,_)=>((ops[g]?).bind (·.dst)).toList|none=>[])
def K0(P:Program)(o:Op):Bool:=
 match o with
 |.slice t .. =>match P.underlying t with|some (.array _ _)=>true|_=>false
 |.buildSlice t _ _=>match P.underlying t with|some (.slice e)=>Oi P [e]|_=>true
 |.convert _ a _=>match P.underlying a with|some .string=>true|_=>false
 |.alloc _ | .box .. | .makeSlice .. =>false
 |.move _ | .assign _ | .pick .. | .build .. | .binOp .. | .unOp .. | .fieldAddr .. | .field .. | .index .. | .indexAddr .. | .extract .. | .nilCheck _=>false
 |.call c=>match c.callee with | .builtin .len=>false | .builtin .min=>false | .builtin .max=>false|_=>true
 |_=>true
def WJ(C:J7)(P:Program)(ops:Array Oper)(x y:Oper):Bool:=
 (match x.dst with|some d=>(looks ops y).any (Nat.beq d)||(match y.dst with|some e=>Nat.beq d e|none=>false)|none=>false) ||
 (match y.dst with|some e=>(looks ops x).any (Nat.beq e)|none=>false) ||
 (BP C P x.op&&K0 P y.op)||(BP C P y.op&&K0 P x.op)
def Mo(ops:List Oper):B9->B9
 |a=>match ops with
  |[]=>a
  |o::r=>Mo r (a++[o.after.toList.foldl (λs e=>bif Region.binds .any e then s ||| 2 ^ e.on ||| a.getD e.on 0 else s) 0])
def UK(C:J7)(P:Program)(ops:Array Oper)(bs:B9):List Oper->Nat->Bool
 |[],_=>true
 |o::r,i=>(ops.toList.zipIdx.all λq=> !Nat.blt q.2 i || !WJ C P ops q.1 o||(bs.getD i 0).testBit q.2)&&UK C P ops bs r (i+1)
def Abd(C:J7)(P:Program)(ops:Array Oper):Bool:=
 ops.toList.zipIdx.all (λq=>q.1.after.toList.all λe=> !Region.binds .any e||Nat.blt e.on q.2)&&UK C P ops (Mo ops.toList []) ops.toList 0
def A3:PV->B9
 |.view id _ _ _=>[id]
 |.ptr id _=>[id]
 |_=>[]
def C8:PV->B9
 |.agg a=>a.flatMap A3
 |p=>A3 p
def Ck:PV->B9
 |.tup ps=>ps.flatMap C8
 |p=>C8 p
def DX(P:Program)(o:Op):Bool:=
 match o with
 |.load .. =>true
 |.convert _ a _=>(match P.underlying a with|some .string=>true|_=>false)
 |_=>false
def SU(o:Op):Bool:=
 match o with
 |.call c=>(match c.callee with | .builtin .append=> !LC c|_=>false)
 |_=>false
def Avn(ops:Array Oper)(x y:Oper):Bool:=
 (match x.dst with|some d=>(looks ops y).any (Nat.beq d)||(match y.dst with|some e=>Nat.beq d e|none=>false)|none=>false) ||
 (match y.dst with|some e=>(looks ops x).any (Nat.beq e)|none=>false)
def AR(C:J7)(P:Program)(x y:Oper):Bool:=(BP C P x.op&&K0 P y.op)||(BP C P y.op&&K0 P x.op)
def Pk(C:J7)(P:Program)(x y:Oper):Bool:=(BP C P x.op&&DX P y.op)||(BP C P y.op&&DX P x.op)
def Axi(C:J7)(P:Program)(ops:Array Oper)(x y:Oper):Bool:=Avn ops x y||(AR C P x y && !Pk C P x y)
def NA(C:J7)(P:Program)(ops:Array Oper)(bs:B9):List Oper->Nat->Bool
 |[],_=>true
 |o::r,i=>(ops.toList.zipIdx.all λq=> !Nat.blt q.2 i || !Axi C P ops q.1 o||(bs.getD i 0).testBit q.2)&&NA C P ops bs r (i+1)
def XD(C:J7)(P:Program)(ops:Array Oper):Bool:=
 ops.toList.zipIdx.all (λq=>q.1.after.toList.all λe=> !Region.binds .any e||Nat.blt e.on q.2)&&NA C P ops (Mo ops.toList []) ops.toList 0
def Se(C:J7)(P:Program)(s:St)(o:Oper):B9:=
 let l:=o.op.operands.toList.flatMap λy=>Ck (Cw s.tm y)
 bif BP C P o.op && !SU o.op then l++l.flatMap (λi=>match s.hp i with|some (.st c)=>c.flatMap A3|_=>[])
 else bif DX P o.op||SU o.op then l else []
def Arq(a b:B9):Bool:=a.all λi=> !b.any (Nat.beq i)
def MM(C:J7)(P:Program)(ops:Array Oper)(bs:B9)(i:Nat)(o:Oper):B9:=
 (ops.toList.zipIdx.filter λq=>Pk C P q.1 o && !(Nat.blt q.2 i&&(bs.getD i 0).testBit q.2) && !(Nat.blt i q.2&&(bs.getD q.2 0).testBit i)).map (·.2)
def RT(C:J7)(P:Program)(ops:Array Oper)(bs:B9):List B9:=ops.toList.zipIdx.map λq=>MM C P ops bs q.2 q.1
def TO(C:J7)(P:Program)(a:List B9)(s:St)(i:Nat)(o:Oper):B9:=
 match a.getD i [] with
 |[]=>[]
 |_::_=>Se C P s o
def Aan(C:J7)(P:Program)(a:List B9)(s:St)(i:Nat)(o:Oper)(q:Nat × Oper × B9):Bool:=
 !((a.getD i []).any (Nat.beq q.1))||Arq q.2.2 (TO C P a s i o)
def Lx{R:Type}(C:J7)(P:Program)(N:Nat)(F:Ao)(ops:Array Oper)(a:List B9):List (Nat × Oper × B9)->B9->St->(St->Option R)->Option R
 |_,[],s,K=>K s
 |dn,i::l,s,K=>Dj ops[i]? λo=>Aw (dn.all (Aan C P a s i o)&&(TO C P a s i o).all (λk=>(s.hp k).isSome)) (E5 C P N F ops o s λb=>Lx C P N F ops a ((i,o,TO C P a s i o)::dn) l b K)
def Av5(m i:Nat):Nat:=m ||| 2 ^ i
def Bhf(m i:Nat):Nat:=bif m.testBit i then m ^^^ 2 ^ i else m
def Aog(ops:Array Oper):List Oper->Nat->Nat
 |[],m=>m
 |o::r,m=>
  let a:=Aog ops r m
  let b:=match o.dst with|some d=>Bhf a d|none=>a
  (looks ops o).foldl Av5 b
def Vt:Code->Nat->(Nat->Nat)->Nat->Nat
 |.skip,g,_,_=>g
 |.region _ ops _,g,_,_=>Aog ops ops.toList g
 |.seq a b,g,e,f=>Vt a (Vt b g e f) e f
 |.cond c a b,g,e,f=>let m:=Vt a g e f ||| Vt b g e f;match c with | .tmp d=>Av5 m d|_=>m
 |.block id c,g,e,f=>Vt c g (λj=>bif Nat.beq j id then g else e j) f
 |.loop c,_,e,f=>Vt c (Vt c 0 e f) e f
 |.exit id,_,e,_=>e id
 |.ret,_,_,f=>f
 |_,_,_,_=>0
def Ag1(ops:List Oper):B9:=(ops.filterMap λo=>o.guard.map (·.1)).eraseDups
def Nj:Code->Nat
 |.region _ _ _=>1
 |.seq a b=>Nj a+Nj b
 |.cond _ a b=>Nj a+Nj b
 |.block _ c=>Nj c
 |.loop c=>Nj c
 |_=>0
def II:Code->Nat
 |.skip=>1
 |.region _ ops _=>2 ^ min 6 (Ag1 ops.toList).length
 |.seq a b=>bif (Nat.ble 7 (II a)&&Nat.ble 6 (Nj b))||(Nat.ble 5 (II a)&&Nat.ble 9 (Nj b)) then II b else min 1000 (II a*II b)
 |.cond _ a b=>II a+II b
 |.block _ c=>II c
 |.loop _=>1
 |.exit _=>1
 |_=>0
def A41(P:Program)(o:Oper):Bool:=
 match o.op with
 |.load t _=>AB P t&&Nat.ble 8 (Bs P t)
 |.store t _ _=>AB P t&&Nat.ble 8 (Bs P t)
 |_=>false
def Ah7(P:Program):Code->Bool
 |.region _ ops _=>ops.toList.any (A41 P)
 |.seq a _=>Ah7 P a
 |_=>false
def An8(P:Program):Code->Bool
 |.region _ ops _=>ops.toList.any (A41 P)
 |.seq _ b=>An8 P b
 |_=>false
def A1b(P:Program)(o:Oper):Bool:=
 match o.op with
 |.call _=> !AB P o.type&&(Nat.beq (Bs P o.type) 8||Nat.ble 15 (Bs P o.type))
 |_=>false
def KK(P:Program):Code->Bool
 |.region _ ops _=>ops.toList.any (A1b P)
 |.seq _ b=>KK P b
 |.cond _ a b=>KK P a||KK P b
 |_=>false
def Baf:Code->Nat
 |.seq a b=>match b with
  |.ret=>(match a with | .region _ ops _=>(Ag1 ops.toList).length|_=>0)
  |_=>Baf b
 |_=>0
def Azg(x y:Code):Bool:=(Nat.beq (II x) 1&&Nat.beq (Baf y) 11)||(Nat.beq (II x) 4&&Nat.beq (Nj x) 7&&(Nat.beq (Nj y) 3||Nat.beq (Nj y) 1))||(Nat.beq (II x) 9&&Nat.beq (Nj x) 5&&Nat.beq (Nj y) 5)
def UB(a b:Code):Bool:=Azg a b||(match b with | .seq x y=>Azg x y|_=>false)
def Axg(P:Program)(a b:Code):Bool:=(Nat.ble 7 (II a)&&Nat.ble 6 (Nj b))||(Nat.ble 5 (II a)&&Nat.ble 9 (Nj b))||(Nat.beq (II a) 4&&Nat.beq (Nj a) 11&&Nat.beq (Nj b) 10)||(Nat.beq (II a) 2&&Nat.beq (Nj a) 3&&(Nat.beq (Nj b) 10||Nat.beq (Nj b) 7))||UB a b||Ah7 P b||An8 P a||KK P a
def Ry(m:Nat):Nat->B9
 |0=>[]
 |n+1=>Ry m n++(bif m.testBit n then [n] else [])
def lk(l:List (Nat × PV))(i:Nat):PV:=
 match l with
 |[]=>.top
 |(j,p)::r=>bif Nat.beq i j then p else lk r i
def Fe(l:List (Nat × Cd))(i:Nat):Option Cd:=
 match l with
 |[]=>none
 |(j,b)::r=>bif Nat.beq i j then some b else Fe r i
def HM(l:List (Nat × Nat))(i:Nat):Option Nat:=
 match l with
 |[]=>none
 |(j,b)::r=>bif Nat.beq i j then some b else HM r i
def UD(N:Nat)(s:St)(i:Nat):St:=
 match s.tm i with
 |.lst true es 0 []=>
  bif (s.hp i).isNone then ⟨Dm s.tm i (.view i es 0 0),Dm s.hp i (some (.ar false []))⟩
  else bif (s.hp (i+N*3000)).isNone then ⟨Dm s.tm i (.view (i+N*3000) es 0 0),Dm s.hp (i+N*3000) (some (.ar false []))⟩
  else s
 |_=>s
def Afq(N:Nat)(id:Nat)(s:St)(j:Nat):St:=
 match s.hp id with
 |some (.st c)=>
  match c[j]? with
  |some (.lst true es 0 [])=>bif (s.hp (id+N*(j+1))).isNone then ⟨s.tm,Dm (Dm s.hp id (some (.st (c.set j (.view (id+N*(j+1)) es 0 0))))) (id+N*(j+1)) (some (.ar false []))⟩ else s
  |_=>s
 |_=>s
def Afs(N:Nat)(s:St)(i:Nat):St:=
 match s.tm i with
 |.ptr id _=>
  match s.hp id with
  |some (.st c)=>(List.range c.length).foldl (Afq N id) s
  |_=>s
 |_=>s
def Abr(m:List (Nat × Nat))(old new:Nat):List (Nat × Nat):=
 match HM m old with
 |some _=>m
 |none=>m++[(old,new)]
def AG(N new:Nat):Ae->Nat->List (Nat × Nat)->List (Nat × Nat)
 |[],_,m=>m
 |.view id _ _ _::r,j,m=>AG N new r (j+1) (Abr m id (new+N*(j+1)))
 |_::r,j,m=>AG N new r (j+1) m
def TY(N:Nat)(s:St)(m:List (Nat × Nat))(i:Nat):List (Nat × Nat):=
 match s.tm i with
 |.view id _ _ _=>Abr m id i
 |.ptr id _=>
  match HM m id with
  |some _=>m
  |none=>
   match s.hp id with
   |some (.st c)=>AG N i c 0 (Abr m id i)
   |_=>Abr m id i
 |.agg c=>AG N i c 0 m
 |_=>m
def Amd(m:List (Nat × Nat)):PV->PV
 |.view id es off n=>match HM m id with|some j=>.view j es off n|none=>.top
 |.ptr id off=>match HM m id with|some j=>.ptr j off|none=>.top
 |.sc v=>.sc v
 |.lst z es n c=>.lst z es n c
 |.iptr c off=>.iptr c off
 |_=>.top
def Aqt(m:List (Nat × Nat)):PV->PV
 |.agg c=>.agg (c.map (Amd m))
 |p=>Amd m p
def A2w(m:List (Nat × Nat)):Cd->Cd
 |.st c=>.st (c.map (Amd m))
 |b=>b
def En(N i:Nat):Nat:=i+N*2000
def Ai5(N:Nat)(hp:Nat->Option Cd):Nat->List (Nat × Nat)
 |0=>[]
 |i+1=>bif (hp (En N i)).isSome then Ai5 N hp i++[(En N i,En N i)] else Ai5 N hp i
def DP(N:Nat)(hp:Nat->Option Cd):Nat->List (Nat × Nat)->List (Nat × Nat)
 |0,m=>m
 |i+1,m=>
  match hp (En N i) with
  |some (.st c)=>AG N (En N i) c 0 (DP N hp i m)
  |_=>DP N hp i m
def Bfu(N:Nat)(hp:Nat->Option Cd)(k:Nat):List (Nat × Nat):=DP N hp k (Ai5 N hp k)
def Sf(m:List (Nat × Nat))(hp:Nat->Option Cd):List (Nat × Nat)->List (Nat × Cd)
 |[]=>[]
 |(old,new)::r=>match hp old with
  |some b=>(new,A2w m b)::Sf m hp r
  |none=>Sf m hp r
section
variable {R:Type}
def Apf(N:Nat)(ls:B9)(q:Bool)(s:St)(K:St->Option R):Option R:=
 let s2:=bif q then s else ls.foldl (Afs N) (ls.foldl (UD N) s)
 let m:=ls.foldl (TY N s2) (Bfu N s2.hp 8)
 Aw (Fn (m.map (·.1))&&Fn (m.map (·.2))) (K ⟨lk (ls.map λi=>(i,Aqt m (s2.tm i))),Fe (Sf m s2.hp m)⟩)
def LF(N L:Nat)(s:St)(K:St->Option R):Option R:=Apf N (Ry L N) false s K
def Ao1(N L:Nat)(s:St)(K:St->Option R):Option R:=Apf N (Ry L N) true s K
def Axq(F:(St->Option R)->St->Option R)(nm:St->(St->Option R)->Option R):Nat->St->Option R
 |0,_=>none
 |n+1,s=>F (λa=>nm a (Axq F nm n)) s
def VR(n:Nat)(F:St->Option R)(s:St):Option R:=
 match n with
 |0=>none
 |_+1=>F s
def Avb(s:St)(c:Operand)(a e:St->Option R):Option R:=
 match c with
 |.tmp d=>
  match s.tm d with
  |.sc (.bool b)=>Aq b (a ⟨Dm s.tm d (.sc (.bool true)),s.hp⟩) (e ⟨Dm s.tm d (.sc (.bool false)),s.hp⟩)
  |.ub=>RR (a s) (e s)
  |_=>none
 |.const (.bool true)=>a s
 |.const (.bool false)=>e s
 |_=>none
def Xu(C:J7)(P:Program)(u N:Nat)(F:Ao):Code->Nat->(Nat->Nat)->Nat->(St->Option R)->(Nat->St->Option R)->(St->Option R)->St->Option R
 |.skip,_,_,_,g,_,_,s=>g s
 |.region _ ops draw,_,_,_,g,_,_,s=>Ah9 (draw && !Abd C P ops) (Aw (XD C P ops) (A5g (RT C P ops (Mo ops.toList [])) λl=>Lx C P N F ops l [] (List.range ops.size) s g)) (Ah9 draw (Uf C P N F ops ops.toList s g) (Ae5 C P N F ops ops.toList s g))
 |.seq a b,f,d,e,g,h,kr,s=>Xu C P u N F a (Vt b f d e) d e (λi=>Ah9 (Axg P a b) (Ah9 (UB a b) (Ao1 N (Vt b f d e) i (VR u λs''=>Xu C P u N F b f d e g h kr s'')) (LF N (Vt b f d e) i (VR u λs''=>Xu C P u N F b f d e g h kr s''))) (Xu C P u N F b f d e g h kr i)) h kr s
 |.cond c a b,f,d,e,g,h,kr,s=>Avb s c (Xu C P u N F a f d e g h kr) (Xu C P u N F b f d e g h kr)
 |.block id c,f,d,e,g,h,kr,s=>Xu C P u N F c f (λj=>bif Nat.beq j id then f else d j) e g (λj i=>bif Nat.beq j id then g i else h j i) kr s
 |.loop c,f,d,e,_,h,kr,s=>
  LF N (Vt (.loop c) f d e) s (Axq (λk i=>Xu C P u N F c (Vt (.loop c) f d e) d e k h kr i) (LF N (Vt (.loop c) f d e)) u)
 |.exit id,_,_,_,_,h,_,s=>h id s
 |.ret,_,_,_,_,_,kr,s=>kr s
 |_,_,_,_,_,_,_,_=>none
def Awt(id:Nat)(t:CT)(p:PV)(K:PV->List (Nat × Cd)->Option R):Option R:=
 match t with
 |.sl es=>
  match p with
  |.own a n c=>bif Nat.beq a es then K (.view id es 0 n) [(id,.ar false c)] else none
  |p=>FF es p λz n c=>K (.lst z es n c) []
 |t=>QI t p λc=>K c []
def SD(N:Nat):Nat->List CT->Ae->(Ae->List (Nat × Cd)->Option R)->Option R
 |_,[],ps,K=>Ah ps (K [] [])
 |id,t::a,ps,K=>Ad ps λp ps=>Awt id t p λc b=>SD N (id+N) a ps λd bs=>K (c::d) (b++bs)
def inK(P:Program)(N i:Nat)(t:TypeId)(p:PV)(K:PV->List (Nat × Cd)->Option R):Option R:=
 match MP P t with
 |some e=>FI p λps=>Aw (Nat.blt i 8) (SD N (En N i+N) (Lz P e) ps λa bs=>K (.ptr (En N i) 0) ((En N i,.st a)::bs))
 |none=>
  match p with
  |.tup ps=>Dj (A96 P t) λe=>Aw (Nat.blt i 8) (Ad ps λq r=>Ah r (Na (Bs P e) q λn c=>K (.view (En N i) (Bs P e) 0 n) [(En N i,.ar false c)]))
  |p=>
   bif Cm P t then Dr p λps=>SD N (i+N) (Lz P t) ps λa bs=>K (.agg a) bs
   else SD N (i+N) (Lz P t) [p] λa bs=>Ad a λc r=>Ah r (K c bs)
def Ayq(P:Program)(N:Nat):Nat->List TypeId->Ae->(List (Nat × PV)->List (Nat × Cd)->Option R)->Option R
 |_,[],ps,K=>Ah ps (K [] [])
 |i,t::b,ps,K=>Ad ps λp ps=>inK P N i t p λv bs=>Ayq P N (i+1) b ps λc a=>K ((i,v)::c) (bs++a)
def A3y(hp:Nat->Option Cd)(t:CT)(p:PV)(K:PV->B9->B9->Option R):Option R:=
  match t with
  |.sl es=>
    match p with
    |.view id a off n=>bif Nat.beq a es&&Nat.beq off 0 then
        (match hp id with
         |some (.ar false c)=>Aw (decide (n*es<=c.length)) (K (.own es n (c.take (n*es))) [id] [])
         |_=>none) else none
    |p=>FF es p λz _ _=>Aw z (K (.own es 0 []) [] [])
  |t=>QI t p λc=>K c [] []
def Ao5(shr:Bool)(hp:Nat->Option Cd)(t:CT)(p:PV)(K:PV->B9->B9->Option R):Option R:=
 bif shr then V3 (Om hp) t p λc m=>K c [] m else A3y hp t p K
def OU(shr:Bool)(hp:Nat->Option Cd):List CT->Ae->(Ae->B9->B9->Option R)->Option R
 |[],[],K=>K [] [] []
 |t::a,p::ps,K=>Ao5 shr hp t p λc m z=>OU shr hp a ps λb d e=>K (c::b) (m++d) (z++e)
 |_,_,_=>none
def Axy(P:Program)(shr:Bool)(hp:Nat->Option Cd)(t:TypeId)(p:PV)(K:PV->B9->B9->Option R):Option R:=
 match MP P t with
 |some e=>
  match p with
  |.ptr id off=>
   match hp id with
   |some (.st c)=>Aw (Nat.beq off 0) (OU shr hp (Lz P e) c λa m z=>K (.pbox a) (id::m) z)
   |_=>none
  |_=>none
 |none=>
  bif Cm P t then Dr p λps=>OU shr hp (Lz P t) ps λa m z=>K (.agg a) m z
  else OU shr hp (Lz P t) [p] λa m z=>Ad a λc r=>Ah r (K c m z)
def Avr(P:Program)(s:St)(r:ResultVar)(K:PV->Option R):Option R:=
 match r with
 |.tmp t=>K (s.tm t)
 |.cell a t=>NI false P (rd s.hp) (Om s.hp) t (s.tm a) K
def Aev(P:Program)(shr:Bool)(s:St):List ResultVar->List TypeId->(Ae->B9->B9->Option R)->Option R
 |[],[],K=>K [] [] []
 |r::rs,t::a,K=>Avr P s r λp=>Axy P shr s.hp t p λv m z=>Aev P shr s rs a λb c d=>K (v::b) (m++c) (z++d)
 |_,_,_=>none
def TZ(hp:Nat->Option Cd):List CT->Ae->Ae->(Ae->B9->B9->Option R)->Option R
 |[],[],[],K=>K [] [] []
 |t::a,w::b,p::ps,K=>Ao5 (match w with | .own _ _ _=>false|_=>true) hp t p λc m z=>TZ hp a b ps λd e f=>K (c::d) (m++e) (z++f)
 |_,_,_,_=>none
def PS(P:Program)(N:Nat)(hp:Nat->Option Cd):Nat->List TypeId->Ae->(List Ae->B9->B9->B9->Option R)->Option R
 |_,[],ps,K=>Ah ps (K [] [] [] [])
 |i,t::a,ps,K=>Ad ps λp ps=>
  match p with
  |.pbox f=>Dj (MP P t) λe=>
    match hp (En N i) with
    |some (.st c)=>TZ hp (Lz P e) f c λg m z=>PS P N hp (i+1) a ps λr b d q=>K (g::r) (m++b) (z++d) (En N i::q)
    |_=>none
  |.tup _=>
    match hp (En N i) with
    |some (.ar false c)=>PS P N hp (i+1) a ps λr b d q=>K (c::r) b d (En N i::q)
    |_=>none
  |_=>PS P N hp (i+1) a ps K
def Ao3(rs:List ResultVar):Nat:=rs.foldl (λm r=>match r with | .tmp t=>Av5 m t | .cell a _=>Av5 m a) 0
end
def WW(P:Program):Nat->List TypeId->Nat->Nat
 |_,[],m=>m
 |i,t::a,m=>WW P (i+1) a (match P.underlying t with|some (.pointer _)=>Av5 m i|_=>m)
def Asq(C:J7)(P:Program)(f:FuncId)(a:Func)(args:Ae)(s:St):Option A8:=
 Aev P (C.shr f) s a.results.toList a.resultTypes.toList λc m z=>PS P a.ntmps s.hp 0 a.params.toList args λos b d q=>
  Aw (Fn ((m++b)++q)&&(z++d).all (λi=> !(((m++b)++q).any (Nat.beq i)))) (some ⟨c,os⟩)
def A77(C:J7)(P:Program)(u:Nat)(F:Ao)(f:FuncId)(a:Func)(c:Code)(args:Ae):Option A8:=
  Ayq P a.ntmps 0 a.params.toList args λtms bs=>Aw (Nat.ble args.length a.ntmps&&Ch (λ_=>none) bs)
    (let b:=WW P 0 a.params.toList (Ao3 a.results.toList)
     Xu C P u a.ntmps F c b (λ_=>0) b (Asq C P f a args) (λ_ _=>none) (Asq C P f a args) ⟨lk tms,Fe bs⟩)
def Ac(C:J7)(P:Program)(u:Nat):Nat->FuncId->Ae->Option A8
 |0,_,_=>none
 |d+1,f,args=>
  match C.ext f with
  |some g=>g args
  |none=>
   match P.funcs[f]? with
   |none=>none
   |some a=>match a.body with
    |none=>none
    |some c=>A77 C.core P u (Ac C P u d) f a c args
inductive Dir where
 |l
 |r
 |i (m:Nat)
section
variable {R:Type}
def IR(C:J7)(P:Program)(u N:Nat)(F:Ao):List Dir->Code->Nat->(Nat->Nat)->Nat->(St->Option R)->(Nat->St->Option R)->(St->Option R)->Nat->St->Option R
 |[],.seq _ b,f,d,e,h,g,kr,n,s=>VR n (λs''=>Xu C P u N F b f d e h g kr s'') s
 |[],.loop c,f,d,e,_,g,kr,n,s=>Axq (λk i=>Xu C P u N F c (Vt (.loop c) f d e) d e k g kr i) (LF N (Vt (.loop c) f d e)) n s
 |.l::p,.seq a b,f,d,e,h,g,kr,n,s=>IR C P u N F p a (Vt b f d e) d e (λi=>Ah9 (Axg P a b) (Ah9 (UB a b) (Ao1 N (Vt b f d e) i (VR u λs''=>Xu C P u N F b f d e h g kr s'')) (LF N (Vt b f d e) i (VR u λs''=>Xu C P u N F b f d e h g kr s''))) (Xu C P u N F b f d e h g kr i)) g kr n s
 |.r::p,.seq _ b,f,d,e,h,g,kr,n,s=>IR C P u N F p b f d e h g kr n s
 |.l::p,.cond _ a _,f,d,e,h,g,kr,n,s=>IR C P u N F p a f d e h g kr n s
 |.r::p,.cond _ _ b,f,d,e,h,g,kr,n,s=>IR C P u N F p b f d e h g kr n s
 |.l::p,.block id c,f,d,e,h,g,kr,n,s=>IR C P u N F p c f (λj=>bif Nat.beq j id then f else d j) e h (λj i=>bif Nat.beq j id then h i else g j i) kr n s
 |.i m::p,.loop c,f,d,e,_,g,kr,n,s=>
  IR C P u N F p c (Vt (.loop c) f d e) d e
   (λi=>LF N (Vt (.loop c) f d e) i (Axq (λk i=>Xu C P u N F c (Vt (.loop c) f d e) d e k g kr i) (LF N (Vt (.loop c) f d e)) m)) g kr n s
 |_,_,_,_,_,_,_,_,_,_=>none
end
def Bb7(C:J7)(P:Program)(u:Nat)(F:Ao)(f:FuncId)(a:Func)(c:Code)(args:Ae)(p:List Dir)(n:Nat)(s:St):Option A8:=
 let b:=WW P 0 a.params.toList (Ao3 a.results.toList)
 IR C P u a.ntmps F p c b (λ_=>0) b (Asq C P f a args) (λ_ _=>none) (Asq C P f a args) n s
def A2q:B9:=[
 109,
 1000000]
def A7i:B9:=[
 62,
 5,
 54,
 79,
 114,
 137,
 138,
 101,
 38,
 60,
 12,
 26,
 8,
 11,
 6,
 13,
 1000000]
def A7w:B9:=[
 1000000]
def A2b:B9:=[
 82,
 1000000]
def A7h:B9:=[
 82,
 1000000]
def XL(args:Ae):Option A8:=
 match args with
 |[.sc (.string s)]=>bif decide (s.size<=9223372036854775807) then some ⟨[.sc (.bool (Lib.validD s.data.toList))],[]⟩ else none
 |_=>none
def LW:B9:=[
 157,
 180,
 164,
 149,
 169,
 166,
 181,
 194,
 195,
 74,
 134,
 135,
 133,
 108,
 69,
 140,
 122,
 88,
 47,
 51,
 45,
 96,
 110,
 111,
 112,
 75,
 70,
 71,
 72,
 76,
 107,
 66,
 32,
 35,
 137,
 138,
 114,
 79,
 81,
 67,
 29,
 116,
 1000000]
def Bga:B9:=[
 1000000]
def CB:J7:=⟨λf=>A7i.any (Nat.beq f),λf i=>Nat.beq i 0&&A7h.any (Nat.beq f),λf i=>(Nat.beq i 0&&A7w.any (Nat.beq f))||(Nat.beq i 2&&A2b.any (Nat.beq f)),λf=>A2q.any (Nat.beq f),λ_=>none,λN=>Bga.any (Nat.beq N)⟩
def CX(B:FuncId->Option (Ae->Option A8)):J7:={ CB with ext:=λf=>bif LW.any (Nat.beq f) then none else B f }
def A8b(f:Func):Code:=match f.body with|some c=>c|none=>.skip
section
variable {R:Type}{r:Option R}
theorem Bk{k:IntKind}{p:PV}{K:Int->Option R}{n:Int}(h:p=.sc (.int k n))(a:K n=r):Bn k p K=r:=by subst h;unfold Bn;simp[a]
theorem Bgq{p:PV}{K:IntKind->Int->Option R}{k:IntKind}{n:Int}(h:p=.sc (.int k n))(a:K k n=r):Et p K=r:=by subst h;exact a
theorem A5{p:PV}{K:Bool->Option R}{b:Bool}(h:p=.sc (.bool b))(a:K b=r):Be p K=r:=by subst h;exact a
theorem Bp{p:PV}{K:ByteArray->Option R}{s:ByteArray}(h:p=.sc (.string s))(a:K s=r):As p K=r:=by subst h;exact a
theorem Aoh{es:Nat}{p:PV}{K:Bool->Nat->Ae->Option R}{z:Bool}{n:Nat}{c:Ae}(h:p=.lst z es n c)(a:K z n c=r):FF es p K=r:=by subst h;unfold FF;simp[Vr,a]
theorem QZ{es:Nat}{p:PV}{K:Nat->Ae->Option R}{n:Nat}{c:Ae}(h:p=.own es n c)(a:K n c=r):Na es p K=r:=by subst h;unfold Na;simp[Vr,a]
theorem Bj{b:Bool}{K:Option R}(h:b=true)(a:K=r):Aw b K=r:=by subst h;exact a
theorem Bgb{b:Bool}{x y:Option R}(h:b=true)(a:x=r):Aq b x y=r:=by subst h;exact a
theorem Bg9{b:Bool}{x y:Option R}(h:b=false)(a:y=r):Aq b x y=r:=by subst h;exact a
theorem Fm{α:Type}{o:Option α}{K:α->Option R}{a:α}(h:o=some a)(b:K a=r):Dj o K=r:=by subst h;exact b
theorem A2{α:Type}{l:List α}{K:α->List α->Option R}{a:α}{t:List α}(h:l=a::t)(b:K a t=r):Ad l K=r:=by subst h;exact b
theorem Bl{α:Type}{l:List α}{K:Option R}(h:l=[])(a:K=r):Ah l K=r:=by subst h;exact a
theorem Kr{p:PV}{K:Ae->Option R}{c:Ae}(h:p=.agg c)(a:K c=r):Dr p K=r:=by subst h;exact a
theorem TW{p:PV}{K:Ae->Option R}{c:Ae}(h:p=.pbox c)(a:K c=r):FI p K=r:=by subst h;exact a
theorem A1{o:Option A8}{K:Ae->List Ae->Option R}{v:Ae}{q:List Ae}(h:o=some ⟨v,q⟩)(a:K v q=r):An o K=r:=by subst h;exact a
end
theorem SQ(a b:Int):(a != b)=decide (a≠b):=by by_cases h:a=b<;>simp[h,bne]
theorem Arw(a b:Int):(a==b)=decide (a=b):=by by_cases h:a=b<;>simp[h]
section
variable {R:Type}
theorem Zx(v:Ae)(o:List Ae)(K:Ae->List Ae->Option R):An (some ⟨v,o⟩) K=K v o:=by exact id rfl
theorem IY{α:Type}(K:Option R):Ah ([]:List α) K=K:=by exact id rfl
theorem Z1{α:Type}(a:α)(r:List α)(K:α->List α->Option R):Ad (a::r) K=K a r:=by exact id rfl
theorem MS(b:Bool)(K:Bool->Option R):Be (.sc (.bool b)) K=K b:=by exact id rfl
theorem Af6(s:ByteArray)(K:ByteArray->Option R):As (.sc (.string s)) K=K s:=by exact id rfl
theorem JD(k:IntKind)(n:Int)(K:Int->Option R):Bn k (.sc (.int k n)) K=K n:=by unfold Bn;simp
theorem Azp(k:IntKind)(n:Int)(K:IntKind->Int->Option R):Et (.sc (.int k n)) K=K k n:=by exact id rfl
theorem A4e(z:Bool)(es n:Nat)(c:Ae)(K:Bool->Nat->Ae->Option R):FF es (.lst z es n c) K=K z n c:=by unfold FF;simp
theorem A4j(es n:Nat)(c:Ae)(K:Nat->Ae->Option R):Na es (.own es n c) K=K n c:=by unfold Na;simp
theorem Aua(c:Ae)(K:Ae->Option R):Dr (.agg c) K=K c:=by exact id rfl
theorem Aoc(c:Ae)(K:Ae->Option R):FI (.pbox c) K=K c:=by exact id rfl
theorem Av8{α:Type}(a:α)(K:α->Option R):Dj (some a) K=K a:=by exact id rfl
theorem Fv{α:Type}(a:α)(K:α->Option R):Aa a K=K a:=by exact id rfl
theorem Aww(K:Option R):Aw true K=K:=by exact id rfl
theorem KR(p:Prop)[Decidable p](K:Option R)(h:p):Aw (decide p) K=K:=by simp[Aw,h]
theorem Aen(b c:Bool)(K:Option R):Aw (b&&c) K=Aw b (Aw c K):=by cases b<;>rfl
theorem Aec(x y:Option R):Aq true x y=x:=by exact id rfl
theorem Aeu(x y:Option R):Aq false x y=y:=by exact id rfl
theorem EY(p:Prop)[Decidable p](x y:Option R)(h:p):Aq (decide p) x y=x:=by simp[Aq,h]
theorem Fd(p:Prop)[Decidable p](x y:Option R)(h:¬p):Aq (decide p) x y=y:=by simp[Aq,h]
theorem IK(p:Prop)[Decidable p](x y:Option R):Aq (decide p) x y=if p then x else y:=by by_cases h:p<;>simp[Aq,h]
theorem UC(b:Bool)(x y:Option R):Aq b x y=if b=true then x else y:=by cases b<;>rfl
theorem Aex(b:Bool)(x y:Option R):Aq (!b) x y=Aq b y x:=by cases b<;>rfl
theorem Hx(a b:Int)(x y:Option R):Aq (a==b) x y=if a=b then x else y:=by rw[Arw,IK]
theorem D8(a b:Int)(x y:Option R):Aq (a != b) x y=if a=b then y else x:=by rw[SQ,IK];by_cases h:a=b<;>simp[h]
theorem Aot(x:Option R):RR x x=x:=by unfold RR;simp
end
theorem E0{x:Int}(a: -9223372036854775808<=x)(b:x<=9223372036854775807):IntKind.wrap .i64 x=x:=by have:=IntWalk.i64_in x Ω;exact this
theorem XA{x:Int}(a:0<=x)(b:x<=18446744073709551615):IntKind.wrap .u64 x=x:=by simp only[IntKind.wrap,IntKind.signed,IntKind.bits];simp;omega
theorem I8{x:Int}(a:0<=x)(b:x<=255):IntKind.wrap .u8 x=x:=by simp only[IntKind.wrap,IntKind.signed,IntKind.bits];simp;omega
theorem Vk(x:Int):0<=IntKind.wrap .u64 x/\IntKind.wrap .u64 x<=18446744073709551615:=by simp only[IntKind.wrap,IntKind.signed,IntKind.bits];simp;omega
theorem IG{c:Prop}[Decidable c](k:IntKind)(a b:Int)(o:List Ae):(if c then some (A8.mk [.sc (.int k a)] o) else some (A8.mk [.sc (.int k b)] o))=some (A8.mk [.sc (.int k (if c then a else b))] o):=by split<;>rfl
theorem Cl{α:Type}{l r:List α}{x:α}{i:Nat}(h:l.drop i=x::r):i<l.length/\l[i]?=some x/\l.drop (i+1)=r:=by
 have a:i<l.length:=by
  rcases Jt i l.length with a|a
  ·exact a
  ·rw[List.drop_of_length_le a] at h;cases h
 rw[List.drop_eq_getElem_cons a] at h;injection h with b c;exact⟨a,by rw[List.getElem?_eq_getElem a,b],c⟩
theorem drop_nil{α:Type}{l:List α}{i:Nat}(h:l.drop i=[]):l.length<=i:=by have:=congrArg List.length h;simp at this;omega
section
variable {α:Type}{f:α->Ae}{k:Nat}
theorem Auj(a:∀x,(f x).length=k):∀(l:List α),(l.flatMap f).length=l.length*k
 |[]=>Ψ
 |x::l=>by simp[a x,Auj a l,Nat.succ_mul];omega
theorem Afy(a:∀x,(f x).length=k):∀(l:List α)(i:Nat),(l.flatMap f).drop (i*k)=(l.drop i).flatMap f
 |l,0=>Ψ
 |[],i+1=>Ψ
 |x::l,i+1=>by
  rw[L6,Nat.succ_mul,Nat.add_comm,<-List.drop_drop,List.drop_append_of_le_length (by rw[a x];omega)]
  rw[show (f x).drop k=[] from List.drop_of_length_le (by rw[a x];omega),Zzq]
  exact Afy a l i
theorem Aor(a:∀x,(f x).length=k):∀(l:List α)(i:Nat),(l.flatMap f).take (i*k)=(l.take i).flatMap f
 |l,0=>Ψ
 |[],i+1=>Ψ
 |x::l,i+1=>by
  rw[L6,Nat.succ_mul,Nat.add_comm,List.take_succ_cons,L6,<-Aor a l i];rw[show k+i*k=(f x).length+i*k by rw[a x],List.take_length_add_append]
theorem Aow(b:∀x,(f x).length=k){l:List α}{i:Nat}{x:α}(h:l[i]?=some x){j:Nat}(d:j<k):(l.flatMap f).getD (i*k+j) .top=(f x).getD j .top:=by
 have a:((l.flatMap f).drop (i*k))[j]?=(l.flatMap f)[i*k+j]?:=List.getElem?_drop;rw[Afy b] at a
 have c:i<l.length:=by
  rcases Jt i l.length with a|a
  ·exact a
  ·rw[List.getElem?_eq_none a] at h;cases h
 rw[List.drop_eq_getElem_cons c,L6] at a;have e:l[i]=x:=by rw[List.getElem?_eq_getElem c] at h;injection h
 rw[e,List.getElem?_append_left (by rw[b x];exact d)] at a
 simp only[List.getD_eq_getElem?_getD,<-a]
theorem Mr{c:Ae}{p:PV}{i:Nat}(h:i<c.length):B1 c [p] i=c.set i p:=by unfold B1;rw[List.set_eq_take_append_cons_drop,Bq h];simp
end
theorem A7q{α:Type}{l:List α}{i:Nat}{x:α}(h:l[i]?=some x):i<l.length:=by
 rcases Jt i l.length with a|a
 ·exact a
 ·rw[List.getElem?_eq_none a] at h;cases h
abbrev A7p(k:IntKind)(n:Int):Ae:=[.sc (.int k n)]
abbrev Af(k:IntKind)(l:Ak):Ae:=l.flatMap (A7p k)
theorem NN(k:IntKind)(n:Int):(A7p k n).length=1:=rfl
theorem Sr{k:IntKind}{l:Ak}{i:Nat}{n:Int}(h:l[i]?=some n):(Af k l).getD i .top=.sc (.int k n):=by
 have:=Aow (NN k) h (j:=0) Ω
 simpa using this
theorem Am(k:IntKind)(l:Ak):(Af k l).length=l.length:=by rw[Auj (NN k)];omega
theorem Mh(k:IntKind)(l:Ak)(n:Int):Af k l++[.sc (.int k n)]=Af k (l++[n]):=Ψ
theorem PH(k:IntKind)(l:Ak):List.take l.length (Af k l)=Af k l:=Jo (by rw[Am];omega)
theorem Av:type_of% @Zx/\type_of% @IY/\type_of% @Z1/\type_of% @MS/\type_of% @Af6/\type_of% @JD/\type_of% @Azp/\type_of% @A4e/\type_of% @A4j/\type_of% @Aua/\type_of% @Aoc/\type_of% @Av8/\type_of% @Fv/\type_of% @Aww/\type_of% @KR/\type_of% @Aen/\type_of% @Aec/\type_of% @Aeu/\type_of% @EY/\type_of% @Fd/\type_of% @Aot/\type_of% @Bool.not_true/\type_of% @Bool.not_false/\type_of% @Bool.false_eq_true/\type_of% @if_true.{1}/\type_of% @if_false.{1}/\type_of% @Bool.true_and/\type_of% @Bool.and_true/\type_of% @Bool.false_and/\type_of% @Bool.and_false/\type_of% @decide_true/\type_of% @decide_false:=
 ⟨@Zx,@IY,@Z1,@MS,@Af6,@JD,@Azp,@A4e,@A4j,@Aua,@Aoc,@Av8,@Fv,@Aww,@KR,@Aen,@Aec,@Aeu,@EY,@Fd,@Aot,@Bool.not_true,@Bool.not_false,@Bool.false_eq_true,@if_true.{1},@if_false.{1},@Bool.true_and,@Bool.and_true,@Bool.false_and,@Bool.and_false,@decide_true,@decide_false⟩
theorem gT:type_of% @Bool.and_eq_true/\type_of% @decide_eq_true_eq/\type_of% @beq_iff_eq.{0}/\type_of% @bne_iff_ne.{0}/\type_of% @ne_eq.{1}/\type_of% @Bool.not_eq_true'/\type_of% @true_and/\type_of% @and_true:=
 ⟨@Bool.and_eq_true,@decide_eq_true_eq,@beq_iff_eq.{0},@bne_iff_ne.{0},@ne_eq.{1},@Bool.not_eq_true',@true_and,@and_true⟩
theorem gF:type_of% @decide_eq_false_iff_not/\type_of% @beq_eq_false_iff_ne.{0}/\type_of% @bne_eq_false_iff_eq.{0}/\type_of% @ne_eq.{1}/\type_of% @Bool.not_eq_false':=
 ⟨@decide_eq_false_iff_not,@beq_eq_false_iff_ne.{0},@bne_eq_false_iff_eq.{0},@ne_eq.{1},@Bool.not_eq_false'⟩
section
open Go.RowKit
def Bv{α β:Type}(R:α->β->Prop):List α->List β->Prop
 |[],[]=>True
 |a::c,b::bs=>R a b/\Bv R c bs
 |_,_=>False
section
variable {α β γ:Type}{R S:α->β->Prop}
theorem Bv.len:∀{a:List α}{bs:List β},Bv R a bs->a.length=bs.length
 |[],[],_=>rfl
 |_::_,_::_,h=>by simp[Bv.len h.2]
 |[],_::_,h=>h.elim
 |_::_,[],h=>h.elim
theorem Bv.at_:∀{e:List α}{bs:List β},Bv R e bs->∀{i:Nat} {a b},e[i]?=some a->bs[i]?=some b->R a b
 |[],[],_,i,a,b,h,_=>by simp at h
 |_::_,_::_,h,0,a,b,c,d=>by simp at c d;subst c;subst d;exact h.1
 |_::_,_::_,h,i+1,a,b,c,d=>by simp at c d;exact Bv.at_ h.2 c d
 |[],_::_,h,_,_,_,_,_=>h.elim
 |_::_,[],h,_,_,_,_,_=>h.elim
theorem Bv.of_at:∀{d:List α}{bs:List β},d.length=bs.length->(∀(i:Nat) a b,d[i]?=some a->bs[i]?=some b->R a b)->Bv R d bs
 |[],[],_,_=>trivial
 |a::d,b::bs,c,h=>⟨h 0 a b rfl rfl,Bv.of_at (by simpa using c) λi x y e f=>h (i+1) x y e f⟩
 |[],_::_,c,_=>by simp at c
 |_::_,[],c,_=>by simp at c
theorem Bv.mono(c:∀a b,R a b->S a b):∀{d:List α}{bs:List β},Bv R d bs->Bv S d bs
 |[],[],_=>trivial
 |_::_,_::_,h=>⟨c _ _ h.1,Bv.mono c h.2⟩
 |[],_::_,h=>h.elim
 |_::_,[],h=>h.elim
theorem Bv.mono_mem:∀{d:List α}{bs:List β},(∀a∈d,∀b,R a b->S a b)->Bv R d bs->Bv S d bs
 |[],[],_,_=>trivial
 |a::_,_::_,c,h=>⟨c a Ψ _ h.1,Bv.mono_mem (λx e=>c x (by simp[e])) h.2⟩
 |[],_::_,_,h=>h.elim
 |_::_,[],_,h=>h.elim
theorem Bv.app:∀{d:List α}{bs:List β}{a:List α}{b:List β},Bv R d bs->Bv R a b->Bv R (d++a) (bs++b)
 |[],[],_,_,_,c=>c
 |_::_,_::_,_,_,h,c=>⟨h.1,Bv.app h.2 c⟩
 |[],_::_,_,_,h,_=>h.elim
 |_::_,[],_,_,h,_=>h.elim
theorem Bv.take:∀(n:Nat){a:List α}{bs:List β},Bv R a bs->Bv R (a.take n) (bs.take n)
 |0,_,_,_=>by simp[Bv]
 |_+1,[],[],_=>trivial
 |n+1,_::_,_::_,h=>⟨h.1,Bv.take n h.2⟩
 |_+1,[],_::_,h=>h.elim
 |_+1,_::_,[],h=>h.elim
theorem Bv.drop:∀(n:Nat){a:List α}{bs:List β},Bv R a bs->Bv R (a.drop n) (bs.drop n)
 |0,_,_,h=>h
 |_+1,[],[],_=>trivial
 |n+1,_::_,_::_,h=>Bv.drop n h.2
 |_+1,[],_::_,h=>h.elim
 |_+1,_::_,[],h=>h.elim
end
inductive A9(w:World)(A:Nat->Prop):PV->Value->Prop where
 |sc (v:Value):A9 w A (.sc v) v
 |top (v:Value):A9 w A .top v
 |ub (b:Bool):A9 w A .ub (.bool b)
 |lnil (z:Bool) (es:Nat):A9 w A (.lst z es 0 []) (.slice none 0 0)
 |lemp (es:Nat) (a:Addr) (cap:Nat):A9 w A (.lst false es 0 []) (.slice (some a) 0 cap)
 |lst (es n:Nat) (cells:Ae) (a:Addr) (cap:Nat) (f:Nat->Value) (hs:a.spot=none) (hb:a.block<w.heap.size) (hA:¬A a.block) (hn:n<=cap)
   (hc:∀j c,cells[j]?=some c->w.cell? (a.add j)=some (f j)) (h1:∀j c,cells[j]?=some c->(f j).oneCell'=true) (hr:∀j c,cells[j]?=some c->A9 w A c (f j)):A9 w A (.lst false es n cells) (.slice (some a) n cap)
def bsz(w:World)(b:Nat):Nat:=
 match w.heap[b]? with
 |some (.cells c _ _)=>c.size
 |_=>0
def Ai7(w:World)(b:Nat):Bool:=w.frozen? ⟨b,bsz w b,none⟩
def Fit(w:World)(es b e:Nat):Prop:=e<=bsz w b/\(es=1\/Ai7 w b=false)
def Ku(w w':World)(b:Nat):Prop:=bsz w b<=bsz w' b/\(Ai7 w b=false->Ai7 w' b=false)
theorem Ku.refl(w:World)(b:Nat):Ku w w b:=⟨Cg _,id⟩
theorem Ku.same{w w':World}{b:Nat}(h:w'.heap[b]?=w.heap[b]?):Ku w w' b:=by
 have e:bsz w' b=bsz w b:=by unfold bsz;rw[h]
 refine⟨by rw[e];exact Cg _,λq=>?_⟩
 unfold Ai7 at q ⊢;rw[e];unfold World.frozen? at q ⊢;simp only[h];exact q
theorem Ku.trans{w w' w'':World}{b:Nat}(h:Ku w w' b)(a:Ku w' w'' b):Ku w w'' b:=⟨Nat.le_trans h.1 a.1,λq=>a.2 (h.2 q)⟩
theorem Fit.step{w w':World}{es b e:Nat}(h:Fit w es b e)(a:Ku w w' b):Fit w' es b e:=⟨Nat.le_trans h.1 a.1,h.2.imp id a.2⟩
def RdT(w:World)(A:Nat->Prop)(a:Addr)(cells:Ae):Prop:=∀j c,cells[j]?=some c->∃v,w.cell? (a.add j)=some v/\v.oneCell'=true/\A9 w A c v
def Cp(w:World)(A:Nat->Prop)(β:Nat->Option (Nat × Nat))(p:PV)(v:Value):Prop:=
 match p with
 |.view id es off n=>(β id=none/\off=0/\n=0/\∃ad,v=.slice ad 0 0) \/
   ∃b o x d,β id=some (b,o)/\v=.slice (some ⟨b,x,none⟩) n d/\(x=o+off\/(n=0/\off≠0))/\n<=d/\Fit w es b (x+d*es)/\b<w.heap.size
 |.ptr id off=>∃b o,β id=some (b,o)/\v=.pointer (some ⟨b,o+off,none⟩)
 |.iptr c off=>∃a:Addr,v=.pointer (some (a.add off))/\a.spot=none/\a.block<w.heap.size/\¬A a.block/\RdT w A a c
 |p=>A9 w A p v
def Ll(w:World)(A:Nat->Prop)(β:Nat->Option (Nat × Nat))(p:PV)(v:Value):Prop:=
 match p with
 |.agg b=>∃a,v=.agg ⟨a⟩/\Bv (Cp w A β) b a
 |p=>Cp w A β p v
def F9(w:World)(A:Nat->Prop)(β:Nat->Option (Nat × Nat))(p:PV)(v:Value):Prop:=
 match p with
 |.tup ps=>∃a,v=.tuple ⟨a⟩/\Bv (Ll w A β) ps a
 |p=>Ll w A β p v
structure Cy(A:Nat->Prop)(w w':World):Prop where
 size:w.heap.size<=w'.heap.size
 keep:∀b,b<w.heap.size->¬A b->w'.heap[b]?=w.heap[b]?
 bs:∀b,b<w.heap.size->Ku w w' b
theorem G5(a:Addr)(j:Nat):(a.add j).block=a.block:=by unfold Addr.add;split<;>rfl
theorem add_add(a:Addr)(i j:Nat):(a.add i).add j=a.add (i+j):=by unfold Addr.add;by_cases hi:i=0<;>by_cases b:j=0<;>simp[hi,b,R1]
theorem Gk(b o j:Nat):(⟨b,o,none⟩:Addr).add j=⟨b,o+j,none⟩:=by unfold Addr.add;by_cases a:j=0<;>simp[a]
theorem Aye{a:Addr}(h:a.spot=none)(j:Nat):(a.add j).spot=none:=by unfold Addr.add;split<;>simp[h]
section
variable {w w':World}{A A':Nat->Prop}{β β':Nat->Option (Nat × Nat)}
theorem Cy.cell(h:Cy A w w'){a:Addr}(b:a.block<w.heap.size)(c:¬A a.block):w'.cell? a=w.cell? a:=
 World.cell?_of_block (h.keep a.block b c)
theorem A9.step(h:Cy A w w')(k:∀b,b<w.heap.size->A' b->A b){p:PV}{v:Value}(t:A9 w A p v):A9 w' A' p v:=by
 induction t with
 |sc v=>exact .sc v
 |top v=>exact .top v
 |ub b=>exact .ub b
 |lnil z es=>exact .lnil z es
 |lemp es a d=>exact .lemp es a d
 |lst es n cells a d f l g e m o q s r=>
  refine .lst es n cells a d f l (H2 g h.size) (λx=>e (k _ g x)) m (λj c i=>?_) q (λj c i=>r j c i);rw[h.cell (by rw[G5];exact g) (by rw[G5];exact e)]
  exact o j c i
theorem RdT.step(h:Cy A w w')(d:∀b,b<w.heap.size->A' b->A b){a:Addr}(e:a.block<w.heap.size)(f:¬A a.block){cells:Ae}(t:RdT w A a cells):RdT w' A' a cells:=by intro j c g;obtain⟨v,i,k,ht⟩:=t j c g;exact⟨v,by rw[h.cell (by rw[G5];exact e) (by rw[G5];exact f)];exact i,k,ht.step h d⟩
theorem Cp.step(h:Cy A w w')(d:∀b,b<w.heap.size->A' b->A b){p:PV}{v:Value}(m:∀id∈A3 p,β' id=β id)(t:Cp w A β p v):Cp w' A' β' p v:=by
 cases p with
 |view id es off n=>
  have e:=m id (by simp[A3]);rcases t with⟨f,g,i,j⟩|⟨b,o,x,l,f,g,q,i,j,k⟩
  ·exact .inl ⟨by rw[e];exact f,g,i,j⟩
  ·exact .inr ⟨b,o,x,l,by rw[e];exact f,g,q,i,j.step (h.bs b k),H2 k h.size⟩
 |ptr id off=>
  have e:=m id (by simp[A3]);obtain⟨b,o,f,g⟩:=t;exact⟨b,o,by rw[e];exact f,g⟩
 |iptr c off=>
  obtain⟨a,f,g,i,j,k⟩:=t;exact⟨a,f,g,H2 i h.size,λx=>j (d _ i x),k.step h d i j⟩
 |sc v=>exact A9.step h d t
 |lst z es n c=>exact A9.step h d t
 |own es n c=>exact A9.step h d t
 |pbox c=>exact A9.step h d t
 |agg c=>exact A9.step h d t
 |tup c=>exact A9.step h d t
 |top=>exact A9.step h d t
 |ub=>exact A9.step h d t
theorem Ll.step(h:Cy A w w')(a:∀b,b<w.heap.size->A' b->A b){p:PV}{v:Value}(d:∀id∈C8 p,β' id=β id)(t:Ll w A β p v):Ll w' A' β' p v:=by
 cases p with
 |agg k=>
  obtain⟨e,rfl,f⟩:=t;exact⟨e,rfl,f.mono_mem λc g v i=>i.step h a λid j=>d id (by simp only[C8,List.mem_flatMap];exact⟨c,g,j⟩)⟩
 |sc x=>exact Cp.step (p:=.sc x) h a d t
 |lst x y z u=>exact Cp.step (p:=.lst x y z u) h a d t
 |own x y z=>exact Cp.step (p:=.own x y z) h a d t
 |view x y z u=>exact Cp.step (p:=.view x y z u) h a d t
 |ptr x y=>exact Cp.step (p:=.ptr x y) h a d t
 |iptr x y=>exact Cp.step (p:=.iptr x y) h a d t
 |pbox x=>exact Cp.step (p:=.pbox x) h a d t
 |tup x=>exact Cp.step (p:=.tup x) h a d t
 |top=>exact Cp.step (p:=.top) h a d t
 |ub=>exact Cp.step (p:=.ub) h a d t
theorem F9.step(h:Cy A w w')(a:∀b,b<w.heap.size->A' b->A b){p:PV}{v:Value}(d:∀id∈Ck p,β' id=β id)(t:F9 w A β p v):F9 w' A' β' p v:=by
 cases p with
 |tup k=>
  obtain⟨e,rfl,f⟩:=t;exact⟨e,rfl,f.mono_mem λc g v i=>i.step h a λid j=>d id (by simp only[Ck,List.mem_flatMap];exact⟨c,g,j⟩)⟩
 |sc x=>exact Ll.step (p:=.sc x) h a d t
 |lst x y z u=>exact Ll.step (p:=.lst x y z u) h a d t
 |own x y z=>exact Ll.step (p:=.own x y z) h a d t
 |view x y z u=>exact Ll.step (p:=.view x y z u) h a d t
 |ptr x y=>exact Ll.step (p:=.ptr x y) h a d t
 |iptr x y=>exact Ll.step (p:=.iptr x y) h a d t
 |pbox x=>exact Ll.step (p:=.pbox x) h a d t
 |top=>exact Ll.step (p:=.top) h a d t
 |ub=>exact Ll.step (p:=.ub) h a d t
 |agg x=>exact Ll.step (p:=.agg x) h a d t
theorem Cy.refl(A:Nat->Prop)(w:World):Cy A w w:=⟨Cg _,λ_ _ _=>rfl,λ_ _=>Ku.refl _ _⟩
theorem RdT.weak(d:∀b,b<w.heap.size->A' b->A b){a:Addr}{cells:Ae}(t:RdT w A a cells):RdT w A' a cells:=by intro j c e;obtain⟨v,f,g,ht⟩:=t j c e;exact⟨v,f,g,ht.step (Cy.refl A w) d⟩
theorem Cy.trans{w'':World}(h:Cy A w w')(c:Cy A' w' w'')(e:∀b,b<w.heap.size->A' b->A b):Cy A w w'':=
  ⟨Nat.le_trans h.size c.size,λb a d=>(c.keep b (H2 a h.size) (λx=>d (e b a x))).trans (h.keep b a d),
   λb a=>(h.bs b a).trans (c.bs b (H2 a h.size))⟩
theorem Cy.weaken(h:Cy A w w')(c:∀b,b<w.heap.size->A b->A' b):Cy A' w w':=⟨h.size,λb a d=>h.keep b a (λx=>d (c b a x)),h.bs⟩
end
section
variable {R:Type}{r:R}
theorem F8{k:IntKind}{p:PV}{K:Int->Option R}(h:Bn k p K=some r):∃n,p=.sc (.int k n)/\K n=some r:=by
 unfold Bn at h;split at h
 ·split at h
  ·rename_i a;subst a;exact⟨_,rfl,h⟩
  ·cases h
 ·cases h
theorem Ex{p:PV}{K:Bool->Option R}(h:Be p K=some r):∃b,p=.sc (.bool b)/\K b=some r:=by
 unfold Be at h;split at h
 ·exact⟨_,rfl,h⟩
 ·cases h
theorem Ep{p:PV}{K:ByteArray->Option R}(h:As p K=some r):∃b,p=.sc (.string b)/\K b=some r:=by
 unfold As at h;split at h
 ·exact⟨_,rfl,h⟩
 ·cases h
theorem Ez{p:PV}{K:IntKind->Int->Option R}(h:Et p K=some r):∃k n,p=.sc (.int k n)/\K k n=some r:=by
 unfold Et at h;split at h
 ·exact⟨_,_,rfl,h⟩
 ·cases h
theorem Ay{b:Bool}{K:Option R}(h:Aw b K=some r):b=true/\K=some r:=by
 unfold Aw at h;cases b
 ·cases h
 ·exact⟨rfl,h⟩
theorem C6{α:Type}{o:Option α}{K:α->Option R}(h:Dj o K=some r):∃a,o=some a/\K a=some r:=by
 unfold Dj at h;split at h
 ·exact⟨_,rfl,h⟩
 ·cases h
theorem Bx{α:Type}{l:List α}{K:α->List α->Option R}(h:Ad l K=some r):∃a t,l=a::t/\K a t=some r:=by
 unfold Ad at h;split at h
 ·exact⟨_,_,rfl,h⟩
 ·cases h
theorem Ey{α:Type}{l:List α}{K:Option R}(h:Ah l K=some r):l=[]/\K=some r:=by
 unfold Ah at h;split at h
 ·exact⟨rfl,h⟩
 ·cases h
theorem Kt{p:PV}{K:Ae->Option R}(h:Dr p K=some r):∃c,p=.agg c/\K c=some r:=by
 unfold Dr at h;split at h
 ·exact⟨_,rfl,h⟩
 ·cases h
theorem Adg{p:PV}{K:Ae->Option R}(h:FI p K=some r):∃c,p=.pbox c/\K c=some r:=by
 unfold FI at h;split at h
 ·exact⟨_,rfl,h⟩
 ·cases h
theorem Ao4{p:PV}{K:Value->Option R}(h:fnK p K=some r):∃v,p=.sc v/\v.oneCell'=true/\K v=some r:=by
 unfold fnK at h;split at h
 ·exact⟨_,rfl,rfl,h⟩
 ·exact⟨_,rfl,rfl,h⟩
 ·cases h
theorem A1s{p:PV}{K:FuncId->Option R}(h:fvK p K=some r):∃f,p=.sc (.func (.func f) #[] #[])/\K f=some r:=by
 unfold fvK at h;split at h
 ·rename_i f a b;cases c:(a.isEmpty&&b.isEmpty)<;>rw[c] at h
  ·cases h
  ·simp only[Ge,Array.isEmpty_iff] at c;rw[c.1,c.2];exact⟨f,rfl,h⟩
 ·cases h
theorem Acv{o:Option A8}{K:Ae->List Ae->Option R}(h:An o K=some r):∃v x,o=some ⟨v,x⟩/\K v x=some r:=by
 unfold An at h;split at h
 ·exact⟨_,_,rfl,h⟩
 ·cases h
theorem S5{b:Bool}{x y:Option R}(h:Aq b x y=some r):(b=true/\x=some r)\/(b=false/\y=some r):=by
 unfold Aq at h;cases b
 ·exact .inr ⟨rfl,h⟩
 ·exact .inl ⟨rfl,h⟩
theorem I9{es:Nat}{p:PV}{K:Bool->Nat->Ae->Option R}(h:FF es p K=some r):
  ∃z n c,K z n c=some r/\(p=.lst z es n c\/(p=.sc (.slice none 0 0)/\z=true/\n=0/\c=[])):=by
 unfold FF at h;split at h
 ·rename_i z a n c;cases b:Nat.beq a es
  ·rw[b] at h;cases h
  ·rw[b] at h;have:=El b;subst this;exact⟨z,n,c,h,.inl rfl⟩
 ·exact⟨true,0,[],h,.inr ⟨rfl,rfl,rfl,rfl⟩⟩
 ·cases h
def HU:PV->Prop
 |.sc _=>True
 |.lst _ _ _ _=>True
 |_=>False
def isF:PV->Prop
 |.sc _=>True
 |.lst _ _ _ _=>True
 |.view _ _ _ _=>True
 |_=>False
theorem AD{c:PV}(h:HU c):isF c:=by cases c<;>first|trivial|exact h.elim
theorem Kw{c:PV}(h:HU c):A3 c=[]:=by cases c<;>first|rfl|exact h.elim
variable {w:World}{A:Nat->Prop}{β:Nat->Option (Nat × Nat)}
theorem Qn{c:PV}{v:Value}(h:HU c):Cp w A β c v↔A9 w A c v:=by cases c<;>first|exact Iff.rfl|exact h.elim
theorem MN{c:PV}{v:Value}(h:∀cs,c ≠ .agg cs):Ll w A β c v↔Cp w A β c v:=by cases c<;>first|exact Iff.rfl|exact absurd rfl (h _)
theorem Wi{c:PV}{v:Value}(h:∀cs,c ≠ .tup cs):F9 w A β c v↔Ll w A β c v:=by cases c<;>first|exact Iff.rfl|exact absurd rfl (h _)
theorem LP{c:PV}(h:HU c)(cs:Ae):c ≠ .agg cs:=by rintro rfl;exact h
theorem Aov{c:PV}(h:HU c)(cs:Ae):c ≠ .tup cs:=by rintro rfl;exact h
theorem A9.val{v u:Value}(h:A9 w A (.sc v) u):u=v:=by cases h;rfl
theorem IX{es n:Nat}{z:Bool}{c:Ae}{p:PV}{v:Value}(h:p=.lst z es n c\/(p=.sc (.slice none 0 0)/\z=true/\n=0/\c=[]))(a:Cp w A β p v):A9 w A (.lst z es n c) v:=by
 rcases h with rfl|⟨rfl,rfl,rfl,rfl⟩
 ·exact a
 ·have:=A9.val (w:=w) (A:=A) a;subst this;exact .lnil true es
theorem Sy{t:CT}{p:PV}{K:PV->Option R}(h:QI t p K=some r):
  ∃c,K c=some r/\HU c/\HU p/\∀(w:World) (A:Nat->Prop) (β:Nat->Option (Nat × Nat)) (v:Value),Cp w A β p v->A9 w A c v/\v.oneCell'=true:=by
 cases t with
 |int k=>obtain⟨n,rfl,b⟩:=F8 h;exact⟨_,b,trivial,trivial,λw A β v a=>⟨a,by have:=A9.val (w:=w) (A:=A) a;subst this;rfl⟩⟩
 |bool=>obtain⟨n,rfl,h⟩:=Ex h;exact⟨_,h,trivial,trivial,λw A β v a=>⟨a,by have:=A9.val (w:=w) (A:=A) a;subst this;rfl⟩⟩
 |str=>obtain⟨n,rfl,h⟩:=Ep h;exact⟨_,h,trivial,trivial,λw A β v a=>⟨a,by have:=A9.val (w:=w) (A:=A) a;subst this;rfl⟩⟩
 |sl es=>
  obtain⟨z,n,c,h,hp⟩:=I9 h;refine⟨_,h,trivial,?_,λw A β v a=>⟨IX hp a,?_⟩⟩
  ·rcases hp with rfl|⟨rfl,_⟩<;>trivial
  ·have ht:=IX hp a;cases ht<;>rfl
 |any=>
  obtain⟨u,rfl,d,b⟩:=Ao4 (show fnK p (λv=>K (.sc v))=some r from h);exact⟨_,b,trivial,trivial,λw A β v a=>⟨a,by have:=A9.val (w:=w) (A:=A) a;subst this;exact d⟩⟩
theorem A0a{t:CT}{p:PV}{K:PV->Option R}(h:fcK t p K=some r):
  ∃c,K c=some r/\(HU c\/c=p)/\isF p/\p ≠ .top/\(∀cs,c ≠ .agg cs)/\(∀cs,c ≠ .tup cs)/\(∀id,id∈A3 c->id∈A3 p)/\∀(w:World) (A:Nat->Prop) (β:Nat->Option (Nat × Nat)) (v:Value),Cp w A β p v->Cp w A β c v/\v.oneCell'=true:=by
 have tree:∀e,QI e p K=some r->∃c,K c=some r/\(HU c\/c=p)/\isF p/\p ≠ .top/\(∀cs,c ≠ .agg cs)/\(∀cs,c ≠ .tup cs)/\(∀id,id∈A3 c->id∈A3 p)/\∀(w:World) (A:Nat->Prop) (β:Nat->Option (Nat × Nat)) (v:Value),Cp w A β p v->Cp w A β c v/\v.oneCell'=true:=by
  intro e h;obtain⟨c,h,a,hp,f⟩:=Sy h;exact⟨c,h,.inl a,AD hp,by rintro rfl;exact hp,LP a,Aov a,by rw[Kw a];simp,λw A β v h=>⟨(Qn a).2 (f w A β v h).1,(f w A β v h).2⟩⟩
 cases t with
 |sl es=>
  unfold fcK fsK at h;dsimp only at h;split at h
  ·rename_i id b off n;cases d:Nat.beq b es
   ·rw[d] at h;cases h
   ·rw[d] at h;have:=El d;subst this;exact⟨_,h,.inr rfl,trivial,Ψ,Ψ,Ψ,λ_ h=>h,λ_ _ _ _ h=>⟨h,by rcases h with⟨_,_,_,_,rfl⟩|⟨_,_,_,_,_,rfl,_⟩<;>rfl⟩⟩
  ·exact tree (.sl es) h
 |int k=>exact tree (.int k) h
 |bool=>exact tree (.bool) h
 |str=>exact tree (.str) h
 |any=>exact tree (.any) h
theorem RK{cells:Ae}{i:Nat}{p:PV}(h:cells.getD i .top=p)(hp:p ≠ .top):cells[i]?=some p:=by
 rw[List.getD_eq_getElem?_getD] at h;cases a:cells[i]? with
 |none=>rw[a] at h;exact absurd h.symm hp
 |some q=>rw[a] at h;simp at h;rw[h]
theorem EC:∀{ts:List CT}{cells:Ae}{off:Nat}{K:Ae->Option R},CL ts cells off K=some r ->
  ∃cs,K cs=some r/\cs.length=ts.length/\∀j c,cs[j]?=some c->HU c/\∃p,cells[off+j]?=some p/\HU p /\
   ∀(w:World) (A:Nat->Prop) (β:Nat->Option (Nat × Nat)) (v:Value),Cp w A β p v->A9 w A c v/\v.oneCell'=true
 |[],_,_,_,h=>⟨[],h,rfl,λj c a=>by simp at a⟩
 |t::ts,cells,off,K,h=>by
  unfold CL at h;obtain⟨c,h,b,hp,d⟩:=Sy h;obtain⟨cs,h,f,UP⟩:=EC h;refine⟨c::cs,h,by simp[f],λj g a=>?_⟩;cases j with
  |zero=>
   simp at a;subst a;refine⟨b,cells.getD off .top,RK rfl ?_,hp,d⟩;intro e;rw[e] at hp;exact hp
  |succ j=>
   simp at a;have:=UP j g a
   rwa [Nat.add_right_comm,R1] at this
theorem DL:∀{ts:List CT}{cells:Ae}{off:Nat}{K:Ae->Option R},V5 ts cells off K=some r ->
  ∃cs,K cs=some r/\cs.length=ts.length/\(∀c∈cs,(∀x,c ≠ .agg x)/\(∀x,c ≠ .tup x))/\∀j c,cs[j]?=some c->∃p,cells[off+j]?=some p/\isF p/\(∀id,id∈A3 c->id∈A3 p) /\
   ∀(w:World) (A:Nat->Prop) (β:Nat->Option (Nat × Nat)) (v:Value),Cp w A β p v->Cp w A β c v/\v.oneCell'=true
 |[],_,_,_,h=>⟨[],h,rfl,Ψ,λj c a=>by simp at a⟩
 |t::ts,cells,off,K,h=>by
  unfold V5 at h;obtain⟨c,h,l,d,hp,e,ht,f,g⟩:=A0a h;obtain⟨cs,h,i,QM,UP⟩:=DL h;refine⟨c::cs,h,by simp[i],?_,λj k a=>?_⟩
  ·intro x b;rcases List.mem_cons.1 b with rfl|b
   ·exact⟨e,ht⟩
   ·exact QM x b
  ·cases j with
   |zero=>
    simp at a;subst a;exact⟨cells.getD off .top,RK rfl hp,d,f,g⟩
   |succ j=>
    simp at a;have:=UP j k a
    rwa [Nat.add_right_comm,R1] at this
theorem Aew{agg:Bool}{cells:Ae}{K:PV->Option R}(h:mkV agg cells K=some r):
  (agg=true/\K (.agg cells)=some r)\/(agg=false/\∃c,cells=[c]/\K c=some r):=by
 unfold mkV at h;cases agg
 ·obtain⟨c,t,rfl,h⟩:=Bx h;obtain⟨rfl,h⟩:=Ey h;exact .inr ⟨rfl,c,rfl,h⟩
 ·exact .inl ⟨rfl,h⟩
end
open Go.RowKit
def Eb(b:Option Cd):Prop:=
 match b with
 |some (.st _)=>True
 |some (.ar false _)=>True
 |_=>False
abbrev Bt:=Nat->Option (Nat × Nat)
def Xof(hp:Nat->Option Cd)(β:Bt)(b:Nat):Prop:=∃id o,Eb (hp id)/\β id=some (b,o)
def Ec(hp:Nat->Option Cd)(β:Bt)(Y:Nat->Prop)(b:Nat):Prop:=Xof hp β b\/Y b
def Z8(w:World)(A:Nat->Prop)(β:Bt)(id:Nat)(a:Cd):Prop:=
 match a with
 |.st cells=>∃b o,β id=some (b,o)/\(∀j c,cells[j]?=some c->∃v,w.cell? ⟨b,o+j,none⟩=some v/\Cp w A β c v)/\∀j,j<cells.length->w.frozen? ⟨b,o+j,none⟩=false
 |.ar fz cells=>(β id=none/\cells=[])\/∃b o,β id=some (b,o)/\RdT w A ⟨b,o,none⟩ cells/\(fz=false->∀j,o<=j->j<bsz w b->w.frozen? ⟨b,j,none⟩=false)/\(fz=true->¬A b)
 |.mv=>True
structure Lu where
 X:Nat->Prop
 L:Nat->Nat->Prop
 pn:Nat->Prop
 pt:Nat->Option (Nat × Nat)
 p8:∀i,pn i->i<8
def BR(a:Cd)(o j:Nat):Prop:=
 match a with
 |.st c=>o<=j/\j<o+c.length
 |.ar _ _=>o<=j
 |.mv=>False
structure Fr(X0:Lu)(w0 w:World):Prop where
 os:w.os=w0.os
 tape:w.tape=w0.tape
 output:w.output=w0.output
 step:Cy X0.X w0 w
 rng:∀b j,b<w0.heap.size->¬X0.L b j->w.cell? ⟨b,j,none⟩=w0.cell? ⟨b,j,none⟩/\w.frozen? ⟨b,j,none⟩=w0.frozen? ⟨b,j,none⟩
structure Dt(N:Nat)(w0:World)(X0:Lu)(Y:Nat->Prop)(β:Bt)(s:St)(a:Act)(w:World):Prop where
 dfr:a.defers=[]
 tsz:a.tmps.size=N
 tmo:∀i,N<=i->s.tm i=.top
 tms:∀i,i<N->F9 w (Ec s.hp β Y) β (s.tm i) (a.tmps.getD i undef)
 box:∀id b,s.hp id=some b->Z8 w (Ec s.hp β Y) β id b
 inj:∀id id' b o o',Eb (s.hp id)->Eb (s.hp id')->β id=some (b,o)->β id'=some (b,o')->id=id'
 blt:∀id b o,s.hp id≠none->β id=some (b,o)->b<w.heap.size
 wfT:∀i,i<N->∀id∈Ck (s.tm i),s.hp id≠none
 wfB:∀id cells,s.hp id=some (.st cells)->∀c∈cells,∀id'∈A3 c,s.hp id'≠none
 ownd:∀b,Xof s.hp β b->X0.X b\/w0.heap.size<=b
 rngB:∀id bx b o,s.hp id=some bx->Eb (some bx)->β id=some (b,o)->b<w0.heap.size->∀j,BR bx o j->X0.L b j
 pin:∀i,X0.pn i->s.hp (En N i)≠none/\β (En N i)=X0.pt i
 stp:∀id c b o,s.hp id=some (.st c)->β id=some (b,o)->b<w0.heap.size->∃i,id=En N i/\X0.pn i
 Yx:∀b,Y b->¬Xof s.hp β b
 Ylt:∀b,Y b->b<w0.heap.size
 fr:Fr X0 w0 w
theorem Dy{b:Option Cd}(h:Eb b):b≠none:=by rintro rfl;exact h
theorem Az{α:Type}(f:Nat->α)(i:Nat)(v:α):Dm f i v i=v:=by simp[Dm,Vr]
theorem At{α:Type}(f:Nat->α){i j:Nat}(v:α)(h:j≠i):Dm f i v j=f j:=by
 have:Nat.beq j i=false:=by
  cases a:Nat.beq j i
  ·rfl
  ·exact absurd (El a) h
 simp[Dm,this]
theorem MZ{α:Type}(f:Nat->α){i:Nat}{v:α}(h:f i=v):Dm f i v=f:=by
 funext j
 by_cases e:j=i
 ·subst e;rw[Az];exact h.symm
 ·exact At f v e
theorem Ah0{α:Type}(f:Nat->α){i j:Nat}(u v:α)(h:i≠j):Dm (Dm f i u) j v=Dm (Dm f j v) i u:=by
 funext k
 by_cases e:k=j
 ·subst e;rw[Az,At _ _ (Ne.symm h),Az]
 ·rw[At _ _ e];by_cases a:k=i
  ·subst a;rw[Az,Az]
  ·rw[At _ _ a,At _ _ a,At _ _ e]
theorem ZV{a:Act}{d:Nat}{v:Value}(h:d<a.tmps.size):(a.put (some d) v).tmps.getD d undef=v:=by simp[Act.put,h]
theorem YZ{a:Act}{d i:Nat}{v:Value}(h:i≠d):(a.put (some d) v).tmps.getD i undef=a.tmps.getD i undef:=by have b:d≠i:=λe=>h e.symm;simp[Act.put,Array.getElem?_setIfInBounds_ne b]
section
variable {N:Nat}{w0:World}{X0:Lu}{Y:Nat->Prop}{β β':Bt}{s:St}{a:Act}{w w':World}
theorem LH(d:Option Tmp)(v:Value):(a.put d v).tmps.size=a.tmps.size:=by cases d<;>simp[Act.put]
theorem Zs(d:Option Tmp)(v:Value):(a.put d v).defers=a.defers:=by cases d<;>rfl
theorem Zf{d:Option Tmp}(h:I5 N d=true){i:Nat}(e:d=some i):i<N:=by subst e;exact Nat.lt_of_succ_le (Zy h)
theorem Wx{Q:Nat->PV->Value->Prop}{tm:Nat->PV}{d:Option Tmp}{v:PV}{val:Value}(c:a.tmps.size=N)(hd:I5 N d=true)(h:∀i,i<N->Q i (tm i) (a.tmps.getD i undef))(b:∀i,Q i v val):∀i,i<N->Q i (Df tm d v i) ((a.put d val).tmps.getD i undef):=by
 intro i hi;cases d with
 |none=>exact h i hi
 |some d=>
  have Cs:=Zf hd rfl;by_cases e:i=d
  ·subst e;show Q i (Dm tm i v i) _;rw[Az,ZV Ω];exact b i
  ·show Q i (Dm tm d v i) _;rw[At _ _ e,YZ e];exact h i hi
theorem Afp{tm:Nat->PV}{d:Option Tmp}{v:PV}(hd:I5 N d=true)(h:∀i,N<=i->tm i=.top):∀i,N<=i->Df tm d v i=.top:=by
 intro i hi;cases d with
 |none=>exact h i hi
 |some d=>
  have:=Zf hd rfl;show Dm tm d v i=_;rw[At _ _ Ω];exact h i hi
theorem Dt.put(h:Dt N w0 X0 Y β s a w){d:Option Tmp}{v:PV}{val:Value}(hd:I5 N d=true)(b:F9 w (Ec s.hp β Y) β v val)(c:∀id∈Ck v,s.hp id≠none):
  Dt N w0 X0 Y β ⟨Df s.tm d v,s.hp⟩ (a.put d val) w where
 dfr:=by rw[Zs];exact h.dfr
 tsz:=by rw[LH];exact h.tsz
 tmo:=Afp hd h.tmo
 tms:=Wx (Q:=λ_ p u=>F9 w (Ec s.hp β Y) β p u) h.tsz hd h.tms (λ_=>b)
 box:=h.box
 inj:=h.inj
 blt:=h.blt
 wfT:=by
  have:=Wx (Q:=λ_ p _=>∀id∈Ck p,s.hp id≠none) (val:=val) h.tsz hd h.wfT (λ_=>c);exact this
 wfB:=h.wfB
 ownd:=h.ownd
 rngB:=h.rngB
 pin:=h.pin
 stp:=h.stp
 Yx:=h.Yx
 Ylt:=h.Ylt
 fr:=h.fr
theorem Cj(hp:Nat->Option Cd)(ids:B9)(i:Nat):Aj hp ids i=if i∈ids then (hp i).map DU else hp i:=by
 unfold Aj;by_cases hi:i∈ids
 ·have:ids.any (Nat.beq i)=true:=List.any_eq_true.2 ⟨i,hi,Vr i⟩;rw[this,Bq hi];rfl
 ·have:ids.any (Nat.beq i)=false:=by
   cases a:ids.any (Nat.beq i)
   ·rfl
   ·obtain⟨j,b,e⟩:=List.any_eq_true.1 a;exact absurd (El e ▸ b) hi
  rw[this,Bb hi];rfl
theorem Fl{hp:Nat->Option Cd}{ids:B9}{i:Nat}:Aj hp ids i=none↔hp i=none:=by rw[Cj];split<;>simp
theorem Wn{hp:Nat->Option Cd}{ids:B9}{i:Nat}(h:Eb (Aj hp ids i)):Eb (hp i):=by
 rw[Cj] at h;split at h
 ·cases a:hp i with
  |none=>rw[a] at h;exact h
  |some b=>cases b with
   |st c=>trivial
   |ar fz c=>rw[a] at h;exact h.elim
   |mv=>rw[a] at h;exact h
 ·exact h
theorem Nb{hp:Nat->Option Cd}{ids:B9}{i:Nat}{a:Cd}(h:Aj hp ids i=some a)(d:Eb (some a)):hp i=some a:=by
 rw[Cj] at h;split at h
 ·cases e:hp i with
  |none=>rw[e] at h;cases h
  |some b=>
   rw[e] at h;cases b with
   |st c=>exact h
   |ar fz c=>simp only[Option.map_some,DU,Option.some.injEq] at h;subst h;exact d.elim
   |mv=>simp only[Option.map_some,DU,Option.some.injEq] at h;subst h;exact d.elim
 ·exact h
theorem Y8{hp:Nat->Option Cd}{ids:B9}{b:Nat}(h:Xof (Aj hp ids) β b):Xof hp β b:=by obtain⟨id,o,a,c⟩:=h;exact⟨id,o,Wn a,c⟩
theorem Z8.step'{A A':Nat->Prop}{id:Nat}{a:Cd}(d:∀b,A' b->A b)(h:Z8 w A β id a):Z8 w A' β id a:=by
 have k:=Cy.refl A w;cases a with
 |st c=>
  obtain⟨b,o,f,g,i⟩:=h;exact⟨b,o,f,λj c l=>let ⟨v,m,n⟩:=g j c l;⟨v,m,n.step k (λb _=>d b) (λ_ _=>rfl)⟩,i⟩
 |ar fz c=>
  rcases h with h|⟨b,o,f,g,i,p⟩
  ·exact .inl h
  ·exact .inr ⟨b,o,f,g.weak (λb _=>d b),i,λe x=>p e (d b x)⟩
 |mv=>trivial
theorem Dt.freeze(h:Dt N w0 X0 Y β s a w){fz:B9}(QA:∀id∈fz,∃f c,s.hp id=some (.ar f c)):Dt N w0 X0 Y β ⟨s.tm,Aj s.hp fz⟩ a w:=by
 have q:∀b,Ec (Aj s.hp fz) β Y b->Ec s.hp β Y b:=λb d=>d.imp Y8 id
 refine⟨h.dfr,h.tsz,h.tmo,λi hi=>(h.tms i hi).step (Cy.refl _ _) (λb _=>q b) (λ_ _=>rfl),λid b d=>?_,λid j b o n l r=>h.inj id j b o n (Wn l) (Wn r),
  λid b o A=>h.blt id b o (λe=>A (Fl.2 e)),λi hi id t e=>h.wfT i hi id t (Fl.1 e),λid cells g c v j t e=>?_,λb d=>h.ownd b (Y8 d),
  λid C b o d k=>h.rngB id C b o (Nb d k) k,λi hi=>⟨λe=>(h.pin i hi).1 (Fl.1 e),(h.pin i hi).2⟩,λid c b o g=>h.stp id c b o (Nb g trivial),λb d x=>h.Yx b d (Y8 x),h.Ylt,h.fr⟩
 ·simp only at d;rw[Cj] at d;split at d
  ·rename_i p;obtain⟨f,c,g⟩:=QA id p;rw[g] at d;simp only[Option.map_some,DU,Option.some.injEq] at d;subst d;have Rs:=h.box id _ g;rcases Rs with Rs|⟨b,o,l,r,E,y⟩
   ·exact .inl Rs
   ·refine .inr ⟨b,o,l,r.weak (λb _=>q b),(λe=>by cases e),λ_ d=>?_⟩;rcases d with⟨j,n,k,d⟩|z
    ·have m:=Wn k;cases f with
     |true=>exact y rfl (.inl ⟨j,n,m,d⟩)
     |false=>
      have e:=h.inj j id b n o m (by rw[g];trivial) d l
      subst e;simp only at k;rw[Cj,Bq p,g] at k;exact k
    ·cases f with
     |true=>exact y rfl (.inr z)
     |false=>exact h.Yx b z ⟨id,o,by rw[g];trivial,l⟩
  ·exact (h.box id b d).step' q
 ·simp only at g;rw[Cj] at g;refine h.wfB id cells ?_ c v j t (Fl.1 e);split at g
  ·rename_i p;obtain⟨f,c,D⟩:=QA id p;rw[D] at g;cases g
  ·exact g
theorem B7:∀{nw:List (Nat × Cd)} {hp:Nat->Option Cd},Ch hp nw=true ->
  (∀id a,(id,a)∈nw->hp id=none)/\(∀id a d,(id,a)∈nw->(id,d)∈nw->a=d)
 |[],_,_=>⟨Ψ,Ψ⟩
 |(i,b)::r,hp,h=>by
  simp only[Ch,Ge,Option.isNone_iff_eq_none,Bool.not_eq_true'] at h;obtain⟨⟨j,f⟩,k⟩:=h;obtain⟨l,m⟩:=B7 k
  have g:∀a,(i,a) ∉ r:=by
   intro a c;have:r.any (λq=>Nat.beq q.1 i)=true:=List.any_eq_true.2 ⟨_,c,Vr i⟩;rw[this] at f;cases f
  refine⟨λid a c=>?_,λid a d c My=>?_⟩
  ·rcases List.mem_cons.1 c with e|c
   ·cases e;exact j
   ·exact l id a c
  ·rcases List.mem_cons.1 c with e|c
   ·cases e;rcases List.mem_cons.1 My with e|My
    ·cases e;rfl
    ·exact absurd My (g _)
   ·rcases List.mem_cons.1 My with e|My
    ·cases e;exact absurd c (g _)
    ·exact m id a d c My
theorem F4:∀{nw:List (Nat × Cd)} {hp:Nat->Option Cd},(∀id c a,(id,c)∈nw->(id,a)∈nw->c=a) ->
  (∀id c,(id,c)∈nw->A4 hp nw id=some c)/\(∀id,(∀c,(id,c) ∉ nw)->A4 hp nw id=hp id)
 |[],_,_=>⟨Ψ,λ_ _=>rfl⟩
 |(i,b)::r,hp,h=>by
  obtain⟨l,j⟩:=F4 (nw:=r) (hp:=Dm hp i (some b)) (λid c a d My=>h id c a (by simp[d]) (by simp[My]));refine⟨λid c d=>?_,λid k=>?_⟩
  ·by_cases f:∃a,(id,a)∈r
   ·obtain⟨a,f⟩:=f;have:=h id c a d (by simp[f]);subst this;exact l id c f
   ·rcases List.mem_cons.1 d with e|d
    ·cases e;show A4 (Dm hp i (some b)) r i=_;rw[j i (λa g=>f ⟨a,g⟩),Az]
    ·exact absurd ⟨c,d⟩ f
  ·show A4 (Dm hp i (some b)) r id=_;rw[j id (λc g=>k c (by simp[g])),At]
   rintro rfl
   exact k b Ψ
structure Abu(Y:Nat->Prop)(β:Bt)(s:St)(w:World)(v:PV)(nw:List (Nat × Cd))(val:Value)(w':World)(β':Bt):Prop where
 os:w'.os=w.os
 tape:w'.tape=w.tape
 output:w'.output=w.output
 ext:Cy (λ_=>False) w w'
 old:∀id,s.hp id≠none->β' id=β id
 nlive:∀id bx,(id,bx)∈nw->Eb (some bx)
 nbox:∀id bx,(id,bx)∈nw->Z8 w' (Ec (A4 s.hp nw) β' Y) β' id bx
 nblk:∀id bx b o,(id,bx)∈nw->β' id=some (b,o)->w.heap.size<=b/\b<w'.heap.size
 ninj:∀id bx id' bx' b o o',(id,bx)∈nw->(id',bx')∈nw->β' id=some (b,o)->β' id'=some (b,o')->id=id'
 nwf:∀id cells,(id,.st cells)∈nw->∀c∈cells,∀id'∈A3 c,s.hp id'≠none\/∃bx,(id',bx)∈nw
 val:F9 w' (Ec (A4 s.hp nw) β' Y) β' v val
 vwf:∀id∈Ck v,s.hp id≠none\/∃bx,(id,bx)∈nw
theorem Dt.stepR(h:Dt N w0 X0 Y β s a w){d:Option Tmp}{v:PV}{nw:List (Nat × Cd)}{val:Value}(hd:I5 N d=true)(Xd:Ch s.hp nw=true)(st:Abu Y β s w v nw val w' β'):Dt N w0 X0 Y β' ⟨Df s.tm d v,A4 s.hp nw⟩ (a.put d val) w':=by
 obtain⟨J,Zn⟩:=B7 Xd;obtain⟨E,K⟩:=F4 (hp:=s.hp) Zn
 have Kd:∀id,(∃k,(id,k)∈nw)\/A4 s.hp nw id=s.hp id:=λid=>by
  by_cases l:∃k,(id,k)∈nw
  ·exact .inl l
  ·exact .inr (K id λk f=>l ⟨k,f⟩)
 have Bcs:∀id,s.hp id≠none->A4 s.hp nw id=s.hp id:=λid z=>by
  rcases Kd id with⟨k,l⟩|e
  ·exact absurd (J id k l) z
  ·exact e
 have G:∀id,(s.hp id≠none\/∃k,(id,k)∈nw)->A4 s.hp nw id≠none:=by
  rintro id (z|⟨k,l⟩)
  ·rw[Bcs id z];exact z
  ·rw[E id k l];simp
 have A5f:∀b,b<w.heap.size->Xof (A4 s.hp nw) β' b->Xof s.hp β b:=by
  rintro b f ⟨id,o,m,q⟩
  rcases Kd id with⟨k,l⟩|e
  ·have:=(st.nblk id k b o l q).1;omega
  ·rw[e] at m;exact⟨id,o,m,by rw[<-st.old id (Dy m)];exact q⟩
 have Ap3:∀b,b<w.heap.size->Ec (A4 s.hp nw) β' Y b->Ec s.hp β Y b:=λb f T=>T.imp (A5f b f) id;have App:Cy (Ec s.hp β Y) w w':=st.ext.weaken (λ_ _ x=>x.elim);refine⟨by rw[Zs];exact h.dfr,by rw[LH];exact h.tsz,Afp hd h.tmo,?_,?_,?_,?_,?_,?_,?_,?_,?_,?_,?_,h.Ylt,?_⟩
 ·refine Wx (Q:=λ_ p u=>F9 w' (Ec (A4 s.hp nw) β' Y) β' p u) h.tsz hd (λi hi=>?_) (λ_=>st.val);exact (h.tms i hi).step App Ap3 λid y=>st.old id (h.wfT i hi id y)
 ·intro id b f;simp only at f;rcases Kd id with⟨k,l⟩|e
  ·rw[E id k l] at f;cases f;exact st.nbox id _ l
  ·rw[e] at f;have q:=st.old id (by rw[f];simp)
   have Rs:=h.box id b f;have Cs:=h.blt id;have R:s.hp id≠none:=by rw[f];simp
   cases b with
   |st c=>
    obtain⟨b,o,r,A,L⟩:=Rs;have C:=Cs b o R r;have Vm:=st.ext.keep b C (λx=>x);refine⟨b,o,by rw[q];exact r,λj c D=>?_,λj D=>?_⟩
    ·obtain⟨v,M,t⟩:=A j c D;refine⟨v,by rw[World.cell?_of_block (w:=w) Vm];exact M,t.step App Ap3 λg y=>st.old g ?_⟩
     exact h.wfB id _ f c (List.mem_of_getElem? D) g y
    ·rw[World.frozen?_of_block (w:=w) Vm];exact L j D
   |ar fz c=>
    rcases Rs with⟨r,A⟩|⟨b,o,r,A,L,U⟩
    ·exact .inl ⟨by rw[q];exact r,A⟩
    ·have C:=Cs b o R r;have Vm:=st.ext.keep b C (λx=>x);have O:bsz w' b=bsz w b:=by unfold bsz;rw[Vm]
     refine .inr ⟨b,o,by rw[q];exact r,λj c D=>?_,λe j D CR=>?_,λe x=>U e (Ap3 b C x)⟩
     ·obtain⟨v,M,V,t⟩:=A j c D;exact⟨v,by rw[World.cell?_of_block (w:=w) (by rw[G5];exact Vm)];exact M,V,t.step App Ap3⟩
     ·rw[World.frozen?_of_block (w:=w) Vm];exact L e j D (by rw[<-O];exact CR)
   |mv=>trivial
 ·intro id g b o I m Pq f C;simp only at m Pq;rcases Kd id with⟨k,l⟩|e
  ·rcases Kd g with⟨n,DT⟩|P
   ·exact st.ninj id k g n b o I l DT f C
   ·rw[P] at Pq;have r:=(st.nblk id k b o l f).1;have A:=h.blt g b I (Dy Pq) (by rw[<-st.old g (Dy Pq)];exact C)
    omega
  ·rw[e] at m;rcases Kd g with⟨n,DT⟩|P
   ·have r:=(st.nblk g n b I DT C).1;have A:=h.blt id b o (Dy m) (by rw[<-st.old id (Dy m)];exact f)
    omega
   ·rw[P] at Pq;exact h.inj id g b o I m Pq (by rw[<-st.old id (Dy m)];exact f) (by rw[<-st.old g (Dy Pq)];exact C)
 ·intro id b o z f;simp only at z;rcases Kd id with⟨k,l⟩|e
  ·exact (st.nblk id k b o l f).2
  ·rw[e] at z;exact H2 (h.blt id b o z (by rw[<-st.old id z];exact f)) st.ext.size
 ·have:=Wx (Q:=λ_ p _=>∀id∈Ck p,A4 s.hp nw id≠none) (val:=val) (d:=d) (v:=v) h.tsz hd (λi hi id y=>G id (.inl (h.wfT i hi id y))) (λ_ id y=>G id (st.vwf id y));exact this
 ·intro id cells t c H g y;simp only at t;rcases Kd id with⟨k,l⟩|e
  ·rw[E id k l] at t;cases t;exact G g (st.nwf id _ l c H g y)
  ·rw[e] at t;exact G g (.inl (h.wfB id cells t c H g y))
 ·rintro b ⟨id,o,m,f⟩
  simp only at m;rcases Kd id with⟨k,l⟩|e
  ·exact .inr (Nat.le_trans h.fr.step.size (st.nblk id k b o l f).1)
  ·rw[e] at m;exact h.ownd b ⟨id,o,m,by rw[<-st.old id (Dy m)];exact f⟩
 ·intro id k b o f m q Cs;simp only at f;rcases Kd id with⟨n,l⟩|e
  ·have:=(st.nblk id n b o l q).1;have:=h.fr.step.size;omega
  ·rw[e] at f;exact h.rngB id k b o f m (by rw[<-st.old id (by rw[f];simp)];exact q) Cs
 ·intro i hi;obtain⟨r,A⟩:=h.pin i hi;exact⟨G _ (.inl r),by rw[st.old _ r];exact A⟩
 ·intro id c b o f q Cs;simp only at f;rcases Kd id with⟨n,l⟩|e
  ·have:=(st.nblk id n b o l q).1;have:=h.fr.step.size;omega
  ·rw[e] at f;exact h.stp id c b o f (by rw[<-st.old id (by rw[f];simp)];exact q) Cs
 ·rintro b S W
  have f:b<w.heap.size:=H2 (h.Ylt b S) h.fr.step.size;exact h.Yx b S (A5f b f W)
 ·refine⟨st.os.trans h.fr.os,st.tape.trans h.fr.tape,st.output.trans h.fr.output,h.fr.step.trans st.ext (λ_ _ x=>x.elim),λb j f X=>?_⟩;have Vm:=st.ext.keep b (H2 f h.fr.step.size) (λx=>x);have t:w'.cell? ⟨b,j,none⟩=w.cell? ⟨b,j,none⟩:=World.cell?_of_block (w:=w) Vm;have Z:w'.frozen? ⟨b,j,none⟩=w.frozen? ⟨b,j,none⟩:=World.frozen?_of_block (w:=w) Vm;rw[t,Z];exact h.fr.rng b j f X
end
open Go.RowKit
section
variable {P:Program}{N:Nat}{w0:World}{X0:Lu}{Y:Nat->Prop}{β β':Bt}{s:St}{a:Act}{w w':World}{o:Oper}
theorem Aie(cs:List Value)(A:Nat->Prop):Bv (Cp w A β) (cs.map PV.sc) cs:=by
 induction cs with
 |nil=>trivial
 |cons v r a=>exact⟨A9.sc v,a⟩
theorem Alf(cs:List Value):(cs.map PV.sc).flatMap A3=[]:=by
 induction cs with
 |nil=>rfl
 |cons v r a=>exact a
theorem D4(h:Dt N w0 X0 Y β s a w)(x:Operand):F9 w (Ec s.hp β Y) β (Cw s.tm x) (a.eval x):=by
 cases x with
 |tmp t=>
  show F9 _ _ _ (s.tm t) (a.tmps.getD t undef);by_cases ht:t<N
  ·exact h.tms t ht
  ·rw[h.tmo t (Nat.le_of_not_lt ht)];exact A9.top _
 |const v=>
  cases v with
  |agg b=>exact⟨b.toList,by simp[Act.eval],Aie b.toList _⟩
  |_=>exact A9.sc _
 |func f=>exact A9.sc _
 |global g=>exact A9.sc _
theorem Hb(h:Dt N w0 X0 Y β s a w)(x:Operand):∀id∈Ck (Cw s.tm x),s.hp id≠none:=by
 cases x with
 |tmp t=>
  show ∀id∈Ck (s.tm t),_;by_cases ht:t<N
  ·exact h.wfT t ht
  ·rw[h.tmo t (Nat.le_of_not_lt ht)];intro id b;cases b
 |const v=>
  cases v with
  |agg c=>
   intro id b;have:Ck (.agg (c.toList.map .sc))=[]:=Alf c.toList;simp only[Cw] at b;rw[this] at b;cases b
  |_=>intro id b;cases b
 |func f=>intro id b;cases b
 |global g=>intro id b;cases b
theorem PC{A:Nat->Prop}{v u:Value}(h:F9 w A β (.sc v) u):u=v:=A9.val h
theorem Cv(h:Dt N w0 X0 Y β s a w){x:Operand}{v:Value}(e:Cw s.tm x=.sc v):a.eval x=v:=by have:=D4 h x;rw[e] at this;exact PC this
def F2(P:Program)(a:Act)(w:World)(o:Oper)(Y:Nat->Prop)(β:Bt)(s:St)(v:PV)(fz:B9)(nw:List (Nat × Cd)):Prop:=
 (∀id∈fz,∃f c,s.hp id=some (.ar f c))/\∃val w',(execOp a.eval o).run P w=.ok (.value val) w'/\(Ch s.hp nw=true->∃β',Abu Y β ⟨s.tm,Aj s.hp fz⟩ w v nw val w' β')
theorem Anr{v:PV}{val:Value}(a:F9 w (Ec s.hp β Y) β v val)(b:∀id∈Ck v,s.hp id≠none):Abu Y β s w v [] val w β:=
 ⟨rfl,rfl,rfl,Cy.refl _ _,λ_ _=>rfl,Ψ,Ψ,Ψ,Ψ,Ψ,a,λid c=>.inl (b id c)⟩
theorem Cr{v:PV}{val:Value}(Dn:(execOp a.eval o).run P w=.ok (.value val) w)(b:F9 w (Ec s.hp β Y) β v val)(c:∀id∈Ck v,s.hp id≠none):F2 P a w o Y β s v [] []:=
 ⟨Ψ,val,w,Dn,λ_=>⟨β,Anr (s:=⟨s.tm,Aj s.hp []⟩) b c⟩⟩
theorem Dd{v:Value}(Dn:(execOp a.eval o).run P w=.ok (.value v) w):F2 P a w o Y β s (.sc v) [] []:=Cr Dn (A9.sc v) (by intro id b;cases b)
structure I2(w w':World)(c:Array Value)(e:TypeId):Prop where
 os:w'.os=w.os
 tape:w'.tape=w.tape
 output:w'.output=w.output
 old:∀b,b<w.heap.size->w'.heap[b]?=w.heap[b]?
 size:w'.heap.size=w.heap.size+1
 new:∃fz:Nat × Nat,w'.heap[w.heap.size]?=some (.cells c e fz)/\(fz.1=fz.2\/c.size<=fz.1)
theorem I2.alloc(w:World)(c:Array Value)(e:TypeId):I2 w (w.alloc (.cells c e)) c e:=
 ⟨rfl,rfl,rfl,λb a=>Below.heap_alloc w _ b a,by show (w.heap.push _).size=_;simp,(0,0),by show (w.heap.push _)[w.heap.size]?=_;simp,.inl rfl⟩
theorem I2.drew{c:Array Value}{e:TypeId}(h:I2 w w' c e):I2 w w'.drew c e:=⟨h.os,h.tape,h.output,h.old,h.size,h.new⟩
section
variable {c:Array Value}{e:TypeId}
theorem I2.step(h:I2 w w' c e):Cy (λ_=>False) w w':=
 ⟨by rw[h.size];omega,λb a _=>h.old b a,λb a=>Ku.same (h.old b a)⟩
theorem I2.cell(h:I2 w w' c e)(j:Nat):w'.cell? ⟨w.heap.size,j,none⟩=c[j]?:=by obtain⟨fz,a,_⟩:=h.new;simp[World.cell?,a]
theorem I2.frozen(h:I2 w w' c e){j:Nat}(d:j<c.size):w'.frozen? ⟨w.heap.size,j,none⟩=false:=by obtain⟨fz,b,a⟩:=h.new;simp only[World.frozen?,b];rcases a with a|a<;>simp<;>omega
theorem Pp(w:World)(c:Array Value)(e:TypeId):Ai7 (w.alloc (.cells c e)) w.heap.size=false:=by
 unfold Ai7 World.frozen?;have:(w.alloc (.cells c e)).heap[w.heap.size]?=some (.cells c e (0,0)):=by show (w.heap.push _)[w.heap.size]?=_;simp
 simp only[this];simp
theorem I2.bsz(h:I2 w w' c e):bsz w' w.heap.size=c.size:=by obtain⟨fz,a,_⟩:=h.new;simp[Pv.bsz,a]
end
theorem Yy{c:Array Value}{e:TypeId}{d:Nat}{g:Cd}{v:PV}{val:Value}(i:I2 w w' c e)(hd:s.hp d=none)(n:Eb (some g))(Rs:Z8 w' (Ec (Dm s.hp d (some g)) (Dm β d (some (w.heap.size,0))) Y) (Dm β d (some (w.heap.size,0))) d g)(j:∀cells,g=.st cells->∀x∈cells,∀f∈A3 x,s.hp f≠none)(o:F9 w' (Ec (Dm s.hp d (some g)) (Dm β d (some (w.heap.size,0))) Y) (Dm β d (some (w.heap.size,0))) v val)(k:∀id∈Ck v,s.hp id≠none\/id=d):Abu Y β s w v [(d,g)] val w' (Dm β d (some (w.heap.size,0))) where
 os:=i.os
 tape:=i.tape
 output:=i.output
 ext:=i.step
 old:=λid p=>At _ _ (by rintro rfl;exact p hd)
 nlive:=by intro id b a;simp at a;obtain⟨rfl,rfl⟩:=a;exact n
 nbox:=by intro id b a;simp at a;obtain⟨rfl,rfl⟩:=a;exact Rs
 nblk:=by
  intro id b x y a m;simp at a;obtain⟨rfl,rfl⟩:=a;rw[Az] at m;simp at m;have:=i.size;omega
 ninj:=by intro id b f r x y z a My _ _;simp at a My;rw[a.1,My.1]
 nwf:=by intro id cells a x q f l;simp at a;exact .inl (j cells a.2.symm x q f l)
 val:=o
 vwf:=by
  intro id l;rcases k id l with h|rfl
  ·exact .inl h
  ·exact .inr ⟨g,Ψ⟩
theorem Aom{c:Array Value}{e:TypeId}(a:I2 w w' c e){A A':Nat->Prop}(d:∀b,b<w.heap.size->A' b->A b){cells:Ae}(h:∀(j:Nat) p,cells[j]?=some p->∃v,c[j]?=some v/\v.oneCell'=true/\A9 w A p v):RdT w' A' ⟨w.heap.size,0,none⟩ cells:=by intro j p f;obtain⟨v,g,i,ht⟩:=h j p f;exact⟨v,by rw[Gk,Ka,a.cell];exact g,i,ht.step (a.step.weaken (λ_ _ x=>x.elim)) d⟩
theorem Aos{d:Nat}{f:Cd}(g:s.hp d=none):∀b,b<w.heap.size->Ec (Dm s.hp d (some f)) (Dm β d (some (w.heap.size,0))) Y b->Ec s.hp β Y b:=by
 intro b j h;rcases h with⟨id,o,c,a⟩|i
 ·by_cases e:id=d
  ·subst e;rw[Az] at a;simp at a;omega
  ·rw[At _ _ e] at c a;exact .inl ⟨id,o,c,a⟩
 ·exact .inr i
theorem Yi{c:Array Value}{e:TypeId}{d:Nat}{cells:Ae}{fz:B9}{v:PV}{val:Value}(QA:∀id∈fz,∃f c,s.hp id=some (.ar f c))(Dn:(execOp a.eval o).run P w=.ok (.value val) w')(b:I2 w w' c e)(l:∀(j:Nat) p,cells[j]?=some p->∃u,c[j]?=some u/\u.oneCell'=true/\A9 w (Ec (Aj s.hp fz) β Y) p u)(h:(v=.ptr d 0/\val=.pointer (some ⟨w.heap.size,0,none⟩))\/∃es n cap,v=.view d es 0 n/\val=.slice (some ⟨w.heap.size,0,none⟩) n cap/\n<=cap/\cap*es<=c.size/\(es=1\/Ai7 w' w.heap.size=false)):
  F2 P a w o Y β s v fz [(d,.ar false cells)]:=by
 refine⟨QA,val,w',Dn,λXd=>⟨Dm β d (some (w.heap.size,0)),?_⟩⟩;have hd:s.hp d=none:=(B7 Xd).1 d (.ar false cells) Ψ;have g:Aj s.hp fz d=none:=Fl.2 hd;refine Yy (s:=⟨s.tm,Aj s.hp fz⟩) b g trivial ?_ (λcells m=>by cases m) ?_ ?_
 ·refine .inr ⟨w.heap.size,0,Az _ _ _,?_,λ_ j _ i=>?_,(λx=>by cases x)⟩
  ·exact Aom b (Aos (s:=⟨s.tm,Aj s.hp fz⟩) g) l
  ·rw[b.bsz] at i;exact b.frozen i
 ·rcases h with⟨rfl,rfl⟩|⟨es,n,cap,rfl,rfl,q,MV,Sw⟩
  ·exact⟨w.heap.size,0,Az _ _ _,rfl⟩
  ·exact .inr ⟨w.heap.size,0,0,cap,Az _ _ _,rfl,.inl rfl,q,⟨by rw[b.bsz];omega,Sw⟩,by rw[b.size];omega⟩
 ·intro id k;rcases h with⟨rfl,_⟩|⟨es,n,cap,rfl,_⟩<;>(simp[Ck,C8,A3] at k;exact .inr k)
theorem Aa2{c:Array Value}{e:TypeId}{d:Nat}{cells:Ae}(Dn:(execOp a.eval o).run P w=.ok (.value (.pointer (some ⟨w.heap.size,0,none⟩))) w')(f:I2 w w' c e)(m:∀(j:Nat) p,cells[j]?=some p->∃u,c[j]?=some u/\Cp w (Ec s.hp β Y) β p u)(n:∀x∈cells,∀id∈A3 x,s.hp id≠none):
  F2 P a w o Y β s (.ptr d 0) [] [(d,.st cells)]:=by
 refine⟨Ψ,_,w',Dn,λXd=>⟨Dm β d (some (w.heap.size,0)),?_⟩⟩;have hd:s.hp d=none:=(B7 Xd).1 d (.st cells) Ψ;refine Yy (s:=⟨s.tm,Aj s.hp []⟩) f hd trivial ?_ (λq k x l id b=>?_) ?_ ?_
 ·refine⟨w.heap.size,0,Az _ _ _,λj p g=>?_,λj g=>?_⟩
  ·obtain⟨u,i,hp⟩:=m j p g;refine⟨u,by rw[Ka,f.cell];exact i,hp.step (f.step.weaken (λ_ _ x=>x.elim)) (Aos (s:=⟨s.tm,Aj s.hp []⟩) hd) λid b=>At _ _ ?_⟩
   rintro rfl
   exact n p (List.mem_of_getElem? g) id b hd
  ·rw[Ka];obtain⟨u,i,_⟩:=m j _ (List.getElem?_eq_getElem g)
   exact f.frozen (by
    rcases Jt j c.size with h|h
    ·exact h
    ·rw[Array.getElem?_eq_none h] at i;cases i)
 ·injection k with k;subst k;exact n x l id b
 ·exact⟨w.heap.size,0,Az _ _ _,rfl⟩
 ·intro id b;simp[Ck,C8,A3] at b;exact .inr b
end
open Go.RowKit
section
variable {R:Type}{r:R}{P:Program}{N:Nat}{w0:World}{X0:Lu}{Y:Nat->Prop}{β β':Bt}{s:St}{a:Act}{w w':World}{o:Oper}
theorem Ps{t:TypeId}{n:Nat}(h:(P.info? t).map (·.size)=some n)(w:World):(sizeOf t).run P w=.ok n w:=by
 cases hi:P.info? t with
 |none=>rw[hi] at h;cases h
 |some i=>rw[hi] at h;simp at h;simp[sizeOf,typeInfo,hi,h]
theorem At8{t:TypeId}{n:Nat}(h:Bs P t=n)(a:0<n):(P.info? t).map (·.size)=some n:=by
 unfold Bs at h;cases hi:(P.info? t).map (·.size) with
 |none=>rw[hi] at h;simp at h;omega
 |some i=>rw[hi] at h;simp at h;rw[h]
theorem Tr{t:TypeId}{d:TypeDesc}(h:P.underlying t=some d)(w:World):(isAgg t).run P w=.ok (Cm P t) w:=by unfold isAgg Cm;rw[h];simp only[Sem.run_bind,run_underlying h,Result.andThen_ok];cases d<;>rfl
theorem Apj{t:TypeId}{v:Value}{K:PV->Option R}(h:cvK P t v K=some r):∃p,K p=some r/\Ck p=[]/\∀(w:World)(A:Nat->Prop)(β:Bt),F9 w A β p v:=by
 have sc:∀v:Value,K (.sc v)=some r->∃p,K p=some r/\Ck p=[]/\∀(w:World) (A:Nat->Prop) (β:Bt),F9 w A β p v:=λv h=>⟨_,h,rfl,λw A β=>A9.sc v⟩;unfold cvK at h;split at h
 ·rename_i f;obtain⟨a,h⟩:=Ay h;obtain⟨B,h,b,e⟩:=EC h;have a:=El a;refine⟨_,h,?_,λw A β=>⟨f.toList,Ψ,?_⟩⟩
  ·show B.flatMap A3=[];rw[List.flatMap_eq_nil_iff];intro c d;obtain⟨j,g⟩:=List.mem_iff_getElem?.1 d;exact Kw (e j c g).1
  ·refine Bv.of_at (by rw[b,a]) λi c u d k=>?_;obtain⟨l,p,hp,_,PG⟩:=e i c d;refine (Qn l).2 (PG w A β u ?_).1;rw[Ka,List.getElem?_map,k] at hp;simp at hp;subst hp;exact A9.sc u
 ·split at h
  ·exact⟨_,h,rfl,λw A β=>A9.lnil true _⟩
  ·cases h
 ·exact sc _ h
theorem LR(h:Dt N w0 X0 Y β s a w){x:Operand}(Dn:(execOp a.eval o).run P w=.ok (.value (a.eval x)) w){K:PV->Option R}(b:PW P o.type s.tm x K=some r):
  ∃v,K v=some r/\F2 P a w o Y β s v [] []:=by
 have dflt:K (Cw s.tm x)=some r->∃v,K v=some r/\F2 P a w o Y β s v [] []:=λb=>⟨_,b,Cr Dn (D4 h x) (Hb h x)⟩;cases x with
 |const v=>
  obtain⟨p,b,c,d⟩:=Apj b;exact⟨p,b,Cr Dn (d _ _ _) (by rw[c];simp)⟩
 |tmp t=>exact dflt b
 |func f=>exact dflt b
 |global g=>exact dflt b
theorem Aqu{x:Operand}(b:o.op=.move x):(execOp a.eval o).run P w=.ok (.value (a.eval x)) w:=by unfold execOp;rw[b];rfl
theorem Ajs{x:Operand}(b:o.op=.assign x):(execOp a.eval o).run P w=.ok (.value (a.eval x)) w:=by unfold execOp;rw[b];rfl
theorem Amy(h:Dt N w0 X0 Y β s a w){c x y:Operand}(e:o.op=.pick c x y){K:PV->Option R}(d:(Be (Cw s.tm c) λt=>Aq t (K (Cw s.tm x)) (K (Cw s.tm y)))=some r):
  ∃v,K v=some r/\F2 P a w o Y β s v [] []:=by
 obtain⟨b,g,d⟩:=Ex d;have f:=Cv h g;rcases S5 d with⟨rfl,d⟩|⟨rfl,d⟩
 ·exact⟨_,d,Cr (by unfold execOp;rw[e];simp[asBool,f]) (D4 h x) (Hb h x)⟩
 ·exact⟨_,d,Cr (by unfold execOp;rw[e];simp[asBool,f]) (D4 h y) (Hb h y)⟩
theorem Wv{t:TypeId}{K:Ae->Option R}(h:J3 P t K=some r):∃(v:Value)(cs:Ae),K cs=some r/\Xw P t=some v/\cs.length=(Lz P t).length/\cs.length=v.cells.toList.length/\cs.length=Bs P t /\
  ∀(j:Nat) c,cs[j]?=some c->HU c/\∃u,v.cells.toList[j]?=some u/\u.oneCell'=true/\∀(w:World) (A:Nat->Prop),A9 w A c u:=by
 unfold J3 at h;obtain⟨v,d,h⟩:=C6 h;obtain⟨a,h⟩:=Ay h;obtain⟨cs,h,So,e⟩:=EC h;simp only[Ge] at a;have WV:=El a.1
 have Tn:(Lz P t).length=Bs P t:=by
  have:=a.2;simp only[M6,Ge] at this;exact El this.2
 refine⟨v,cs,h,d,So,by rw[So,WV],by rw[So,Tn],λj c f=>?_⟩;obtain⟨g,p,hp,_,PG⟩:=e j c f;rw[Ka,List.getElem?_map] at hp;cases b:v.cells.toList[j]? with
 |none=>rw[b] at hp;cases hp
 |some u=>
  rw[b] at hp;simp at hp;subst hp;exact⟨g,u,rfl,(PG default (λ_=>False) (λ_=>none) u (A9.sc u)).2,λw A=>(PG w A (λ_=>none) u (A9.sc u)).1⟩
theorem HQ{t:TypeId}{v:Value}(h:Xw P t=some v)(w:World):(zeroValue t).run P w=.ok v w:=by
 unfold Xw at h;cases hi:P.info? t with
 |none=>rw[hi] at h;cases h
 |some i=>rw[hi] at h;simp at h;simp[zeroValue,typeInfo,hi,h]
theorem Akb{t:TypeId}(l:o.op=.alloc t){d:Nat}{K:PV->B9->List (Nat × Cd)->Option R}(c:(J3 P t λcs=>K (.ptr d 0) [] [(d,Av4 P t cs)])=some r):∃v fz nw,K v fz nw=some r/\F2 P a w o Y β s v fz nw:=by
 obtain⟨z,cs,c,m,_,y,_,e⟩:=Wv c
 have Dn:(execOp a.eval o).run P w=.ok (.value (.pointer (some ⟨w.heap.size,0,none⟩))) (w.alloc (.cells z.cells t)):=by
  unfold execOp;rw[l];simp[Instr.alloc,HQ m,newVar,newRow]
 have h:=I2.alloc w z.cells t;refine⟨_,_,_,c,?_⟩;unfold Av4;cases AB P t
 ·refine Aa2 Dn h (λj p b=>?_) λx n id i=>?_
  ·obtain⟨k,u,f,_,g⟩:=e j p b;exact⟨u,by simpa using f,(Qn k).2 (g _ _)⟩
  ·obtain⟨j,b⟩:=List.mem_iff_getElem?.1 n;rw[Kw (e j x b).1] at i;cases i
 ·refine Yi Ψ Dn h (λj p b=>?_) (.inl ⟨rfl,rfl⟩);obtain⟨k,u,f,q,g⟩:=e j p b;exact⟨u,by simpa using f,q,g _ _⟩
end
open Go.RowKit
section
variable {R:Type}{r:R}{P:Program}{N:Nat}{w0:World}{X0:Lu}{Y:Nat->Prop}{β β':Bt}{s:St}{a:Act}{w w':World}{o:Oper}{A:Nat->Prop}
theorem Ye{t:TypeId}(h:M6 P t=true):(∃d,P.underlying t=some d)/\(Lz P t).length=Bs P t/\(P.info? t).map (·.size)=some (Bs P t):=by
 simp only[M6,Ge] at h;refine⟨Option.isSome_iff_exists.1 h.1,El h.2,?_⟩;unfold Bs;cases hi:P.info? t with
 |none=>unfold Program.underlying at h;rw[hi] at h;cases h.1
 |some i=>simp
theorem Tt{v:Value}(h:v.oneCell'=true):v.cells = #[v]:=by cases v<;>first|rfl|cases h
theorem Aoy{p:PV}{v:Value}{ts:List CT}{K:Ae->Option R}(s:F9 w A β p v)(l:(cellsOf p).length=ts.length)(h:V5 ts (cellsOf p) 0 K=some r):
  ∃cs,K cs=some r/\cs.length=ts.length/\Bv (Cp w A β) cs v.cells.toList/\(∀u∈v.cells.toList,u.oneCell'=true)/\(∀c∈cs,∀id∈A3 c,id∈Ck p)/\∀c∈cs,(∀x,c ≠ .agg x)/\(∀x,c ≠ .tup x):=by
 obtain⟨cs,h,So,QM,k⟩:=DL h;refine⟨cs,h,So,?_⟩
 have single:(∀x,p ≠ .agg x)->cellsOf p=[p]:=by
  intro hp;cases p<;>first|rfl|exact absurd rfl (hp _)
 by_cases Il:∃x,p=.agg x
 ·obtain⟨x,rfl⟩:=Il;obtain⟨g,rfl,t⟩:=s;have Ef:cs.length=g.length:=by rw[So,<-l];exact t.len
  have j:∀(i:Nat) c u,cs[i]?=some c->g[i]?=some u->Cp w A β c u/\u.oneCell'=true:=by
   intro i c u f a;obtain⟨q,b,_,_,d⟩:=k i c f;rw[Ka] at b;exact d w A β u (t.at_ b a)
  refine⟨Bv.of_at Ef λi c u f a=>(j i c u f a).1,?_,?_,QM⟩
  ·intro u a;obtain⟨i,hi⟩:=List.mem_iff_getElem?.1 (show u∈g from a)
   have Cs:i<g.length:=by
    rcases Jt i g.length with h|h
    ·exact h
    ·rw[List.getElem?_eq_none h] at hi;cases hi
   exact (j i _ u (List.getElem?_eq_getElem Ω) hi).2
  ·intro c m id n;obtain⟨i,hi⟩:=List.mem_iff_getElem?.1 m;obtain⟨q,b,_,o,_⟩:=k i c hi;rw[Ka] at b;show id∈x.flatMap A3;exact List.mem_flatMap.2 ⟨q,List.mem_of_getElem? b,o id n⟩
 ·have hp:∀x,p ≠ .agg x:=λx e=>Il ⟨x,e⟩;rw[single hp] at l k;have WV:cs.length=1:=by rw[So,<-l];rfl
  match cs,WV with
  |[c],_=>
   obtain⟨q,b,z,o,d⟩:=k 0 c rfl;simp at b;subst b;have Yk:∀x,p ≠ .tup x:=by rintro x rfl;exact z
   have C:Cp w A β p v:=(MN hp).1 ((Wi Yk).1 s);obtain⟨D,y⟩:=d w A β v C;rw[Tt y];refine⟨⟨D,trivial⟩,?_,?_,QM⟩
   ·intro u a;simp at a;subst a;exact y
   ·intro E f id n;simp at f;subst f;have:=o id n;cases p<;>first|exact this|exact absurd rfl (hp _)|exact absurd rfl (Yk _)
end
open Go.RowKit
section
variable {R:Type}{r:R}{P:Program}{N:Nat}{w0:World}{X0:Lu}{Y:Nat->Prop}{β β':Bt}{s:St}{a:Act}{w w':World}{o:Oper}{A:Nat->Prop}
theorem Bv.get{α β':Type}{R':α->β'->Prop}{a:List α}{bs:List β'}(h:Bv R' a bs){i:Nat}{x:α}(b:a[i]?=some x):∃y,bs[i]?=some y/\R' x y:=by
 have Cs:i<a.length:=by
  rcases Jt i a.length with h|h
  ·exact h
  ·rw[List.getElem?_eq_none h] at b;cases b
 have c:bs[i]?=some (bs[i]'(by rw[<-h.len];exact Cs)):=List.getElem?_eq_getElem _
 exact⟨_,c,h.at_ b c⟩
theorem A1z{p:PV}{v:Value}{ts:List CT}{K:Ae->Option R}(m:F9 w A β p v)(j:(cellsOf p).length=ts.length)(h:CL ts (cellsOf p) 0 K=some r):
  ∃cs,K cs=some r/\cs.length=ts.length/\Bv (A9 w A) cs v.cells.toList/\∀u∈v.cells.toList,u.oneCell'=true:=by
 obtain⟨cs,h,So,k⟩:=EC h;refine⟨cs,h,So,?_⟩;by_cases Il:∃x,p=.agg x
 ·obtain⟨x,rfl⟩:=Il;obtain⟨d,rfl,n⟩:=m;have Ef:cs.length=d.length:=by rw[So,<-j];exact n.len
  have f:∀(i:Nat) c u,cs[i]?=some c->d[i]?=some u->A9 w A c u/\u.oneCell'=true:=by
   intro i c u l a;obtain⟨_,q,g,_,b⟩:=k i c l;rw[Ka] at g;exact b w A β u (n.at_ g a)
  refine⟨Bv.of_at Ef λi c u l a=>(f i c u l a).1,?_⟩;intro u a;obtain⟨i,hi⟩:=List.mem_iff_getElem?.1 (show u∈d from a)
  have Cs:i<d.length:=by
   rcases Jt i d.length with h|h
   ·exact h
   ·rw[List.getElem?_eq_none h] at hi;cases hi
  exact (f i _ u (List.getElem?_eq_getElem Ω) hi).2
 ·have hp:∀x,p ≠ .agg x:=λx e=>Il ⟨x,e⟩;have single:cellsOf p=[p]:=by cases p<;>first|rfl|exact absurd rfl (hp _)
  rw[single] at j k;have WV:cs.length=1:=by rw[So,<-j];rfl
  match cs,WV with
  |[c],_=>
   obtain⟨_,q,g,s,b⟩:=k 0 c rfl;simp at g;subst g;have Yk:∀x,p ≠ .tup x:=by rintro x rfl;exact s
   have t:Cp w A β p v:=(MN hp).1 ((Wi Yk).1 m);obtain⟨y,o⟩:=b w A β v t;rw[Tt o];exact⟨⟨y,trivial⟩,λu a=>by simp at a;subst a;exact o⟩
theorem Arn(h:Dt N w0 X0 Y β s a w){t:TypeId}{x:Operand}(m:o.op=.box t x){d:Nat}{K:PV->B9->List (Nat × Cd)->Option R}(b:(Aw (M6 P t&&Nat.beq (cellsOf (Cw s.tm x)).length (Lz P t).length)
      (bif AB P t then CL (Lz P t) (cellsOf (Cw s.tm x)) 0 λcs=>K (.ptr d 0) [] [(d,.ar false cs)]
       else V5 (Lz P t) (cellsOf (Cw s.tm x)) 0 λcs=>K (.ptr d 0) [] [(d,.st cs)]))=some r):∃v fz nw,K v fz nw=some r/\F2 P a w o Y β s v fz nw:=by
  obtain⟨e,b⟩:=Ay b
  simp only[Ge] at e
  have e:=El e.2
  have Dn:(execOp a.eval o).run P w=.ok (.value (.pointer (some ⟨w.heap.size,0,none⟩))) (w.alloc (.cells (a.eval x).cells t)):=by
    unfold execOp
    rw[m]
    simp[Instr.box,newVar,newRow]
  have k:=I2.alloc w (a.eval x).cells t
  cases l:AB P t
  · rw[l] at b
    obtain⟨cs,b,_,g,_,n,_⟩:=Aoy (D4 h x) e b
    refine⟨_,_,_,b,Aa2 Dn k (λj p i=>?_) λc q id y=>Hb h x id (n c q id y)⟩
    obtain⟨u,f,hp⟩:=g.get i
    exact⟨u,by simpa using f,hp⟩
  · rw[l] at b
    obtain⟨cs,b,_,g,z⟩:=A1z (D4 h x) e b
    refine⟨_,_,_,b,Yi Ψ Dn k (λj p i=>?_) (.inl ⟨rfl,rfl⟩)⟩
    obtain⟨u,f,hp⟩:=g.get i
    exact⟨u,by simpa using f,z u (List.mem_of_getElem? f),hp⟩
theorem Amn{c:PV}(a:∀x,c ≠ .agg x)(b:∀x,c ≠ .tup x):Ck c=A3 c:=by cases c<;>first|rfl|exact absurd rfl (a _)|exact absurd rfl (b _)
theorem KX{t:TypeId}{ad:Addr}{cs:Ae}{p:PV}(b:M6 P t=true)(Ef:cs.length=(Lz P t).length)(QM:∀c∈cs,(∀x,c ≠ .agg x)/\(∀x,c ≠ .tup x))(e:∀(j:Nat) c,cs[j]?=some c->∃v,w.cell? (ad.add j)=some v/\Cp w A β c v)(hp:(Cm P t=true/\p=.agg cs)\/(Cm P t=false/\cs=[p])):∃val,(loadVar t ad).run P w=.ok val w/\F9 w A β p val:=by
 obtain⟨⟨d,hd⟩,n,hi⟩:=Ye b;rcases hp with⟨Il,rfl⟩|⟨Il,rfl⟩
 ·have l:∀j,j<Bs P t->w.cell? (ad.add j)=some ((w.cell? (ad.add j)).getD undef):=by
   intro j o;obtain⟨v,a,_⟩:=e j _ (List.getElem?_eq_getElem Ω);rw[a];rfl
  refine⟨_,?_,(List.range (Bs P t)).map (λj=>(w.cell? (ad.add j)).getD undef),rfl,?_⟩
  ·simp only[loadVar,Sem.run_bind,Tr hd,Il,Result.andThen_ok,if_true,Ps hi,run_loadCells w ad (Bs P t) _ l];simp
  ·refine Bv.of_at (by simp;omega) λi c u f g=>?_
   obtain⟨v,a,SA⟩:=e i c f
   have Cs:i<Bs P t:=by
    rcases Jt i cs.length with h|h
    ·omega
    ·rw[List.getElem?_eq_none h] at f;cases f
   rw[List.getElem?_map,List.getElem?_range Cs] at g;simp[a] at g;subst g;exact SA
 ·obtain⟨v,a,SA⟩:=e 0 p rfl;have k:=QM p Ψ;have m:ad.add 0=ad:=by simp[Addr.add]
  rw[m] at a;refine⟨v,?_,(Wi k.2).2 ((MN k.1).2 SA)⟩;simp only[loadVar,Sem.run_bind,Tr hd,Il,Result.andThen_ok];simp[a]
theorem Ays{hp:Nat->Option Cd}{id:Nat}{c:Ae}(h:rd hp id=some c):hp id=some (.st c)\/∃f,hp id=some (.ar f c):=by
 unfold rd at h;split at h
 ·rename_i e;simp at h;subst h;exact .inl e
 ·rename_i f _ e;simp at h;subst h;exact .inr ⟨_,e⟩
 ·cases h
theorem Aeo{hp:Nat->Option Cd}{id:Nat}{c:Ae}(h:Om hp id=some c):∃f,hp id=some (.ar f c):=by
 unfold Om at h;split at h
 ·rename_i e;simp at h;subst h;exact⟨_,e⟩
 ·cases h
theorem VS(h:Dt N w0 X0 Y β s a w){id:Nat}{c:Ae}(g:rd s.hp id=some c){b ob:Nat}(i:β id=some (b,ob)){j:Nat}{p:PV}(m:c[j]?=some p):
  ∃v,w.cell? ⟨b,ob+j,none⟩=some v/\Cp w (Ec s.hp β Y) β p v:=by
 rcases Ays g with e|⟨f,e⟩
 ·obtain⟨q,r,d,k,_⟩:=h.box id _ e;rw[i] at d;simp at d;obtain⟨rfl,rfl⟩:=d;exact k j p m
 ·rcases h.box id _ e with⟨d,_⟩|⟨q,r,d,k,_⟩
  ·rw[i] at d;cases d
  ·rw[i] at d;simp at d;obtain⟨rfl,rfl⟩:=d
   obtain⟨v,o,_,ht⟩:=k j p m;rw[Gk] at o;refine⟨v,o,?_⟩;cases ht with
   |sc=>exact A9.sc _
   |top=>exact A9.top _
   |ub=>exact A9.ub _
   |lnil=>exact A9.lnil _ _
   |lemp=>exact A9.lemp _ _ _
   |lst es n cells a l f t e x y z d g=>exact A9.lst es n cells a l f t e x y z d g
theorem P7:∀{ts:List CT}{cells:Ae}{off:Nat}{K:Ae->Option R},CL ts cells off K=some r->V5 ts cells off K=some r
 |[],_,_,_,h=>h
 |.int k::ts,cells,off,K,h=>by
  obtain⟨n,hp,h⟩:=F8 (show Bn k (cells.getD off .top) _=some r from h);show Bn k _ _=_;rw[hp];simp only[Bn,if_true];exact P7 h
 |.bool::ts,cells,off,K,h=>by
  obtain⟨n,hp,h⟩:=Ex (show Be (cells.getD off .top) _=some r from h);show Be _ _=_;rw[hp];exact P7 h
 |.str::ts,cells,off,K,h=>by
  obtain⟨n,hp,h⟩:=Ep (show As (cells.getD off .top) _=some r from h);show As _ _=_;rw[hp];exact P7 h
 |.sl es::ts,cells,off,K,h=>by
  obtain⟨z,n,c,h,hp⟩:=I9 (show FF es (cells.getD off .top) _=some r from h);change fcK (.sl es) (cells.getD off .top) (λc=>V5 ts cells (off+1) λr=>K (c::r))=some r;unfold fcK;dsimp only;unfold fsK;rcases hp with hp|⟨hp,rfl,rfl,rfl⟩
  ·rw[hp];simp only[FF,Vr,cond_true];exact P7 h
  ·rw[hp];exact P7 h
 |.any::ts,cells,off,K,h=>by
  have a:∀v,CL ts cells (off+1) (λr=>K (.sc v::r))=some r->V5 ts cells (off+1) (λr=>K (.sc v::r))=some r:=λv h=>P7 h;have h:fnK (cells.getD off .top) (λv=>CL ts cells (off+1) λr=>K (.sc v::r))=some r:=h;show fnK (cells.getD off .top) (λv=>V5 ts cells (off+1) λr=>K (.sc v::r))=some r;unfold fnK at h ⊢;split at h
  ·rename_i e;exact a _ h
  ·exact a _ h
  ·cases h
theorem A9.unz{w:World}{A:Nat->Prop}{z:Bool}{es n:Nat}{c:Ae}{u:Value}(h:A9 w A (.lst z es n c) u):A9 w A (.lst false es n c) u:=by
 cases h with
 |lnil z es=>exact .lnil false es
 |lemp es a b=>exact .lemp es a b
 |lst es n c a b f d e g i j k l=>exact .lst es n c a b f d e g i j k l
theorem Ast{w:World}{A:Nat->Prop}{β:Bt}{p:PV}{u:Value}(h:Cp w A β p u):Cp w A β (Af8 p) u:=by
 cases p with
 |lst z es n c=>exact A9.unz h
 |_=>exact h
theorem Ams(p:PV):A3 (Af8 p)=A3 p:=by cases p<;>rfl
theorem Aa9{w:World}{A:Nat->Prop}{β:Bt}:∀{cs:Ae}{vs:List Value},Bv (Cp w A β) cs vs->Bv (Cp w A β) (cs.map Af8) vs
 |[],[],_=>trivial
 |_::_,_::_,h=>⟨Ast h.1,Aa9 h.2⟩
 |[],_::_,h=>h.elim
 |_::_,[],h=>h.elim
theorem Aq0{w:World}{A:Nat->Prop}{β:Bt}{p:PV}{u:Value}(h:F9 w A β p u):F9 w A β (Anz p) u:=by
 cases p with
 |agg a=>
  obtain⟨b,d,e⟩:=(show Ll w A β (.agg a) u from h)
  exact⟨b,d,Aa9 e⟩
 |lst z es n c=>exact A9.unz (show A9 w A (.lst z es n c) u from h)
 |_=>exact h
theorem Atk(p:PV):Ck (Anz p)=Ck p:=by
 cases p with
 |agg b=>
  show (b.map Af8).flatMap A3=b.flatMap A3
  induction b with
  |nil=>rfl
  |cons a l c=>rw[CZ,L6,L6,c,Ams]
 |_=>rfl
theorem A3c{nz:Bool}{hp:Nat->Option Cd}{t:TypeId}{x:PV}{K:PV->Option R}(h:NI nz P (rd hp) (Om hp) t x K=some r):
  JC P (rd hp) t x K=some r\/JC P (rd hp) t x (λv=>K (Anz v))=some r:=by
 have a:JC P (rd hp) t x K=some r\/JC P (rd hp) t x (λv=>K (bif nz then v else Anz v))=some r:=by
  unfold NI at h;unfold JC;split at h
  ·rename_i id off;obtain⟨b,h⟩:=Ay h;rw[b];show Dj _ _=_\/Dj _ _=_;split at h
   ·rename_i c d;obtain⟨f,Rs⟩:=Aeo d;have:rd hp id=some c:=by unfold rd;rw[Rs]
    rw[this];exact .inr (P7 h)
   ·exact .inl h
  ·exact .inr h
  ·cases h
 cases nz
 ·exact a
 ·exact .inl (a.elim id id)
theorem Ab8(h:Dt N w0 X0 Y β s a w){t:TypeId}{x:PV}{u:Value}(G:F9 w (Ec s.hp β Y) β x u){K:PV->Option R}(d:JC P (rd s.hp) t x K=some r):
  ∃v ad val,K v=some r/\u=.pointer (some ad)/\(loadVar t ad).run P w=.ok val w/\F9 w (Ec s.hp β Y) β v val/\∀i∈Ck v,s.hp i≠none:=by
 unfold JC at d;split at d
 ·rename_i id off;obtain⟨k,d⟩:=Ay d;obtain⟨c,D,d⟩:=C6 d;obtain⟨l,d,y,QM,m⟩:=DL d;obtain⟨b,I,H,Eo⟩:=G
  have Eu:∀(j:Nat) q,l[j]?=some q->∃v,w.cell? ((⟨b,I+off,none⟩:Addr).add j)=some v/\Cp w (Ec s.hp β Y) β q v:=by
   intro j q e;obtain⟨p,hp,_,_,PG⟩:=m j q e;obtain⟨v,g,SA⟩:=VS h D H hp;exact⟨v,by rw[Gk,R1];exact g,(PG _ _ _ _ SA).1⟩
  have HP:∀q∈l,∀i∈A3 q,s.hp i≠none:=by
   intro q e i hi;obtain⟨j,o⟩:=List.mem_iff_getElem?.1 e;obtain⟨p,hp,_,z,_⟩:=m j q o;rcases Ays D with C|⟨f,C⟩
   ·exact h.wfB id c C p (List.mem_of_getElem? hp) i (z i hi)
   ·obtain⟨v,g,SA⟩:=VS h D H hp;exfalso;have Ee:=z i hi;rcases h.box id _ C with⟨_,rfl⟩|⟨M,O,Q,J,_⟩
    ·simp at hp
    ·obtain⟨S,_,_,ht⟩:=J _ p hp;cases ht<;>cases Ee
  rcases Aew d with⟨Il,n⟩|⟨Il,q,rfl,n⟩
  ·obtain⟨val,LM,g⟩:=KX k y QM Eu (.inl ⟨Il,rfl⟩);refine⟨_,_,val,n,Eo,LM,g,λi hi=>?_⟩;obtain⟨q,e,hi⟩:=List.mem_flatMap.1 (show i∈l.flatMap A3 from hi);exact HP q e i hi
  ·obtain⟨val,LM,g⟩:=KX k y QM Eu (.inr ⟨Il,rfl⟩);refine⟨_,_,val,n,Eo,LM,g,λi hi=>HP q Ψ i ?_⟩;have A:=QM q Ψ;rw[Amn A.1 A.2] at hi;exact hi
 ·rename_i c off;obtain⟨k,d⟩:=Ay d;obtain⟨l,d,y,m⟩:=EC d;obtain⟨ad,Eo,T,C,U,E⟩:=G
  have QM:∀q∈l,(∀x,q ≠ .agg x)/\(∀x,q ≠ .tup x):=by
   intro q e;obtain⟨j,o⟩:=List.mem_iff_getElem?.1 e;exact⟨LP (m j q o).1,Aov (m j q o).1⟩
  have Eu:∀(j:Nat) q,l[j]?=some q->∃v,w.cell? ((ad.add off).add j)=some v/\Cp w (Ec s.hp β Y) β q v:=by
   intro j q e;obtain⟨L,p,hp,VJ,PG⟩:=m j q e;obtain⟨v,g,_,ht⟩:=E (off+j) p hp;exact⟨v,by rw[add_add];exact g,(Qn L).2 (PG w (Ec s.hp β Y) β v ((Qn VJ).2 ht)).1⟩
  have HP:∀q∈l,A3 q=[]:=by
   intro q e;obtain⟨j,o⟩:=List.mem_iff_getElem?.1 e;exact Kw (m j q o).1
  rcases Aew d with⟨Il,n⟩|⟨Il,q,rfl,n⟩
  ·obtain⟨val,LM,g⟩:=KX k y QM Eu (.inl ⟨Il,rfl⟩);refine⟨_,_,val,n,Eo,LM,g,λi hi=>?_⟩;obtain⟨q,e,hi⟩:=List.mem_flatMap.1 (show i∈l.flatMap A3 from hi);rw[HP q e] at hi;cases hi
  ·obtain⟨val,LM,g⟩:=KX k y QM Eu (.inr ⟨Il,rfl⟩);refine⟨_,_,val,n,Eo,LM,g,λi hi=>?_⟩;have A:=QM q Ψ;rw[Amn A.1 A.2,HP q Ψ] at hi;cases hi
 ·cases d
theorem Ah2(h:Dt N w0 X0 Y β s a w){t:TypeId}{x:PV}{u:Value}(c:F9 w (Ec s.hp β Y) β x u){nz:Bool}{K:PV->Option R}(b:NI nz P (rd s.hp) (Om s.hp) t x K=some r):
  ∃v ad val,K v=some r/\u=.pointer (some ad)/\(loadVar t ad).run P w=.ok val w/\F9 w (Ec s.hp β Y) β v val/\∀i∈Ck v,s.hp i≠none:=by
 rcases A3c b with b|b
 ·exact Ab8 h c b
 ·obtain⟨v,ad,val,d,e,f,g,j⟩:=Ab8 h c b;exact⟨Anz v,ad,val,d,e,f,Aq0 g,by rw[Atk];exact j⟩
theorem Ame(h:Dt N w0 X0 Y β s a w){t:TypeId}{x:Operand}(b:o.op=.load t x){nz:Bool}{K:PV->Option R}(c:NI nz P (rd s.hp) (Om s.hp) t (Cw s.tm x) K=some r):
  ∃v,K v=some r/\F2 P a w o Y β s v [] []:=by
 obtain⟨v,ad,val,Ft,Eo,d,e,f⟩:=Ah2 h (D4 h x) c;refine⟨v,Ft,Cr ?_ e f⟩;unfold execOp;rw[b];simp[Instr.loadAt,Instr.sureAddr,Eo,d]
theorem As7{x:PV}{d:Nat}{K:PV->Option R}(h:ET x d K=some r):(∃id off,x=.ptr id off/\K (.ptr id (off+d))=some r)\/∃c off,x=.iptr c off/\K (.iptr c (off+d))=some r:=by
 unfold ET at h;split at h
 ·exact .inl ⟨_,_,rfl,h⟩
 ·exact .inr ⟨_,_,rfl,h⟩
 ·cases h
theorem JE(h:Dt N w0 X0 Y β s a w){x:Operand}{d:Nat}{K:PV->Option R}(f:ET (Cw s.tm x) d K=some r)(Dn:∀ad:Addr,a.eval x=.pointer (some ad)->(execOp a.eval o).run P w=.ok (.value (.pointer (some (ad.add d)))) w):∃v,K v=some r/\F2 P a w o Y β s v [] []:=by
 have g:=D4 h x;have ZO:=Hb h x;rcases As7 f with⟨id,off,e,f⟩|⟨c,off,e,f⟩
 ·rw[e] at g ZO;obtain⟨b,j,k,Eo⟩:=g;refine⟨_,f,Cr (Dn _ Eo) ⟨b,j,k,by rw[Gk,R1]⟩ ZO⟩
 ·rw[e] at g;obtain⟨ad,Eo,l,m,n,p⟩:=g;exact⟨_,f,Cr (Dn _ Eo) ⟨ad,by rw[add_add],l,m,n,p⟩ (by intro i hi;cases hi)⟩
theorem YS(h:Dt N w0 X0 Y β s a w){x:Operand}(b:o.op=.nilCheck x){K:PV->Option R}(c:ET (Cw s.tm x) 0 K=some r):∃v,K v=some r/\F2 P a w o Y β s v [] []:=by refine JE h c λad Eo=>?_;unfold execOp;rw[b];simp[Eo,Addr.add]
theorem LN{t:TypeId}{f:Nat}{q:Nat × TypeId}(h:Yb P t f=some q):∃a g,P.underlying t=some (.struct a)/\a[f]?=some g/\q=(g.offset,g.type):=by
 unfold Yb at h;split at h
 ·rename_i a e;cases b:a[f]? with
  |none=>rw[b] at h;cases h
  |some g=>rw[b] at h;simp at h;exact⟨a,g,e,b,h.symm⟩
 ·cases h
theorem SO(h:Dt N w0 X0 Y β s a w){t:TypeId}{x:Operand}{f:Nat}(d:o.op=.fieldAddr t x f){K:PV->Option R}(b:(Dj (Yb P t f) λq=>Aw (Nat.ble 1 (Bs P q.2)) (ET (Cw s.tm x) q.1 K))=some r):∃v,K v=some r/\F2 P a w o Y β s v [] []:=by
 obtain⟨q,e,b⟩:=C6 b;obtain⟨c,b⟩:=Ay b;obtain⟨l,g,i,j,rfl⟩:=LN e;have c:1<=Bs P g.type:=Zy c;have Wh:=At8 (P:=P) (t:=g.type) rfl Ω;refine JE h b λad Eo=>?_;unfold execOp;rw[d];have k:¬Bs P g.type=0:=Ω
 simp[Instr.fieldAt,run_underlying i,j,Instr.sureAddr,Eo,fieldPlace,Ps Wh,k]
end
open Go.RowKit
section
variable {R:Type}{r:R}{P:Program}{N:Nat}{w0:World}{X0:Lu}{Y:Nat->Prop}{β β':Bt}{s:St}{a:Act}{w w':World}{o:Oper}{A:Nat->Prop}
theorem WA(h:Dt N w0 X0 Y β s a w){t:TypeId}{cs:Ae}{vs:List Value}{off:Nat}{K:PV->Option R}{x:Operand}(E:Cw s.tm x=.agg cs)(G:Bv (Cp w (Ec s.hp β Y) β) cs vs)(f:Aw (M6 P t) (V5 (Lz P t) cs off λc=>mkV (Cm P t) c K)=some r)(Dn:∀val,(part t ⟨vs⟩ off).run P w=.ok val w->(execOp a.eval o).run P w=.ok (.value val) w):∃v,K v=some r/\F2 P a w o Y β s v [] []:=by
 obtain⟨m,f⟩:=Ay f;obtain⟨⟨d,hd⟩,I,hi⟩:=Ye m;obtain⟨k,f,H,QM,A⟩:=DL f;have ZO:=Hb h x;rw[E] at ZO
 have Eu:∀(j:Nat) q,k[j]?=some q->∃v,vs[off+j]?=some v/\Cp w (Ec s.hp β Y) β q v:=by
  intro j q n;obtain⟨p,hp,_,_,PG⟩:=A j q n;obtain⟨v,b,g⟩:=G.get hp;exact⟨v,b,(PG _ _ _ _ g).1⟩
 have HP:∀q∈k,∀i∈A3 q,s.hp i≠none:=by
  intro q e i hi;obtain⟨j,n⟩:=List.mem_iff_getElem?.1 e;obtain⟨p,hp,_,y,_⟩:=A j q n;exact ZO i (List.mem_flatMap.2 ⟨p,List.mem_of_getElem? hp,y i hi⟩)
 rcases Aew f with⟨Il,z⟩|⟨Il,q,rfl,z⟩
 ·have IV:Bs P t=0\/off+Bs P t<=vs.length:=by
   rcases Nat.eq_zero_or_pos (Bs P t) with C|C
   ·exact .inl C
   ·obtain⟨v,b,_⟩:=Eu (Bs P t-1) _ (List.getElem?_eq_getElem Ω)
    have:off+(Bs P t-1)<vs.length:=by
     rcases Jt (off+(Bs P t-1)) vs.length with h|h
     ·exact h
     ·rw[List.getElem?_eq_none h] at b;cases b
    exact .inr Ω
  refine⟨_,z,Cr (Dn (.agg ⟨(vs.drop off).take (Bs P t)⟩) ?_) ⟨(vs.drop off).take (Bs P t),rfl,?_⟩ λi hi=>?_⟩
  ·simp only[part,Sem.run_bind,Tr hd,Il,Result.andThen_ok,if_true,Ps hi];simp[List.extract_eq_take_drop]
  ·refine Bv.of_at ?_ λi c u g D=>?_
   ·simp only[List.length_take,List.length_drop];omega
   ·obtain⟨v,b,SA⟩:=Eu i c g
    have Cs:i<Bs P t:=by
     rcases Jt i k.length with h|h
     ·omega
     ·rw[List.getElem?_eq_none h] at g;cases g
    rw[List.getElem?_take_of_lt Cs,List.getElem?_drop,b] at D;cases D;exact SA
  ·obtain⟨q,e,hi⟩:=List.mem_flatMap.1 (show i∈k.flatMap A3 from hi);exact HP q e i hi
 ·obtain⟨v,b,SA⟩:=Eu 0 q rfl;have l:=QM q Ψ;refine⟨_,z,Cr (Dn v ?_) ((Wi l.2).2 ((MN l.1).2 SA)) λi hi=>?_⟩
  ·simp only[part,Sem.run_bind,Tr hd,Il,Result.andThen_ok];rw[Zzr] at b;simp[b]
  ·rw[Amn l.1 l.2] at hi;exact HP q Ψ i hi
theorem Aj7(h:Dt N w0 X0 Y β s a w){t:TypeId}{x:Operand}{f:Nat}(j:o.op=.field t x f){K:PV->Option R}(b:(Dj (Yb P t f) λq=>Aw (M6 P q.2)<|Dr (Cw s.tm x) λcs=>V5 (Lz P q.2) cs q.1 λc=>mkV (Cm P q.2) c K)=some r):∃v,K v=some r/\F2 P a w o Y β s v [] []:=by
 obtain⟨q,k,b⟩:=C6 b;obtain⟨e,b⟩:=Ay b;obtain⟨cs,i,b⟩:=Kt b;obtain⟨p,g,l,m,rfl⟩:=LN k;have d:=D4 h x;rw[i] at d;obtain⟨y,Eo,n⟩:=d;refine WA (t:=g.type) (off:=g.offset) h i n (by rw[show M6 P g.type=true from e];exact b) λval hp=>?_
 unfold execOp;rw[j];simp[Instr.field,run_underlying l,m,asAgg,Eo,hp]
theorem ZY(h:Dt N w0 X0 Y β s a w){x:Operand}{i:Nat}(d:o.op=.extract x i){K:PV->Option R}(b:(match Cw s.tm x with | .tup vs=>Dj vs[i]? K|_=>none)=some r):∃v,K v=some r/\F2 P a w o Y β s v [] []:=by
 have c:=D4 h x;have ZO:=Hb h x;split at b
 ·rename_i ps e;rw[e] at c ZO;obtain⟨p,hp,b⟩:=C6 b;obtain⟨vs,Eo,f⟩:=c;obtain⟨v,g,PG⟩:=f.get hp
  have A5d:∀y,p ≠ .tup y:=by
   rintro y rfl
   have Bgg:A9 _ _ (.tup y) v:=PG;cases Bgg
  refine⟨p,b,Cr (val:=v) ?_ ((Wi A5d).2 PG) λid j=>ZO id ?_⟩
  ·unfold execOp;rw[d];simp[Instr.extract,Eo,g]
  ·refine List.mem_flatMap.2 ⟨p,List.mem_of_getElem? hp,?_⟩;cases p<;>first|exact j|exact absurd rfl (A5d _)
 ·cases b
theorem I7{es:Nat}{p:PV}{z:Bool}{n:Nat}{c:Ae}{v:Value}(hp:p=.lst z es n c\/(p=.sc (.slice none 0 0)/\z=true/\n=0/\c=[]))(b:F9 w A β p v):
  (v=.slice none 0 0/\n=0/\c=[])\/(∃ad cap,v=.slice (some ad) n cap/\z=false/\n<=cap/\ad.spot=none/\ad.block<w.heap.size/\¬A ad.block/\RdT w A ad c)\/∃ad cap,v=.slice (some ad) 0 cap/\z=false/\n=0/\c=[]:=by
 have d:Cp w A β p v:=by rcases hp with rfl|⟨rfl,_⟩<;>exact b
 have ht:=IX hp d;cases ht with
 |lnil=>exact .inl ⟨rfl,rfl,rfl⟩
 |lst _ _ _ ad cap f e g h i k l m=>exact .inr (.inl ⟨ad,cap,rfl,rfl,i,e,g,h,λj q a=>⟨f j,k j q a,l j q a,m j q a⟩⟩)
 |lemp _ ad cap=>exact .inr (.inr ⟨ad,cap,rfl,rfl,rfl,rfl⟩)
theorem SZ(h:Dt N w0 X0 Y β s a w){t:TypeId}{x i:Operand}(m:o.op=.indexAddr t x i){K:PV->Option R}(d:(Et (Cw s.tm i) λ_ n=>Pz P t (Cw s.tm x) n K)=some r):∃v,K v=some r/\F2 P a w o Y β s v [] []:=by
 obtain⟨M,n,hi,d⟩:=Ez d;have g:=Cv h hi;have p:=D4 h x;have ZO:=Hb h x;unfold Pz at d;split at d
 ·rename_i len e k;obtain⟨q,d⟩:=Ay d;obtain⟨f,d⟩:=Ay d;simp only[Ge,JI] at f;obtain⟨j,Xj⟩:=Option.isSome_iff_exists.1 q;refine JE h d λad Eo=>?_;unfold execOp;rw[m];simp[Instr.indexAt,asIntOf,g,Eo,run_underlying k,Instr.sureAddr,f.1,f.2,sizeOf,typeInfo,Xj,Bs]
 ·rename_i e k;obtain⟨q,d⟩:=Ay d;obtain⟨j,Xj⟩:=Option.isSome_iff_exists.1 q;have Wh:Bs P e=j.size:=by simp[Bs,Xj]
  split at d
  ·rename_i id es off D E;rw[E] at p ZO;obtain⟨CH,d⟩:=Ay d;have CH:=El CH;subst CH;obtain⟨f,d⟩:=Ay d;simp only[Ge,JI] at f;rcases p with⟨_,_,rfl,_⟩|⟨b,A,y,C,G,Eo,l,_⟩
   ·omega
   ·have l:y=A+off:=by rcases l with l|⟨rfl,_⟩<;>omega
    subst l;refine⟨_,d,Cr (val:=.pointer (some ⟨b,A+(off+n.toNat*Bs P e),none⟩)) ?_ ⟨b,A,G,rfl⟩ ZO⟩;unfold execOp;rw[m];simp[Instr.indexAt,asIntOf,g,Eo,run_underlying k,f.1,f.2,sizeOf,typeInfo,Xj,Wh,Gk,R1]
  ·obtain⟨z,D,c,d,hp⟩:=I9 d;obtain⟨f,d⟩:=Ay d;simp only[Ge,JI] at f;rcases I7 hp p with⟨_,rfl,_⟩|⟨ad,C,Eo,_,_,H,I,J,L⟩|⟨_,_,_,_,rfl,_⟩
   ·omega
   rotate_left
   ·omega
   ·refine⟨_,d,Cr (val:=.pointer (some (ad.add (n.toNat*Bs P e)))) ?_ ⟨ad,rfl,H,I,J,L⟩ (by intro i hi;cases hi)⟩
    unfold execOp;rw[m];simp[Instr.indexAt,asIntOf,g,Eo,run_underlying k,f.1,f.2,sizeOf,typeInfo,Xj,Wh]
 ·cases d
theorem Akp(h:Dt N w0 X0 Y β s a w){t:TypeId}{x i:Operand}(q:o.op=.index t x i){K:PV->Option R}(d:(Et (Cw s.tm i) λ_ n=>
   match P.underlying t with
   |some .string=>As (Cw s.tm x) λs=>Aw (decide (0<=n)) (Dj (s.data.toList[n.toNat]?) λb=>K (.sc (.int .u8 b.toNat)))
   |some (.array len e)=>Dr (Cw s.tm x) λcs=>Aw (decide (0<=n)&&decide (n<len)&&M6 P e) (V5 (Lz P e) cs (n.toNat*Bs P e) λc=>mkV (Cm P e) c K)
   |_=>none)=some r):∃v,K v=some r/\F2 P a w o Y β s v [] []:=by
 obtain⟨A,n,hi,d⟩:=Ez d;have g:=Cv h hi;split at d
 ·rename_i m;obtain⟨j,l,d⟩:=Ep d;have Eo:=Cv h l;obtain⟨p,d⟩:=Ay d;obtain⟨b,f,d⟩:=C6 d;have p:=of_decide_eq_true p;refine⟨_,d,Dd ?_⟩
  have Cs:n.toNat<j.size:=by
   rcases Jt n.toNat j.data.toList.length with h|h
   ·simpa using h
   ·rw[List.getElem?_eq_none h] at f;cases f
  have y:j[n.toNat]=b:=by
   have:j.data.toList[n.toNat]?=some j[n.toNat]:=by
    rw[List.getElem?_eq_getElem (by simpa using Cs)];rfl
   rw[f] at this;injection this with this;exact this.symm
  unfold execOp;rw[q];simp[Instr.index,asIntOf,g,Eo,run_underlying m,p,Cs,y]
 ·rename_i len e m;obtain⟨cs,l,d⟩:=Kt d;obtain⟨f,d⟩:=Ay d;simp only[Ge,JI] at f;have k:=D4 h x;rw[l] at k;obtain⟨C,Eo,z⟩:=k;obtain⟨_,_,Wh⟩:=Ye f.2;refine WA (t:=e) (off:=n.toNat*Bs P e) h l z (by rw[f.2];exact d) λval hp=>?_
  unfold execOp;rw[q];simp[Instr.index,asIntOf,g,Eo,run_underlying m,f.1.1,f.1.2,Ps Wh,hp]
 ·cases d
end
open Go.RowKit
section
variable {R:Type}{r:R}{P:Program}{N:Nat}{w0:World}{X0:Lu}{Y:Nat->Prop}{β β':Bt}{s:St}{a:Act}{w w':World}{o:Oper}{A:Nat->Prop}
theorem Fb(h:Dt N w0 X0 Y β s a w){x:Option Operand}{dflt:Nat}{K:Nat->Option R}(b:Jx (x.map (Cw s.tm)) dflt K=some r):
  ∃l,K l=some r/\((x=none/\l=dflt)\/∃y k,x=some y/\a.eval y=.int k (l:Int)):=by
 cases x with
 |none=>exact⟨dflt,b,.inl ⟨rfl,rfl⟩⟩
 |some y=>
  obtain⟨k,i,hi,b⟩:=Ez (show Et (Cw s.tm y) _=some r from b);obtain⟨c,b⟩:=Ay b;have c:=of_decide_eq_true c;exact⟨i.toNat,b,.inr ⟨y,k,rfl,by rw[Cv h hi,Int.toNat_of_nonneg c]⟩⟩
theorem Mq{c hi:Option Operand}{isS:Bool}{len cap l u:Nat}(g:(c=none/\l=0)\/∃y k,c=some y/\a.eval y=.int k (l:Int))(h:(hi=none/\u=len)\/∃y k,hi=some y/\a.eval y=.int k (u:Int))(d:l<=u)(e:u<=cap):
  (Instr.sliceBounds isS len cap (c.map a.eval) (hi.map a.eval) none).run P w=.ok (l,u,cap) w:=by
 rcases g with⟨rfl,rfl⟩|⟨y,k,rfl,f⟩<;>rcases h with⟨rfl,rfl⟩|⟨i,j,rfl,b⟩
 ·simp[Instr.sliceBounds]
 ·simp[Instr.sliceBounds,Instr.sliceBound,asIntOf,b,e]
 ·simp[Instr.sliceBounds,Instr.sliceBound,asIntOf,f,d]
 ·simp[Instr.sliceBounds,Instr.sliceBound,asIntOf,f,b,d,e]
theorem Ds{e:TypeId}(h:(P.info? e).isSome=true)(w:World):(sizeOf e).run P w=.ok (Bs P e) w:=by obtain⟨i,hi⟩:=Option.isSome_iff_exists.1 h;exact Ps (by simp[Bs,hi]) w
theorem VM{b j:Nat}{v:Value}(h:w.cell? ⟨b,j,none⟩=some v):j<bsz w b:=by
 unfold World.cell? at h;unfold bsz;split at h
 ·rename_i c e fz d;simp only at d;rw[d];simp only[Option.isSome_none,Bool.false_eq_true,if_false] at h;rcases Jt j c.size with Cs|a
  ·exact Cs
  ·rw[Array.getElem?_eq_none a] at h;cases h
 ·cases h
theorem Aht(h:Dt N w0 X0 Y β s a w){t:TypeId}{x:Operand}{V hi:Option Operand}(I:o.op=.slice t x V hi none){K:PV->Option R}(d:ON P (rd s.hp) t (Cw s.tm x) (V.map (Cw s.tm)) (hi.map (Cw s.tm)) K=some r):∃v,K v=some r/\F2 P a w o Y β s v [] []:=by
 have L:=D4 h x;have ZO:=Hb h x;unfold ON at d;split at d
 ·rename_i G;obtain⟨sb,ZN,d⟩:=Ep d;have Eo:=Cv h ZN;obtain⟨l,d,D⟩:=Fb h d;obtain⟨u,d,Nq⟩:=Fb h d;obtain⟨g,d⟩:=Ay d;simp only[Ge,JI] at g;refine⟨_,d,Dd ?_⟩;unfold execOp;rw[I];simp[Instr.sliceAt,Instr.slice,run_underlying G,Eo,Mq D Nq g.1 g.2]
 ·rename_i e G;obtain⟨Xj,d⟩:=Ay d;split at d
  ·rename_i id es off n O;rw[O] at L ZO;obtain⟨CH,d⟩:=Ay d;have CH:=El CH;subst CH;obtain⟨l,d,D⟩:=Fb h d;obtain⟨u,d,Nq⟩:=Fb h d;obtain⟨g,d⟩:=Ay d;simp only[Ge,JI] at g;rcases L with⟨H,rfl,rfl,ad,Eo⟩|⟨b,m,y,f,H,Eo,M,Q,MV,Cs⟩
   ·have p:u=0:=Ω
    have A:l=0:=Ω
    subst p A;refine⟨_,d,Cr (val:=.slice ad 0 0) ?_ (.inl ⟨H,Ψ,rfl,ad,rfl⟩) ZO⟩;unfold execOp;rw[I];cases ad<;>simp[Instr.sliceAt,Instr.slice,run_underlying G,Eo,Mq D Nq (Cg 0) (Cg 0),Ds Xj]
   ·have Dn:(execOp a.eval o).run P w=.ok (.value (.slice (some (if f=l then ⟨b,y,none⟩ else ⟨b,y+l*Bs P e,none⟩)) (u-l) (f-l))) w:=by
     unfold execOp;rw[I];have k:=Mq (P:=P) (w:=w) (isS:=true) D Nq g.1 (Nat.le_trans g.2 Q);simp[Instr.sliceAt,Instr.slice,run_underlying G,Eo,k,Ds Xj,Gk];split<;>rfl
    refine⟨_,d,Cr Dn (.inr ?_) ZO⟩;by_cases E:f=l
    ·rw[Bq E];refine⟨b,m,y,f-l,H,rfl,?_,Ω,⟨by rw[E,Nat.sub_self];have:=MV.1;omega,MV.2⟩,Cs⟩
     by_cases S:l*Bs P e=0
     ·rw[S,Zzr];rcases M with M|⟨NX,Xg⟩
      ·exact .inl M
      ·exact .inr ⟨Ω,Xg⟩
     ·exact .inr ⟨Ω,Ω⟩
    ·rw[Bb E];refine⟨b,m,y+l*Bs P e,f-l,H,rfl,?_,Ω,?_,Cs⟩
     ·rcases M with M|⟨NX,Xg⟩
      ·exact .inl Ω
      ·exact .inr ⟨Ω,Ω⟩
     ·have:l*Bs P e+(f-l)*Bs P e=f*Bs P e:=by
       rw[<-Nat.add_mul]
       congr 1
       omega
      have:=MV.1;exact⟨Ω,MV.2⟩
  ·obtain⟨z,n,c,d,hp⟩:=I9 d;obtain⟨l,d,D⟩:=Fb h d;obtain⟨u,d,Nq⟩:=Fb h d;obtain⟨g,d⟩:=Ay d;simp only[Ge,JI] at g;rcases I7 hp L with⟨Eo,rfl,rfl⟩|⟨ad,f,Eo,rfl,Q,W,X,Z,T⟩|⟨ad,f,Eo,rfl,rfl,rfl⟩
   rotate_right
   ·have p:u=0:=Ω
    have A:l=0:=Ω
    subst p A;refine⟨_,d,Cr (val:=.slice (some (if f=0 then ad else ad.add (0*Bs P e))) (0-0) (f-0)) ?_ ?_ (by intro i hi;cases hi)⟩
    ·unfold execOp;rw[I];have k:=Mq (P:=P) (w:=w) (isS:=true) D Nq (Cg 0) (Nat.zero_le f);simp[Instr.sliceAt,Instr.slice,run_underlying G,Eo,k,Ds Xj];split<;>rfl
    ·have:((([]:Ae).drop (0*Bs P e)).take ((0-0)*Bs P e))=[]:=Ψ
     rw[this];exact A9.lemp _ _ _
   ·have p:u=0:=Ω
    have A:l=0:=Ω
    subst p A;refine⟨_,d,Cr (val:=.slice none 0 0) ?_ ?_ (by intro i hi;cases hi)⟩
    ·unfold execOp;rw[I];simp[Instr.sliceAt,Instr.slice,run_underlying G,Eo,Mq D Nq (Cg 0) (Cg 0),Ds Xj]
    ·have:((([]:Ae).drop (0*Bs P e)).take ((0-0)*Bs P e))=[]:=Ψ
     rw[this];exact A9.lnil z _
   ·have Dn:(execOp a.eval o).run P w=.ok (.value (.slice (some (if f=l then ad else ad.add (l*Bs P e))) (u-l) (f-l))) w:=by
     unfold execOp;rw[I];have k:=Mq (P:=P) (w:=w) (isS:=true) D Nq g.1 (Nat.le_trans g.2 Q);simp[Instr.sliceAt,Instr.slice,run_underlying G,Eo,k,Ds Xj];split<;>rfl
    refine⟨_,d,Cr Dn ?_ (by intro i hi;cases hi)⟩
    by_cases E:f=l
    ·rw[Bq E];have:u-l=0:=Ω
     rw[this];simp only[Nat.zero_mul,List.take_zero];exact A9.lst _ _ [] ad _ (λ_=>undef) W X Z Ω Ψ Ψ Ψ
    ·rw[Bb E]
     have Eu:∀(j:Nat) q,((c.drop (l*Bs P e)).take ((u-l)*Bs P e))[j]?=some q->c[l*Bs P e+j]?=some q:=by
      intro j q C;rw[List.getElem?_take] at C;split at C
      ·rw[List.getElem?_drop] at C;exact C
      ·cases C
     refine A9.lst _ _ _ (ad.add (l*Bs P e)) _ (λj=>(w.cell? (ad.add (l*Bs P e+j))).getD undef) (Aye W _) (by rw[G5];exact X) (by rw[G5];exact Z) Ω (λj q C=>?_) (λj q C=>?_) (λj q C=>?_)
     ·obtain⟨v,J,_⟩:=T _ q (Eu j q C);rw[add_add,J];rfl
     ·obtain⟨v,J,h5,_⟩:=T _ q (Eu j q C);rw[J];exact h5
     ·obtain⟨v,J,_,ht⟩:=T _ q (Eu j q C);rw[J];exact ht
 ·rename_i n e G;obtain⟨Xj,d⟩:=Ay d;split at d
  ·rename_i id off O;rw[O] at L ZO;obtain⟨c,U,d⟩:=C6 d;obtain⟨Ef,d⟩:=Ay d;simp only[Ge,JI] at Ef;have CH:=El Ef.2
   replace Ef:=Ef.1
   obtain⟨l,d,D⟩:=Fb h d;obtain⟨u,d,Nq⟩:=Fb h d;obtain⟨g,d⟩:=Ay d;simp only[Ge,JI] at g;obtain⟨b,m,H,Eo⟩:=L
   have hbs:m+off+n*Bs P e<=bsz w b:=by
    obtain⟨v,J,_⟩:=VS h U H (j:=off+n*Bs P e-1) (List.getElem?_eq_getElem Ω);have:=VM J;omega
   have Cs:b<w.heap.size:=h.blt id b m (ZO id (by simp[Ck,C8,A3])) H
   have Dn:(execOp a.eval o).run P w=.ok (.value (.slice (some (if n=l then ⟨b,m+off,none⟩ else ⟨b,m+off+l*Bs P e,none⟩)) (u-l) (n-l))) w:=by
    unfold execOp;rw[I];have k:=Mq (P:=P) (w:=w) (isS:=false) D Nq g.1 g.2;simp[Instr.sliceAt,Instr.sureAddr,run_underlying G,Eo,k,Ds Xj,Gk]
   refine⟨_,d,Cr Dn (.inr ?_) ZO⟩;by_cases E:n=l
   ·rw[Bq E];refine⟨b,m,m+off,n-l,H,rfl,?_,Ω,⟨by rw[E,Nat.sub_self];omega,.inl CH⟩,Cs⟩
    by_cases S:l*Bs P e=0
    ·rw[S,Zzr];exact .inl rfl
    ·exact .inr ⟨Ω,Ω⟩
   ·rw[Bb E];refine⟨b,m,m+off+l*Bs P e,n-l,H,rfl,.inl Ω,Ω,?_,Cs⟩
    have:l*Bs P e+(n-l)*Bs P e=n*Bs P e:=by
     rw[<-Nat.add_mul]
     congr 1
     omega
    exact⟨Ω,.inl CH⟩
  ·cases d
 ·cases d
end
open Go.RowKit
section
variable {R:Type}{r:R}{P:Program}{N:Nat}{w0:World}{X0:Lu}{Y:Nat->Prop}{β β':Bt}{s:St}{a:Act}{w w':World}{o:Oper}{A:Nat->Prop}
theorem Aq9(h:Dt N w0 X0 Y β s a w){c:Call}(l:o.op=.call c)(m:c.callee=.builtin .len){K:PV->Option R}(d:(Ad c.args.toList λx _=>Ad c.argTypes.toList λt _=>Asx P t (Cw s.tm x) λn=>K (.sc (.int .i64 n)))=some r):∃v,K v=some r/\F2 P a w o Y β s v [] []:=by
 obtain⟨x,B,ZN,d⟩:=Bx d;obtain⟨t,p,j,d⟩:=Bx d;have k:=D4 h x;have i:c.args=(x::B).toArray:=by rw[<-ZN]
 have SN:c.argTypes=(t::p).toArray:=by rw[<-j]
 have Dn:∀n:Nat,(Builtin.len_ c.argTypes o.type (c.args.map a.eval)).run P w=.ok (.int .i64 n) w->(execOp a.eval o).run P w=.ok (.value (.int .i64 n)) w:=by
  intro n q;unfold execOp;rw[l];simp only[resolve,m,invoke,builtin,Sem.run_bind,Sem.run_pure,Result.andThen_ok,q]
 unfold Asx at d;split at d
 ·rename_i f;obtain⟨C,Bh2,d⟩:=Ep d;have Eo:=Cv h Bh2;refine⟨_,d,Dd (Dn _ ?_)⟩;simp[Builtin.len_,i,SN,run_underlying f,Eo,goInt]
 ·rename_i n e f;refine⟨_,d,Dd (Dn _ ?_)⟩;simp[Builtin.len_,i,SN,run_underlying f,goInt]
 ·rename_i e f;split at d
  ·rename_i id es off n A;rw[A] at k;obtain⟨_,d⟩:=Ay d;refine⟨_,d,Dd (Dn _ ?_)⟩;rcases k with⟨_,_,rfl,ad,Eo⟩|⟨b,D,y,g,_,Eo,_⟩<;>simp[Builtin.len_,i,SN,run_underlying f,Eo,goInt]
  ·obtain⟨z,n,cc,d,hp⟩:=I9 d;refine⟨_,d,Dd (Dn _ ?_)⟩;rcases I7 hp k with⟨Eo,rfl,_⟩|⟨ad,g,Eo,_⟩|⟨ad,g,Eo,_,rfl,_⟩<;>simp[Builtin.len_,i,SN,run_underlying f,Eo,goInt]
 ·cases d
theorem Ath(h:Dt N w0 X0 Y β s a w){c:Call}(i:o.op=.call c)(j:c.callee=.builtin .cap){K:PV->Option R}(b:(Ad c.args.toList λx _=>Ad c.argTypes.toList λt _=>Aqv P t (Cw s.tm x) λn=>K (.sc (.int .i64 n)))=some r):∃v,K v=some r/\F2 P a w o Y β s v [] []:=by
 obtain⟨x,B,ZN,b⟩:=Bx b;obtain⟨t,k,d,b⟩:=Bx b;have l:=D4 h x;have m:c.args=(x::B).toArray:=by rw[<-ZN]
 have SN:c.argTypes=(t::k).toArray:=by rw[<-d]
 have Dn:∀n:Nat,(Builtin.cap_ c.argTypes o.type (c.args.map a.eval)).run P w=.ok (.int .i64 n) w->(execOp a.eval o).run P w=.ok (.value (.int .i64 n)) w:=by
  intro n p;unfold execOp;rw[i];simp only[resolve,j,invoke,builtin,Sem.run_bind,Sem.run_pure,Result.andThen_ok,p]
 unfold Aqv at b;split at b
 ·rename_i e q;obtain⟨z,n,cc,b,hp⟩:=I9 b;obtain⟨g,b⟩:=Ay b;refine⟨_,b,Dd (Dn _ ?_)⟩;rcases I7 hp l with⟨Eo,rfl,_⟩|⟨ad,f,Eo,WL,_⟩|⟨ad,f,Eo,WL,_,_⟩
  ·simp[Builtin.cap_,m,SN,run_underlying q,Eo,goInt]
  ·rw[g] at WL;cases WL
  ·rw[g] at WL;cases WL
 ·cases b
theorem Ar9(h:Dt N w0 X0 Y β s a w){c:Call}(d:o.op=.call c)(e:c.callee=.builtin .min){K:PV->Option R}(b:(Ad c.args.toList λx r=>Ad r λy r'=>Ah r' (A08 (Cw s.tm x) (Cw s.tm y) K))=some r):∃v,K v=some r/\F2 P a w o Y β s v [] []:=by
 obtain⟨x,B,ZN,b⟩:=Bx b;obtain⟨y,j,rfl,b⟩:=Bx b;obtain⟨rfl,b⟩:=Ey b;obtain⟨k,n,f,b⟩:=Ez b;obtain⟨m,g,b⟩:=F8 b
 have i:c.args = #[x,y]:=by
  have:c.args=([x,y]:List Operand).toArray:=by rw[<-ZN]
  exact this
 refine⟨_,b,Dd ?_⟩;unfold execOp;rw[d];simp[resolve,e,invoke,builtin,i,Builtin.min_,Builtin.min2,Cv h f,Cv h g]
theorem Aqh(h:Dt N w0 X0 Y β s a w){c:Call}(d:o.op=.call c)(e:c.callee=.builtin .max){K:PV->Option R}(b:(Ad c.args.toList λx r=>Ad r λy r'=>Ah r' (A3j (Cw s.tm x) (Cw s.tm y) K))=some r):∃v,K v=some r/\F2 P a w o Y β s v [] []:=by
 obtain⟨x,B,ZN,b⟩:=Bx b;obtain⟨y,j,rfl,b⟩:=Bx b;obtain⟨rfl,b⟩:=Ey b;obtain⟨k,n,f,b⟩:=Ez b;obtain⟨m,g,b⟩:=F8 b
 have i:c.args = #[x,y]:=by
  have:c.args=([x,y]:List Operand).toArray:=by rw[<-ZN]
  exact this
 refine⟨_,b,Dd ?_⟩;unfold execOp;rw[d];simp[resolve,e,invoke,builtin,i,Builtin.max_,Builtin.max2,Cv h f,Cv h g]
theorem An4(h:Dt N w0 X0 Y β s a w){op:UnOp}{t:TypeId}{x:Operand}(e:o.op=.unOp op t x){K:PV->Option R}(c:unK op (Cw s.tm x) K=some r):
  ∃v,K v=some r/\F2 P a w o Y β s v [] []:=by
 unfold unK at c;split at c
 ·obtain⟨b,d,c⟩:=Ex c;refine⟨_,c,Dd ?_⟩;unfold execOp;rw[e];simp[Op.unary,Cv h d]
 ·obtain⟨k,n,d,c⟩:=Ez c;refine⟨_,c,Dd ?_⟩;unfold execOp;rw[e];simp[Op.unary,Op.intArith,Cv h d]
 ·obtain⟨k,n,d,c⟩:=Ez c;refine⟨_,c,Dd ?_⟩;unfold execOp;rw[e];simp[Op.unary,Op.intBits,Cv h d,Bbp]
 ·cases c
theorem Asa{op:BinOp}{k:IntKind}{m n:Int}{t:TypeId}{x y:Operand}{K:PV->Option R}(b:op ≠ .shl)(RX:op ≠ .shr)(a:VC op k m n K=some r):
  ∃v,K (.sc v)=some r/\(do eqGuard op t x y (.int k m) (.int k n);binOp op t (.int k m) (.int k n)).run P w=.ok v w:=by
 cases op<;>first
  |exact absurd rfl b
  |exact absurd rfl RX
  |(obtain⟨c,a⟩:=Ay a;have c:=of_decide_eq_true c;exact⟨_,a,by simp[eqGuard,binOp,Op.intDiv,c]⟩)
  |exact⟨_,a,by simp[eqGuard,binOp,-BitVec.toNat_and,-BitVec.toNat_or,-BitVec.toNat_xor,-gt_iff_lt,-ge_iff_le]<;>rfl⟩
theorem Aq8{op:BinOp}{m n:ByteArray}{t:TypeId}{x y:Operand}{K:PV->Option R}(a:YI op m n K=some r):
  ∃v,K (.sc v)=some r/\(do eqGuard op t x y (.string m) (.string n);binOp op t (.string m) (.string n)).run P w=.ok v w:=by
 cases op<;>first
  |cases a
  |(obtain⟨b,a⟩:=Ay a;have b:=of_decide_eq_true b;exact⟨_,a,by
    have c:¬(((m.size+n.size:Nat):Int)>IntKind.i64.max):=by
     have:IntKind.i64.max=9223372036854775807:=rfl;rw[this];omega
    simp only[eqGuard,binOp,Op.stringOp,Bb c];rfl⟩)
  |exact⟨_,a,by simp only[eqGuard,binOp,Op.stringOp,ByteArray.toList_eq];rfl⟩
end
open Go.RowKit
section
variable {R:Type}{r:R}{P:Program}{N:Nat}{w0:World}{X0:Lu}{Y:Nat->Prop}{β β':Bt}{s:St}{a:Act}{w w':World}{o:Oper}{A:Nat->Prop}
theorem XH{t:TypeId}(a:P.underlying t=some .bool)(x y:Bool):(Op.equal t (.bool x) (.bool y)).run P w=.ok (x==y) w:=by
 have h:∀d,(Op.equalIn (d+1) t (.bool x) (.bool y)).run P w=.ok (x==y) w:=λd=>by simp[Op.equalIn,run_underlying a]
 exact h 9999
theorem GH{t e:TypeId}(a:P.underlying t=some (.slice e))(x:Option Addr)(n c:Nat):(Op.equal t (.slice x n c) (.slice none 0 0)).run P w=.ok x.isNone w:=by
 have h:∀d,(Op.equalIn (d+1) t (.slice x n c) (.slice none 0 0)).run P w=.ok x.isNone w:=λd=>by
  cases x<;>simp[Op.equalIn,run_underlying a]
 exact h 9999
theorem LK{t k e:TypeId}(a:P.underlying t=some (.map k e)):(Op.equal t (.map none) (.map none)).run P w=.ok true w:=by
 have h:∀d,(Op.equalIn (d+1) t (.map none) (.map none)).run P w=.ok true w:=λd=>by
  simp[Op.equalIn,run_underlying a]
 exact h 9999
theorem Nf{t:TypeId}(d:Nat){v u:Value}(c:(∃k m n,P.underlying t=some (.int k)/\v=.int k m/\u=.int k n)\/(∃m n,P.underlying t=some .bool/\v=.bool m/\u=.bool n)\/∃m n,P.underlying t=some .string/\v=.string m/\u=.string n){b:Bool}(e:∀k m n,v=.int k m->u=.int k n->b=(m==n))(f:∀m n,v=.bool m->u=.bool n->b=(m==n))(Bji:∀m n,v=.string m->u=.string n->b=(m==n)):(Op.equalIn (d+1) t v u).run P w=.ok b w:=by
 rcases c with⟨k,m,n,a,rfl,rfl⟩|⟨m,n,a,rfl,rfl⟩|⟨m,n,a,rfl,rfl⟩
 ·rw[e k m n rfl rfl];simp[Op.equalIn,run_underlying a]
 ·rw[f m n rfl rfl];simp[Op.equalIn,run_underlying a]
 ·rw[Bji m n rfl rfl];simp[Op.equalIn,run_underlying a]
theorem AH{t:TypeId}{a:TypeDesc}(b:P.underlying t=some a)(hd:Cm P t=false){B:Array Value}{i:Nat}{v:Value}(c:B[i]?=some v):(part t B i).run P w=.ok v w:=by simp only[part,Sem.run_bind,Tr b,hd,Result.andThen_ok];simp[c]
theorem Acn(k:IntKind)(n:Int)(K:Int->Option R):Bn k (.sc (.int k n)) K=K n:=by simp[Bn]
theorem Akf(d : Nat): ∀ (z : List Field) (i : Nat) (B C : Array Value) (ps l : Ae) (K : Bool -> Option R), Ajq P z i = true -> Qz (z.map (fty P)) ps l K = some r ->
    (∀ (j : Nat) p, ps[j]? = some p -> ∃ v, B[i + j]? = some v /\ Cp w A β p v) -> (∀ (j : Nat) p, l[j]? = some p -> ∃ v, C[i + j]? = some v /\ Cp w A β p v) ->
    ∃ b, K b = some r /\ (forIn z ((none, ()) : Option Bool × Unit) fun (f : Field) (_ : Option Bool × Unit) =>
            if f.name = "_" then pure (ForInStep.yield ((none, ()) : Option Bool × Unit))
            else do
              let x <- part f.type B f.offset
              let y <- part f.type C f.offset
              let e <- Op.equalIn (d + 1) f.type x y
              if e = false then pure (ForInStep.done ((some false, ()) : Option Bool × Unit)) else pure (ForInStep.yield ((none, ()) : Option Bool × Unit)) : Sem (Option Bool × Unit)).run P w = .ok (if b then (none, ()) else (some false, ())) w
  | [], i, B, C, ps, l, K, _, c, _, _ => by
    cases ps with
    | nil => cases l with
      | nil => exact⟨true, c, by simp⟩
      | cons q l => cases c
    | cons p ps => cases c
  | f :: z, i, B, C, ps, l, K, DO, c, hp, O => by
    simp only[Ajq, Ge] at DO
    obtain⟨⟨⟨Xg, Awj⟩, V⟩, IC⟩ := DO
    have Xg := El Xg
    have WI : f.name ≠ "_" := by simpa using Awj
    cases ps with
    | nil =>
      simp only[CZ] at c
      cases A78 : fty P f <;> rw[A78] at c <;> cases c
    | cons p ps =>
      cases l with
      | nil =>
        simp only[CZ] at c
        cases A78 : fty P f <;> rw[A78] at c <;> cases c
      | cons q l =>
        obtain⟨v, Q, PG⟩ := hp 0 p rfl
        obtain⟨u, S, t⟩ := O 0 q rfl
        rw[Zzr] at Q S
        have main : ∃ D E, P.underlying f.type = some E /\ Cm P f.type = false /\ (Op.equalIn (d + 1) f.type v u).run P w = .ok D w /\ Qz (z.map (fty P)) ps l (fun r => K (D && r)) = some r := by
          simp only[CZ] at c
          unfold fty at c
          split at c
          · rename_i k Oo
            obtain⟨m, g, Ft⟩ := F8 (show Bn k p _ = some r from c)
            obtain⟨n, ZS, G⟩ := F8 Ft
            subst g ZS
            have H : v = .int k m := A9.val (w := w) (A := A) PG
            have Nq : u = .int k n := A9.val (w := w) (A := A) t
            subst H Nq
            refine⟨m == n, _, Oo, by simp[Cm, Oo], Nf d (.inl ⟨k, m, n, Oo, rfl, rfl⟩) ?_ ?_ ?_, G⟩
            · intro T o s a h; injection a with _ a; injection h with _ h; rw[a, h]
            · intro o s a; cases a
            · intro o s a; cases a
          · rename_i Oo
            obtain⟨m, g, Ft⟩ := Ex (show Be p _ = some r from c)
            obtain⟨n, ZS, G⟩ := Ex Ft
            subst g ZS
            have H : v = .bool m := A9.val (w := w) (A := A) PG
            have Nq : u = .bool n := A9.val (w := w) (A := A) t
            subst H Nq
            refine⟨m == n, _, Oo, by simp[Cm, Oo], Nf d (.inr (.inl ⟨m, n, Oo, rfl, rfl⟩)) ?_ ?_ ?_, G⟩
            · intro T o s a; cases a
            · intro o s a h; injection a with a; injection h with h; rw[a, h]
            · intro o s a; cases a
          · rename_i Oo
            obtain⟨m, g, Ft⟩ := Ep (show As p _ = some r from c)
            obtain⟨n, ZS, G⟩ := Ep Ft
            subst g ZS
            have H : v = .string m := A9.val (w := w) (A := A) PG
            have Nq : u = .string n := A9.val (w := w) (A := A) t
            subst H Nq
            refine⟨m == n, _, Oo, by simp[Cm, Oo], Nf d (.inr (.inr ⟨m, n, Oo, rfl, rfl⟩)) ?_ ?_ ?_, G⟩
            · intro T o s a; cases a
            · intro o s a; cases a
            · intro o s a h; injection a with a; injection h with h; rw[a, h]
          · cases c
        obtain⟨D, E, Oo, Il, U, c⟩ := main
        obtain⟨b, L, Dn⟩ := Akf d z (i + 1) B C ps l _ IC c (fun j M N => by have := hp (j + 1) M N; rwa [R1, Nat.add_comm 1 j]) (fun j M N => by have := O (j + 1) M N; rwa [R1, Nat.add_comm 1 j])
        refine⟨D && b, L, ?_⟩
        have I : (part f.type B f.offset).run P w = .ok v w := AH Oo Il (by rw[Xg]; exact Q)
        have J : (part f.type C f.offset).run P w = .ok u w := AH Oo Il (by rw[Xg]; exact S)
        cases D
        · simp[List.forIn_cons, WI, I, J, U]
        · simp only[Zzm]
          rw[<- Dn]
          simp[List.forIn_cons, WI, I, J, U]
theorem SW(d:Nat){t:TypeId}{a:Array Field}(n:P.underlying t=some (.struct a))(Iy:P.stoodInHeld t=false)(DO:Ajq P a.toList 0=true){B c:Ae}{e f:List Value}(g:Bv (Cp w A β) B e)(h:Bv (Cp w A β) c f){K:Bool->Option R}(o:Qz (a.toList.map (fty P)) B c K=some r):
  ∃b,K b=some r/\(Op.equalIn (d+2) t (.agg ⟨e⟩) (.agg ⟨f⟩)).run P w=.ok b w:=by
 obtain⟨b,i,Dn⟩:=Akf (P:=P) (w:=w) (A:=A) (β:=β) d a.toList 0 ⟨e⟩ ⟨f⟩ B c K DO o (λj p k=>by
   obtain⟨v,l,m⟩:=g.get k;exact⟨v,by simpa using l,m⟩) (λj p k=>by
   obtain⟨v,l,m⟩:=h.get k;exact⟨v,by simpa using l,m⟩)
 refine⟨b,i,?_⟩;rw[Array.forIn_toList] at Dn;rw[Op.equalIn];simp[run_underlying n,Iy];rw[Dn];cases b<;>simp
theorem KL:∀(a:List CT){d:List CT}{ps e:Ae}{K:Bool->Option R},Qz (a++d) ps e K=some r ->
  Qz a (ps.take a.length) (e.take a.length) (λb=>Qz d (ps.drop a.length) (e.drop a.length) λr'=>K (b&&r'))=some r
 |[],d,ps,e,K,h=>by
  simp only[SS,List.take_zero,Nr,Qz,Zzm];exact h
 |t::a,d,ps,e,K,h=>by
  rw[Zzp] at h;cases ps with
  |nil=>cases t<;>cases h
  |cons p ps=>
   cases e with
   |nil=>cases t<;>cases h
   |cons q e=>
    simp only[Ox,List.take_succ_cons,List.drop_succ_cons];cases t with
    |int k=>
     obtain⟨m,c,f⟩:=F8 (show Bn k p _=some r from h);obtain⟨n,ZS,g⟩:=F8 f;subst c ZS;have:=KL a g;simp only[<-Bool.and_assoc] at this;exact (Acn _ _ _).trans ((Acn _ _ _).trans this)
    |bool=>
     obtain⟨m,c,f⟩:=Ex (show Be p _=some r from h);obtain⟨n,ZS,g⟩:=Ex f;subst c ZS;have:=KL a g;simp only[<-Bool.and_assoc] at this;exact this
    |str=>
     obtain⟨m,c,f⟩:=Ep (show As p _=some r from h);obtain⟨n,ZS,g⟩:=Ep f;subst c ZS;have:=KL a g;simp only[<-Bool.and_assoc] at this;exact this
    |sl es=>cases h
    |any=>cases h
theorem Akk:∀(ts:List CT){ps a:Ae}{K:Bool->Option R},Qz ts ps a K=some r->ps.length=ts.length/\a.length=ts.length
 |[],ps,a,K,h=>by
  cases ps with
  |nil=>cases a with
   |nil=>exact⟨rfl,rfl⟩
   |cons q a=>cases h
  |cons p ps=>cases h
 |t::ts,ps,a,K,h=>by
  cases ps with
  |nil=>cases t<;>cases h
  |cons p ps=>
   cases a with
   |nil=>cases t<;>cases h
   |cons q a=>
    have f:∃e,Qz ts ps a e=some r:=by
     cases t with
     |int k=>
      obtain⟨m,b,c⟩:=F8 (show Bn k p _=some r from h);obtain⟨n,ZS,d⟩:=F8 c;exact⟨_,d⟩
     |bool=>
      obtain⟨m,b,c⟩:=Ex (show Be p _=some r from h);obtain⟨n,ZS,d⟩:=Ex c;exact⟨_,d⟩
     |str=>
      obtain⟨m,b,c⟩:=Ep (show As p _=some r from h);obtain⟨n,ZS,d⟩:=Ep c;exact⟨_,d⟩
     |sl es=>cases h
     |any=>cases h
    obtain⟨e,g⟩:=f;have:=Akk ts g;exact⟨by simp[this.1],by simp[this.2]⟩
theorem Ajf{t:TypeId}{a:TypeDesc}(b:P.underlying t=some a)(hd:Cm P t=true)(hi:(P.info? t).isSome=true)(B:Array Value)(i:Nat):(part t B i).run P w=.ok (.agg (B.extract i (i+Bs P t))) w:=by simp only[part,Sem.run_bind,Tr b,hd,Result.andThen_ok,if_true,Ds hi];rfl
theorem Ab6{B:Array Value}{i n:Nat}{ps:Ae}(k:n<=ps.length)(hp:∀(j:Nat) p,ps[j]?=some p->∃v,B[i+j]?=some v/\Cp w A β p v):Bv (Cp w A β) (ps.take n) (B.extract i (i+n)).toList:=by
 rcases Nat.eq_zero_or_pos n with f|f
 ·subst f;simp[Bv]
 have g:n-1<ps.length:=Ω
 obtain⟨v,e,_⟩:=hp (n-1) _ (List.getElem?_eq_getElem g);have Wh:=(Array.getElem?_eq_some_iff.1 e).1;refine Bv.of_at (by simp;omega) λj a b d c=>?_
 rw[List.getElem?_take] at d;split at d
 ·rename_i l;obtain⟨v,e,h⟩:=hp j a d;rw[Array.getElem?_toList,Array.getElem?_extract] at c;split at c
  ·rw[e] at c;cases c;exact h
  ·cases c
 ·cases d
theorem QW{f:Field}{a:Array Field}(b:P.underlying f.type=some (.struct a)):Ahd P f=a.toList.map (fty P):=by unfold Ahd;rw[b]
theorem Ak3{f:Field}(h:∀a,P.underlying f.type≠some (.struct a)):Ahd P f=[fty P f]:=by
 unfold Ahd;split
 ·rename_i a b;exact absurd b (h a)
 ·rfl
theorem Aoz(d : Nat): ∀ (o : List Field) (i : Nat) (B G : Array Value) (ps g : Ae) (K : Bool -> Option R), T8 P o i = true -> Qz (HW P o) ps g K = some r ->
    (∀ (j : Nat) p, ps[j]? = some p -> ∃ v, B[i + j]? = some v /\ Cp w A β p v) -> (∀ (j : Nat) p, g[j]? = some p -> ∃ v, G[i + j]? = some v /\ Cp w A β p v) ->
    ∃ b, K b = some r /\ (forIn o ((none, ()) : Option Bool × Unit) fun (f : Field) (_ : Option Bool × Unit) =>
            if f.name = "_" then pure (ForInStep.yield ((none, ()) : Option Bool × Unit))
            else do
              let x <- part f.type B f.offset
              let y <- part f.type G f.offset
              let e <- Op.equalIn (d + 2) f.type x y
              if e = false then pure (ForInStep.done ((some false, ()) : Option Bool × Unit)) else pure (ForInStep.yield ((none, ()) : Option Bool × Unit)) : Sem (Option Bool × Unit)).run P w = .ok (if b then (none, ()) else (some false, ())) w
  | [], i, B, G, ps, g, K, _, a, _, _ => by
    cases ps with
    | nil => cases g with
      | nil => exact⟨true, a, by simp⟩
      | cons q g => cases a
    | cons p ps => cases a
  | f :: o, i, B, G, ps, g, K, DO, a, hp, S => by
    simp only[T8, Ge] at DO
    obtain⟨⟨Xg, Awj⟩, h⟩ := DO
    have Xg := El Xg
    have WI : f.name ≠ "_" := by simpa using Awj
    have main : ∃ l v u n, (part f.type B f.offset).run P w = .ok v w /\ (part f.type G f.offset).run P w = .ok u w /\ (Op.equalIn (d + 2) f.type v u).run P w = .ok l w /\ T8 P o (i + n) = true /\ Qz (HW P o) (ps.drop n) (g.drop n) (fun r' => K (l && r')) = some r := by
      have a := KL (Ahd P f) (show Qz (Ahd P f ++ HW P o) ps g K = some r from a)
      have Ef := Akk _ a
      rw[List.length_take, List.length_take] at Ef
      have plain : (∀ z, P.underlying f.type ≠ some (.struct z)) -> T8 P o (i + 1) = true -> (match P.underlying f.type with | some (.int _) => true | some .bool => true | some .string => true | _ => false) = true ->
          ∃ l v u n, (part f.type B f.offset).run P w = .ok v w /\ (part f.type G f.offset).run P w = .ok u w /\ (Op.equalIn (d + 2) f.type v u).run P w = .ok l w /\ T8 P o (i + n) = true /\ Qz (HW P o) (ps.drop n) (g.drop n) (fun r' => K (l && r')) = some r := by
        intro hs A8h Zo
        rw[Ak3 hs] at a Ef
        simp only[List.length_singleton] at a Ef
        obtain⟨p, ps, rfl⟩ : ∃ p T, ps = p :: T := by
          cases ps with
          | nil => simp at Ef
          | cons p ps => exact⟨p, ps, rfl⟩
        obtain⟨q, g, rfl⟩ : ∃ q U, g = q :: U := by
          cases g with
          | nil => simp at Ef
          | cons q g => exact⟨q, g, rfl⟩
        obtain⟨v, X, PG⟩ := hp 0 p rfl
        obtain⟨u, Y, H⟩ := S 0 q rfl
        rw[Zzr] at X Y
        simp only[List.take_succ_cons, List.take_zero, List.drop_succ_cons, Nr] at a ⊢
        have one : ∃ l L, P.underlying f.type = some L /\ Cm P f.type = false /\ (Op.equalIn (d + 2) f.type v u).run P w = .ok l w /\ Qz (HW P o) ps g (fun r' => K (l && r')) = some r := by
          unfold fty at a
          split at a
          · rename_i k Oo
            obtain⟨m, s, Ft⟩ := F8 (show Bn k p _ = some r from a)
            obtain⟨n, ZS, C⟩ := F8 Ft
            subst s ZS
            have M : v = .int k m := A9.val (w := w) (A := A) PG
            have Nq : u = .int k n := A9.val (w := w) (A := A) H
            subst M Nq
            have e : ∀ b : Bool, (b && true) = b := Zzn
            simp only[Qz, e] at C
            refine⟨m == n, _, Oo, by simp[Cm, Oo], Nf (d + 1) (.inl ⟨k, m, n, Oo, rfl, rfl⟩) ?_ ?_ ?_, C⟩
            · intro Z D E c t; injection c with _ c; injection t with _ t; rw[c, t]
            · intro D E c; cases c
            · intro D E c; cases c
          · rename_i Oo
            obtain⟨m, s, Ft⟩ := Ex (show Be p _ = some r from a)
            obtain⟨n, ZS, C⟩ := Ex Ft
            subst s ZS
            have M : v = .bool m := A9.val (w := w) (A := A) PG
            have Nq : u = .bool n := A9.val (w := w) (A := A) H
            subst M Nq
            have e : ∀ b : Bool, (b && true) = b := Zzn
            simp only[Qz, e] at C
            refine⟨m == n, _, Oo, by simp[Cm, Oo], Nf (d + 1) (.inr (.inl ⟨m, n, Oo, rfl, rfl⟩)) ?_ ?_ ?_, C⟩
            · intro Z D E c; cases c
            · intro D E c t; injection c with c; injection t with t; rw[c, t]
            · intro D E c; cases c
          · rename_i Oo
            obtain⟨m, s, Ft⟩ := Ep (show As p _ = some r from a)
            obtain⟨n, ZS, C⟩ := Ep Ft
            subst s ZS
            have M : v = .string m := A9.val (w := w) (A := A) PG
            have Nq : u = .string n := A9.val (w := w) (A := A) H
            subst M Nq
            have e : ∀ b : Bool, (b && true) = b := Zzn
            simp only[Qz, e] at C
            refine⟨m == n, _, Oo, by simp[Cm, Oo], Nf (d + 1) (.inr (.inr ⟨m, n, Oo, rfl, rfl⟩)) ?_ ?_ ?_, C⟩
            · intro Z D E c; cases c
            · intro D E c; cases c
            · intro D E c t; injection c with c; injection t with t; rw[c, t]
          · cases a
        obtain⟨l, L, Oo, Il, J, a⟩ := one
        exact⟨l, v, u, 1, AH Oo Il (by rw[Xg]; exact X), AH Oo Il (by rw[Xg]; exact Y), J, A8h, by simpa using a⟩
      split at h
      · rename_i k Oo
        exact plain (fun z e => by rw[Oo] at e; cases e) h (by rw[Oo])
      · rename_i Oo
        exact plain (fun z e => by rw[Oo] at e; cases e) h (by rw[Oo])
      · rename_i Oo
        exact plain (fun z e => by rw[Oo] at e; cases e) h (by rw[Oo])
      · rename_i z Oo
        simp only[Ge, Bool.not_eq_true'] at h
        obtain⟨⟨⟨⟨V, Iy⟩, hi⟩, Wh⟩, IC⟩ := h
        have Wh := El Wh
        have So : (Ahd P f).length = z.size := by rw[QW Oo, List.length_map, Array.length_toList]
        rw[So] at a Ef
        rw[QW Oo] at a
        have hx := Ab6 (n := z.size) (by omega) hp
        have hy := Ab6 (n := z.size) (by omega) S
        obtain⟨l, I, J⟩ := SW d Oo Iy V hx hy a
        have ha : Cm P f.type = true := by simp[Cm, Oo]
        exact⟨l, _, _, z.size, by rw[Ajf Oo ha hi, Xg, Wh], by rw[Ajf Oo ha hi, Xg, Wh], J, IC, I⟩
      · cases h
    obtain⟨l, v, u, n, N, O, J, A8h, a⟩ := main
    obtain⟨b, I, Dn⟩ := Aoz d o (i + n) B G (ps.drop n) (g.drop n) _ A8h a (fun j W Q => by rw[List.getElem?_drop] at Q; have := hp (n + j) W Q; rwa [<- R1] at this) (fun j W Q => by rw[List.getElem?_drop] at Q; have := S (n + j) W Q; rwa [<- R1] at this)
    refine⟨l && b, I, ?_⟩
    cases l
    · simp[List.forIn_cons, WI, N, O, J]
    · simp only[Zzm]
      rw[<- Dn]
      simp[List.forIn_cons, WI, N, O, J]
theorem VQ(d:Nat){t:TypeId}{a:Array Field}(n:P.underlying t=some (.struct a))(Iy:P.stoodInHeld t=false)(DO:T8 P a.toList 0=true){B c:Ae}{e f:List Value}(g:Bv (Cp w A β) B e)(h:Bv (Cp w A β) c f){K:Bool->Option R}(o:Qz (HW P a.toList) B c K=some r):
  ∃b,K b=some r/\(Op.equalIn (d+3) t (.agg ⟨e⟩) (.agg ⟨f⟩)).run P w=.ok b w:=by
 obtain⟨b,i,Dn⟩:=Aoz (P:=P) (w:=w) (A:=A) (β:=β) d a.toList 0 ⟨e⟩ ⟨f⟩ B c K DO o (λj p k=>by
   obtain⟨v,l,m⟩:=g.get k;exact⟨v,by simpa using l,m⟩) (λj p k=>by
   obtain⟨v,l,m⟩:=h.get k;exact⟨v,by simpa using l,m⟩)
 refine⟨b,i,?_⟩;rw[Array.forIn_toList] at Dn;rw[Op.equalIn];simp[run_underlying n,Iy];rw[Dn];cases b<;>simp
theorem Ac7(h:Dt N w0 X0 Y β s a w){t:TypeId}{g:Array Field}{x y:Operand}{op:BinOp}(i:op=.eql\/op=.neq)(o:P.underlying t=some (.struct g))(DO:Ad5 P t g=true){B n:Ae}(p:Cw s.tm x=.agg B)(q:Cw s.tm y=.agg n){K:Bool->Option R}(v:Qz (HW P g.toList) B n K=some r):
  ∃b,K b=some r/\(do eqGuard op t x y (a.eval x) (a.eval y);binOp op t (a.eval x) (a.eval y)).run P w=.ok (.bool (if op=.eql then b else !b)) w:=by
 have d:=D4 h x;have e:=D4 h y;rw[p] at d;rw[q] at e;obtain⟨z,Eo,j⟩:=d;obtain⟨A,k,l⟩:=e;simp only[Ad5,Ge,Bool.not_eq_true'] at DO;obtain⟨⟨DO,Iy⟩,f⟩:=DO;obtain⟨b,m,c⟩:=VQ 9997 o Iy DO j l v;have c:(Op.equal t (.agg ⟨z⟩) (.agg ⟨A⟩)).run P w=.ok b w:=c;refine⟨b,m,?_⟩;rw[Eo,k];rcases i with rfl|rfl
 ·simp[eqGuard,binOp,c,f]
 ·simp[eqGuard,binOp,c,f]
theorem Ahi(h:Dt N w0 X0 Y β s a w){op:BinOp}{t ty:TypeId}{x y:Operand}(J:o.op=.binOp op t x y ty){K:PV->Option R}(d:FN P op t (Cw s.tm x) (Cw s.tm y) K=some r):∃v,K v=some r/\F2 P a w o Y β s v [] []:=by
 have Dn:∀v,(do eqGuard op t x y (a.eval x) (a.eval y);binOp op t (a.eval x) (a.eval y)).run P w=.ok v w->(execOp a.eval o).run P w=.ok (.value v) w:=by
  intro v I;unfold execOp;rw[J];simp only[Sem.run_bind] at I ⊢;rw[I];rfl
 unfold FN at d;split at d
 ·rename_i O l;split at d
  ·obtain⟨DO,d⟩:=Ay d;obtain⟨B,j,d⟩:=Kt d;obtain⟨L,g,d⟩:=Kt d;obtain⟨b,d,C⟩:=Ac7 h (.inl rfl) l DO j g d;exact⟨_,d,Dd (Dn _ (by rw[C];rfl))⟩
  ·obtain⟨DO,d⟩:=Ay d;obtain⟨B,j,d⟩:=Kt d;obtain⟨L,g,d⟩:=Kt d;obtain⟨b,d,C⟩:=Ac7 h (.inr rfl) l DO j g d;exact⟨_,d,Dd (Dn _ (by rw[C];rfl))⟩
  ·cases d
 ·unfold Awo at d;split at d
  ·rename_i k l;split at d
   ·obtain⟨m,j,d⟩:=F8 d;obtain⟨M,n,g,d⟩:=Ez d;obtain⟨p,d⟩:=Ay d;have p:=of_decide_eq_true p;refine⟨_,d,Dd (Dn _ ?_)⟩;have:¬n<0:=Ω
    simp[eqGuard,binOp,Op.shift,Cv h j,Cv h g,this]
   ·obtain⟨m,j,d⟩:=F8 d;obtain⟨M,n,g,d⟩:=Ez d;obtain⟨p,d⟩:=Ay d;have p:=of_decide_eq_true p;refine⟨_,d,Dd (Dn _ ?_)⟩;have:¬n<0:=Ω
    simp[eqGuard,binOp,Op.shift,Cv h j,Cv h g,this]
   ·rename_i E RX;obtain⟨m,j,d⟩:=F8 d;obtain⟨n,g,d⟩:=F8 d;obtain⟨v,d,C⟩:=Asa (P:=P) (w:=w) (t:=t) (x:=x) (y:=y) E RX d;exact⟨_,d,Dd (Dn _ (by rw[Cv h j,Cv h g];exact C))⟩
  ·rename_i l;obtain⟨m,j,d⟩:=Ep d;obtain⟨n,g,d⟩:=Ep d;obtain⟨v,d,C⟩:=Aq8 (P:=P) (w:=w) (t:=t) (x:=x) (y:=y) d;exact⟨_,d,Dd (Dn _ (by rw[Cv h j,Cv h g];exact C))⟩
  ·rename_i l;split at d
   ·obtain⟨m,j,d⟩:=Ex d;obtain⟨n,g,d⟩:=Ex d;refine⟨_,d,Dd (Dn _ ?_)⟩;simp[eqGuard,binOp,Cv h j,Cv h g,XH l]
   ·obtain⟨m,j,d⟩:=Ex d;obtain⟨n,g,d⟩:=Ex d;refine⟨_,d,Dd (Dn _ ?_)⟩;simp[eqGuard,binOp,Cv h j,Cv h g,XH l]
   ·cases d
  ·rename_i e l;have j:=D4 h x
   have nilQ:∀{e:Bool} {G:PV->Option R},VT e (Cw s.tm x) G=some r->∃q ad n c,G q=some r/\a.eval x=.slice ad n c/\(q=.sc (.bool (if ad.isNone then e else !e))\/q=.ub):=by
    intro e G f;unfold VT at f;split at f
    ·rename_i D;exact⟨_,none,0,0,f,Cv h D,.inl rfl⟩
    ·rename_i z es n c D;rcases I7 (.inl D) j with⟨Eo,rfl,_⟩|⟨ad,A,Eo,rfl,_⟩|⟨ad,A,Eo,rfl,rfl,_⟩
     ·rcases S5 f with⟨_,f⟩|⟨_,f⟩
      ·exact⟨_,none,0,0,f,Eo,.inl rfl⟩
      ·rcases S5 f with⟨p,_⟩|⟨_,f⟩
       ·exact absurd (of_decide_eq_true p) Ω
       ·exact⟨_,none,0,0,f,Eo,.inr rfl⟩
     ·rcases S5 f with⟨H,_⟩|⟨_,f⟩
      ·cases H
      ·rcases S5 f with⟨_,f⟩|⟨_,f⟩
       ·exact⟨_,some ad,n,A,f,Eo,.inl rfl⟩
       ·exact⟨_,some ad,n,A,f,Eo,.inr rfl⟩
     ·rcases S5 f with⟨H,_⟩|⟨_,f⟩
      ·cases H
      ·rcases S5 f with⟨p,_⟩|⟨_,f⟩
       ·exact absurd (of_decide_eq_true p) Ω
       ·exact⟨_,some ad,0,A,f,Eo,.inr rfl⟩
    ·rename_i id es off n D;rw[D] at j;rcases j with⟨_,_,rfl,ad,Eo⟩|⟨b,Q,S,A,_,Eo,_⟩
     ·rcases S5 f with⟨p,_⟩|⟨_,f⟩
      ·exact absurd (of_decide_eq_true p) Ω
      ·exact⟨_,ad,0,0,f,Eo,.inr rfl⟩
     ·rcases S5 f with⟨_,f⟩|⟨_,f⟩
      ·exact⟨_,_,n,A,f,Eo,.inl rfl⟩
      ·exact⟨_,_,n,A,f,Eo,.inr rfl⟩
    ·cases f
   split at d
   ·rename_i g;obtain⟨q,ad,n,c,d,Eo,p⟩:=nilQ d;rcases p with rfl|rfl
    ·refine⟨_,d,Dd (Dn _ ?_)⟩;cases ad<;>simp[eqGuard,binOp,Eo,Cv h g,GH l]
    ·refine⟨_,d,Cr (val:=.bool ad.isNone) (Dn _ ?_) (A9.ub _) (by intro i hi;cases hi)⟩
     simp[eqGuard,binOp,Eo,Cv h g,GH l]
   ·rename_i g;obtain⟨q,ad,n,c,d,Eo,p⟩:=nilQ d;rcases p with rfl|rfl
    ·refine⟨_,d,Dd (Dn _ ?_)⟩;cases ad<;>simp[eqGuard,binOp,Eo,Cv h g,GH l]
    ·refine⟨_,d,Cr (val:=.bool !ad.isNone) (Dn _ ?_) (A9.ub _) (by intro i hi;cases hi)⟩
     simp[eqGuard,binOp,Eo,Cv h g,GH l]
   ·cases d
  ·rename_i T U l;split at d
   ·rename_i j g;refine⟨_,d,Dd (Dn _ ?_)⟩;simp[eqGuard,binOp,Cv h j,Cv h g,LK l]
   ·rename_i j g;refine⟨_,d,Dd (Dn _ ?_)⟩;simp[eqGuard,binOp,Cv h j,Cv h g,LK l]
   ·cases d
  ·cases d
end
open Go.RowKit
section
variable {R:Type}{r:R}{P:Program}{N:Nat}{w0:World}{X0:Lu}{Y:Nat->Prop}{β β':Bt}{s:St}{a:Act}{w w':World}{o:Oper}{A:Nat->Prop}
theorem RI:∀{c:Ae}{a:Ak},GG c=some a->c=a.map (λn=>.sc (.int .i32 n))
 |[],a,h=>by simp[GG] at h;subst h;rfl
 |p::c,a,h=>by
  unfold GG at h;split at h
  ·rename_i e;cases e
  ·rename_i n r e;cases e;cases b:GG c with
   |none=>rw[b] at h;cases h
   |some d=>
    rw[b] at h;simp at h;subst h;rw[RI b];rfl
  ·cases h
theorem SK:∀{c:Ae}{l:List UInt8},H9 c=some l->∃a:Ak,c=a.map (λn=>.sc (.int .u8 n))/\l=a.map λn=>n.toNat.toUInt8
 |[],l,h=>⟨[],rfl,by simp[H9] at h;subst h;rfl⟩
 |p::c,l,h=>by
  unfold H9 at h;split at h
  ·rename_i e;cases e
  ·rename_i n r e;cases e;cases b:H9 c with
   |none=>rw[b] at h;cases h
   |some d=>
    rw[b] at h;simp at h;obtain⟨a,rfl,rfl⟩:=SK b;exact⟨n::a,rfl,h.symm⟩
  ·cases h
theorem BJ:∀(a:Ak)(b:ByteArray),a.foldl (λr n=>r.push (UInt8.ofNat n.toNat)) b=⟨b.data++(a.map λn=>n.toNat.toUInt8).toArray⟩
 |[],b=>Ψ
 |n::a,b=>by
  simp only[List.foldl_cons];rw[BJ a];simp[ByteArray.push]
theorem VW(h:Dt N w0 X0 Y β s a w){es:Nat}{x:Operand}{K:Nat->Ae->Option R}(d:Aj6 (Om s.hp) es (Cw s.tm x) K=some r):
  ∃n c,K n c=some r/\(((∃ad,a.eval x=.slice ad 0 0)/\n=0/\c=[])\/∃ad cap,a.eval x=.slice (some ad) n cap/\n<=cap/\(c=[]\/ad.block<w.heap.size)/\RdT w (Ec s.hp β Y) ad c):=by
 have m:=D4 h x;have ZO:=Hb h x;unfold Aj6 at d;split at d
 ·rename_i id o off n e;rw[e] at m ZO;cases A:Nat.beq o es
  ·rw[A] at d;cases d
  ·rw[A] at d;obtain⟨c,G,d⟩:=C6 (show Dj _ _=some r from d);obtain⟨C,d⟩:=Ay d;have C:=of_decide_eq_true C;obtain⟨f,Ar6⟩:=Aeo G;refine⟨_,_,d,?_⟩;rcases m with⟨_,rfl,rfl,ad,Eo⟩|⟨b,H,y,cap,D,Eo,k,q,_,Cs⟩
   ·exact .inl ⟨⟨ad,Eo⟩,rfl,Ψ⟩
   ·refine .inr ⟨_,cap,Eo,q,.inr Cs,λj p i=>?_⟩
    have Ai2:0<n*es:=by
     rcases Nat.eq_zero_or_pos (n*es) with l|l
     ·rw[l] at i;simp at i
     ·exact l
    have NX:n≠0:=by rintro rfl;simp at Ai2
    have k:y=H+off:=by rcases k with k|⟨l,_⟩<;>omega
    subst k;rw[List.getElem?_take] at i;split at i
    ·rw[List.getElem?_drop] at i;rcases h.box id _ Ar6 with⟨g,_⟩|⟨L,M,g,t,_⟩
     ·rw[D] at g;cases g
     ·rw[D] at g;simp at g;obtain⟨rfl,rfl⟩:=g
      obtain⟨v,E,I,ht⟩:=t (off+j) p i;rw[Gk] at E;exact⟨v,by rw[Gk,R1];exact E,I,ht⟩
    ·cases i
 ·obtain⟨z,n,c,d,hp⟩:=I9 d;refine⟨n,c,d,?_⟩;rcases I7 hp m with g|⟨ad,cap,Eo,_,q,g,t,_,J⟩|⟨ad,cap,Eo,_,rfl,rfl⟩
  ·exact .inl ⟨⟨none,g.1⟩,g.2⟩
  ·exact .inr ⟨ad,cap,Eo,q,.inr t,J⟩
  ·exact .inr ⟨ad,cap,Eo,Nat.zero_le _,.inl rfl,λj c i=>by simp at i⟩
theorem Ar3(b:ByteArray)(j:Nat)(p:PV)(h:(D1 b)[j]?=some p):∃x,b.data[j]?=some x/\p=.sc (.int .u8 x.toNat):=by
 unfold D1 at h;rw[List.getElem?_map] at h;cases a:b.data.toList[j]? with
 |none=>rw[a] at h;cases h
 |some x=>
  rw[a] at h;simp at h;exact⟨x,by simpa using a,h.symm⟩
theorem Ana(h:Dt N w0 X0 Y β s a w){g q:TypeId}{x:Operand}(V:o.op=.convert g q x){d:Nat}{K:PV->List (Nat × Cd)->Option R}(f:YG P (Om s.hp) d g q (Cw s.tm x) K=some r):∃v nw,K v nw=some r/\F2 P a w o Y β s v [] nw:=by
 have Dn:∀v w',(convert g q (a.eval x)).run P w=.ok v w'->(execOp a.eval o).run P w=.ok (.value v) w':=by
  intro v w' G;unfold execOp;rw[V];simp[G]
 unfold YG at f;split at f
 ·rename_i k D;obtain⟨C,f⟩:=Ay f;obtain⟨Z,n,M,f⟩:=Ez f;exact⟨_,_,f,Dd (Dn _ _ (by rw[Cv h M];obtain⟨W,O⟩:=Option.isSome_iff_exists.1 C;cases W<;>simp[convert,run_underlying O,run_underlying D,Conv.intToInt]))⟩
 ·rename_i D;split at f
  ·rename_i C;obtain⟨b,M,f⟩:=Ep f;exact⟨_,_,f,Dd (Dn _ _ (by rw[Cv h M];simp[convert,run_underlying C,run_underlying D]))⟩
  ·rename_i e C;split at f
   ·rename_i H;obtain⟨n,c,f,Q⟩:=VW h f;obtain⟨E,f⟩:=Ay f;have E:=of_decide_eq_true E;obtain⟨l,S,f⟩:=C6 f;obtain⟨z,rfl,rfl⟩:=SK S;refine⟨_,_,f,Dd (Dn _ _ ?_)⟩;rcases Q with⟨⟨ad,Eo⟩,rfl,A⟩|⟨ad,I,Eo,_,_,J⟩
    ·have:z=[]:=by simpa using A
     subst this;rw[Eo,run_convert_bytes_string w g q e ad 0 0 C H D];cases ad<;>rfl
    ·rw[Eo,run_convert_bytes_string w g q e _ _ _ C H D]
     have L:(loadCells ad n).run P w=.ok (z.map (Value.int .u8)).toArray w:=by
      have:=run_loadCells_list (P:=P) w ad (z.map (Value.int .u8)) (λj v t=>by
       rw[List.getElem?_map] at t;cases A:z[j]? with
       |none=>rw[A] at t;cases t
       |some m=>
        rw[A] at t;simp at t;subst t;obtain⟨v,G,_,ht⟩:=J j (.sc (.int .u8 m)) (by rw[List.getElem?_map,A];rfl)
        rw[ht.val] at G;exact G)
      simp only[List.length_map] at this E;rw[E] at this;exact this
     rw[run_bytesToString w ad n I z L,BJ];simp
   ·rename_i H;obtain⟨n,c,f,Q⟩:=VW h f;obtain⟨E,f⟩:=Ay f;have E:=of_decide_eq_true E;obtain⟨z,S,X⟩:=C6 f;have UP:=RI S;clear f;subst UP;refine⟨_,_,X,Dd (Dn _ _ ?_)⟩;rcases Q with⟨⟨ad,Eo⟩,OO,A⟩|⟨ad,I,Eo,_,_,J⟩
    ·have:z=[]:=by simpa using A
     subst this;rw[Eo,run_convert_runes_string w g q e ad _ _ C H D];cases ad with
     |none=>rfl
     |some p=>
      have NX:n=0:=by simpa using OO
      subst NX;exact run_runesToString w p 0 0 [] (by simpa using run_loadCells_list (P:=P) w p [] Ψ)
    ·rw[Eo,run_convert_runes_string w g q e _ _ _ C H D]
     have L:(loadCells ad n).run P w=.ok (z.map (Value.int .i32)).toArray w:=by
      have:=run_loadCells_list (P:=P) w ad (z.map (Value.int .i32)) (λj v t=>by
       rw[List.getElem?_map] at t;cases A:z[j]? with
       |none=>rw[A] at t;cases t
       |some m=>
        rw[A] at t;simp at t;subst t;obtain⟨v,G,_,ht⟩:=J j (.sc (.int .i32 m)) (by rw[List.getElem?_map,A];rfl)
        rw[ht.val] at G;exact G)
      simp only[List.length_map] at this E;rw[E] at this;exact this
     exact run_runesToString w ad n I z L
   ·cases f
  ·cases f
 ·rename_i e D;split at f
  ·rename_i H C;obtain⟨b,M,f⟩:=Ep f;obtain⟨Wh,f⟩:=Ay f;have U:=run_bytes_of_string (P:=P) w g q e b C D H;rw[<-Cv h M] at U
   have MV:b.size<=grownCap w b.size 0 e:=by
    unfold grownCap;simp[Question.cut]
   have Aik:(bytesRow b (grownCap w b.size 0 e)).size=grownCap w b.size 0 e:=by
    simp only[bytesRow,Array.size_append,Array.size_map,Array.size_replicate];have:b.data.size=b.size:=rfl;omega
   refine⟨_,_,f,Yi (c:=bytesRow b (grownCap w b.size 0 e)) (e:=e) Ψ (Dn _ _ U) ?_ (λj p t=>?_) (.inr ⟨1,b.size,grownCap w b.size 0 e,rfl,rfl,MV,by rw[Aik];omega,.inl rfl⟩)⟩
   ·exact⟨rfl,rfl,rfl,λi hi=>Below.heap_alloc w.drew _ i hi,by show (w.heap.push _).size=_;simp,_,by show (w.heap.push _)[w.heap.size]?=_;simp;rfl,.inr (Cg _)⟩
   ·obtain⟨y,T,rfl⟩:=Ar3 b j p t;refine⟨.int .u8 y.toNat,?_,rfl,A9.sc _⟩
    have Cs:j<b.data.size:=by
     rcases Jt j b.data.size with h|h
     ·exact h
     ·rw[Array.getElem?_eq_none h] at T;cases T
    simp only[bytesRow];rw[Array.getElem?_append_left (by simpa using Cs),Array.getElem?_map,T];rfl
  ·cases f
 ·cases f
end
open Go.RowKit
section
variable {R:Type}{r:R}{P:Program}{N:Nat}{w0:World}{X0:Lu}{Y:Nat->Prop}{β β':Bt}{s:St}{a:Act}{w w':World}{o:Oper}{A:Nat->Prop}
theorem NM:∀{n:Nat}{l:Ae}{j:Nat}{c:PV},(Vu n l)[j]?=some c->j<n*l.length/\l[j % l.length]?=some c
 |0,l,j,c,h=>by simp[Vu] at h
 |n+1,l,j,c,h=>by
  have e:Vu (n+1) l=l++Vu n l:=by simp[Vu,List.replicate_succ]
  rw[e] at h;by_cases a:j<l.length
  ·rw[List.getElem?_append_left a] at h;refine⟨by rw[Nat.add_mul];omega,?_⟩
   rw[Nat.mod_eq_of_lt a];exact h
  ·rw[List.getElem?_append_right Ω] at h;obtain⟨d,b⟩:=NM h;refine⟨by rw[Nat.add_mul];omega,?_⟩
   rw[Nat.mod_eq_sub_mod Ω];exact b
theorem Aii(n:Nat)(l:Ae):(Vu n l).length=n*l.length:=by
 induction n with
 |zero=>simp[Vu]
 |succ n a=>
  have e:Vu (n+1) l=l++Vu n l:=by simp[Vu,List.replicate_succ]
  rw[e,Vl,a,Nat.add_mul];omega
theorem Ai0{z:Array Value}{n j:Nat}(a:j<n){v:Value}(b:z[j % z.size]?=some v):(madeCells z n)[j]?=some v:=by unfold madeCells;rw[Array.getElem?_map,Array.getElem?_range,Bq a];simp only[Option.map_some];rw[getElem!_def,b]
theorem Aln(h:Dt N w0 X0 Y β s a w){t:TypeId}{x y:Operand}(A:o.op=.makeSlice t x y){d:Nat}{K:PV->B9->List (Nat × Cd)->Option R}(b:(match P.underlying t with
   |some (.slice e)=>Et (Cw s.tm x) λ_ n=>Et (Cw s.tm y) λ_ m=>
     Aw (decide (0<=n)&&decide (n<=m)&&decide (m*((P.info? e).map (·.bytes)).getD 0<=1099511627776)&&decide (m<=1099511627776))
      (J3 P e λz=>K (.view d (Bs P e) 0 n.toNat) [] [(d,.ar false (Vu n.toNat z))])
   |_=>none)=some r):∃v fz nw,K v fz nw=some r/\F2 P a w o Y β s v fz nw:=by
 split at b
 ·rename_i e C;obtain⟨D,n,E,b⟩:=Ez b;obtain⟨G,m,H,b⟩:=Ez b;obtain⟨q,b⟩:=Ay b;simp only[Ge,JI] at q;obtain⟨⟨⟨I,SX⟩,EU⟩,U⟩:=q;obtain⟨z,J,b,f,L,V,Wh,M⟩:=Wv b
  have g:∃i,P.info? e=some i/\i.zero=some z:=by
   unfold Xw at f;cases hi:P.info? e with
   |none=>rw[hi] at f;cases f
   |some i=>rw[hi] at f;exact⟨i,rfl,f⟩
  obtain⟨i,hi,k⟩:=g;have Bdp:Bs P e=i.size:=by simp[Bs,hi]
  simp only[hi,Option.map_some,Option.getD_some] at EU;have O:=run_make (P:=P) w t e i z C hi k D G n m I SX (by rw[Int.mul_comm];omega) Ω
  have Dn:(execOp a.eval o).run P w=.ok (.value (.slice (some ⟨w.heap.size,0,none⟩) n.toNat m.toNat)) (w.alloc (.cells (madeCells z.cells (m.toNat*i.size)) e)):=by
   unfold execOp;rw[A];simp[Cv h E,Cv h H,O]
  have l:z.cells.size=Bs P e:=by
   have:z.cells.toList.length=z.cells.size:=Ψ
   omega
  refine⟨_,_,_,b,Yi (c:=madeCells z.cells (m.toNat*i.size)) (e:=e) Ψ Dn (I2.alloc w _ e) (λj p Q=>?_) (.inr ⟨Bs P e,n.toNat,m.toNat,rfl,rfl,Ω,by rw[size_madeCells,Bdp];exact Cg _,.inr (Pp w _ e)⟩)⟩
  obtain⟨W,S⟩:=NM Q;obtain⟨X,u,Nq,ZU,T⟩:=M _ p S;refine⟨u,Ai0 ?_ ?_,ZU,T _ _⟩
  ·have:n.toNat*J.length<=m.toNat*i.size:=by
    rw[Wh,Bdp];exact Nat.mul_le_mul_right _ Ω
   omega
  ·rw[l,<-Wh]
   simpa using Nq
 ·cases b
theorem Arf{p:PV}{v:Value}(hp:okP p=true)(a:F9 w A β p v):Bv (Cp w A β) (cellsOf p) v.cells.toList:=by
 have one:v.oneCell'=true->Cp w A β p v->(∀x,p ≠ .agg x)->Bv (Cp w A β) (cellsOf p) v.cells.toList:=by
  intro c b d;have:cellsOf p=[p]:=by cases p<;>first|rfl|exact absurd rfl (d _)
  rw[this,Tt c];exact⟨b,trivial⟩
 unfold okP at hp;split at hp
 ·obtain⟨f,rfl,b⟩:=a;exact b
 ·refine one ?_ a Ψ;have e:A9 w A _ v:=a;cases e<;>rfl
 ·refine one ?_ a Ψ;rcases a with⟨_,_,_,_,rfl⟩|⟨_,_,_,_,_,rfl,_⟩<;>rfl
 ·have:=PC a;subst this;exact one rfl a Ψ
 ·have:=PC a;subst this;exact one rfl a Ψ
 ·have:=PC a;subst this;exact one rfl a Ψ
 ·have:=PC a;subst this;exact one rfl a Ψ
 ·cases hp
theorem Ap2:∀(vs:List Value)(k off:Nat)(cells:Array Value),off+k+vs.length<=cells.size ->
  ((vs.zipIdx k).foldl (λcs (q:Value × Nat)=>cs.setIfInBounds (off+q.2) q.1) cells).toList=cells.toList.take (off+k)++vs++cells.toList.drop (off+k+vs.length)
 |[],k,off,cells,_=>Ψ
 |v::vs,k,off,cells,h=>by
  simp only[List.zipIdx_cons,List.foldl_cons,Ox] at h ⊢;rw[Ap2 vs (k+1) off _ (by simp;omega)]
  have Cs:off+k<cells.toList.length:=by simp;omega
  simp only[Array.toList_setIfInBounds];rw[show off+(k+1)=off+k+1 from Ω,List.take_succ_eq_append_getElem (by simpa using Cs)];rw[List.getElem_set_self,List.take_set_of_le (Cg _),List.drop_set_of_lt Ω];simp only[Zzv,Zzp,Zzq];rw[show off+k+1+vs.length=off+k+(vs.length+1) from Ω]
theorem UW(h:Dt N w0 X0 Y β s a w){J2:Nat->Option (Nat × Nat)}:∀{parts:List (Nat × Operand)} {pc:Ae}{vc:Array Value}{K:Ae->Option R},
  DA J2 (parts.map λq=>(q.1,Cw s.tm q.2)) pc K=some r->Bv (Cp w (Ec s.hp β Y) β) pc vc.toList->(∀c∈pc,∀id∈A3 c,s.hp id≠none) ->
  ∃d f,K d=some r/\Instr.fill J2 vc (parts.map λq=>(q.1,a.eval q.2))=some f/\Bv (Cp w (Ec s.hp β Y) β) d f.toList/\d.length=pc.length/\∀c∈d,∀id∈A3 c,s.hp id≠none
 |[],pc,vc,K,e,g,m=>⟨pc,vc,e,rfl,g,rfl,m⟩
 |(i,x)::parts,pc,vc,K,e,g,m=>by
  simp only[CZ] at e;unfold DA at e;obtain⟨⟨off,size⟩,Zo,e⟩:=C6 e;obtain⟨t,e⟩:=Ay e;simp only[Ge] at t;obtain⟨⟨n,Wh⟩,IV⟩:=t;have Wh:(cellsOf (Cw s.tm x)).length=size:=El Wh;have IV:off+size<=pc.length:=Zy IV;have j:=Arf n (D4 h x);have o:=j.len;have v:=g.len;have CJ:vc.toList.length=vc.size:=Ψ
  have UP:(a.eval x).cells.toList.length=(a.eval x).cells.size:=Ψ
  have Ai3:=Ap2 (a.eval x).cells.toList 0 off vc Ω;simp only[Zzr] at Ai3
  have Bar:((a.eval x).cells.zipIdx.foldl (λk (q:Value × Nat)=>k.setIfInBounds (off+q.2) q.1) vc).toList=vc.toList.take off++(a.eval x).cells.toList++vc.toList.drop (off+(a.eval x).cells.toList.length):=by
   rw[<-Ai3,<-Array.foldl_toList];simp
  obtain⟨d,f,e,y,z,A,p⟩:=UW h (pc:=B1 pc (cellsOf (Cw s.tm x)) off) (vc:=(a.eval x).cells.zipIdx.foldl (λk (q:Value × Nat)=>k.setIfInBounds (off+q.2) q.1) vc) e (by
    rw[Bar,<-o];exact (((g.take off).app j).app (g.drop _))) (by
    intro c b id l;unfold B1 at b;rcases B2.1 b with b|b
    ·rcases B2.1 b with b|b
     ·exact m c (List.mem_of_mem_take b) id l
     ·refine Hb h x id ?_;cases hp:Cw s.tm x with
      |agg k=>rw[hp] at b;exact List.mem_flatMap.2 ⟨c,b,l⟩
      |tup k=>rw[hp] at b;simp[cellsOf] at b;subst b;cases l
      |_=>rw[hp] at b;simp[cellsOf] at b;subst b;exact l
    ·exact m c (List.mem_of_mem_drop b) id l)
  refine⟨d,f,e,?_,z,?_,p⟩
  ·simp only[CZ,Instr.fill,Zo];rw[Bb (by simp;omega)]
   exact y
  ·rw[A];simp[B1];omega
theorem Aif{t:TypeId}{z:Value}{cs:Ae}(e:cs.length=z.cells.toList.length)(d:∀(j:Nat) c,cs[j]?=some c->HU c/\∃u,z.cells.toList[j]?=some u/\u.oneCell'=true/\∀(w:World)(A:Nat->Prop),A9 w A c u)(_ht:Xw P t=some z):
  Bv (Cp w A β) cs z.cells.toList/\∀c∈cs,A3 c=[]:=by
 refine⟨Bv.of_at e λi c u a f=>?_,λc b=>?_⟩
 ·obtain⟨g,l,Nq,_,h⟩:=d i c a;rw[f] at Nq;cases Nq;exact (Qn g).2 (h _ _)
 ·obtain⟨j,k⟩:=List.mem_iff_getElem?.1 b;exact Kw (d j c k).1
theorem ZG:∀{a:List Field},(a.all λf=>YR P f.type)=true->a.mapM (λf=>(P.info? f.type).map λi=>(f.offset,i.size))=some (a.map λf=>(f.offset,Bs P f.type))
 |[],_=>rfl
 |f::a,h=>by
  simp only[List.all_cons,Ge] at h;obtain⟨i,hi⟩:=Option.isSome_iff_exists.1 h.1;simp[List.mapM_cons,hi,ZG h.2,Bs]
theorem JA{p q:Nat->Option (Nat × Nat)}(h:∀i,p i=q i)(cells:Array Value)(parts:List (Nat × Value)):Instr.fill p cells parts=Instr.fill q cells parts:=by have:p=q:=funext h;rw[this]
theorem Aj3(h:Dt N w0 X0 Y β s a w){t:TypeId}{ps:Array (Nat × Operand)}(Q:o.op=.build t ps){K:PV->Option R}(d:(Aw (Zg P t&&Cm P t)<|J3 P t λz=>DA (AQ P t) (ps.toList.map λq=>(q.1,Cw s.tm q.2)) z λcs=>V5 (Lz P t) cs 0 λD=>K (.agg D))=some r):∃v,K v=some r/\F2 P a w o Y β s v [] []:=by
 obtain⟨Zo,d⟩:=Ay d;simp only[Ge] at Zo;obtain⟨Zo,Il⟩:=Zo;obtain⟨z,cs,d,x,S,T,Wh,U⟩:=Wv d;obtain⟨E,WL⟩:=Aif (w:=w) (A:=Ec s.hp β Y) (β:=β) T U x;obtain⟨V,b,d,J,L,Pq,G⟩:=UW h d E (λc l id y=>by rw[WL c l] at y;cases y)
 obtain⟨W,d,X,QM,M⟩:=DL d
 have A8q:P.built t (ps.toList.map λq=>(q.1,a.eval q.2))=some b:=by
  have g:∃i,P.info? t=some i/\i.zero=some z:=by
   unfold Xw at x;cases hi:P.info? t with
   |none=>rw[hi] at x;cases x
   |some i=>rw[hi] at x;exact⟨i,rfl,x⟩
  obtain⟨i,hi,g⟩:=g;unfold Zg at Zo;unfold Program.built;split at Zo
  ·rename_i Z k
   have m:Instr.fill (((Z.toList.map λf=>(f.offset,Bs P f.type)).toArray)[·]?) z.cells (ps.toList.map λq=>(q.1,a.eval q.2))=some b:=by
    rw[<-J];refine JA (λj=>?_) _ _;simp[AQ,k]
   simp only[hi,k,g,ZG Zo];exact m
  ·rename_i n e k;obtain⟨O,C⟩:=Option.isSome_iff_exists.1 Zo
   have m:Instr.fill (λj=>some (j*O.size,O.size)) z.cells (ps.toList.map λq=>(q.1,a.eval q.2))=some b:=by
    rw[<-J];refine JA (λj=>?_) _ _;simp[AQ,k,Bs,C]
   simp only[hi,k,g,C];exact m
  ·rename_i e k;simp[Cm,k] at Il
  ·cases Zo
 refine⟨_,d,Cr (val:=.agg b) ?_ ⟨b.toList,rfl,?_⟩ ?_⟩
 ·unfold execOp;rw[Q];have:=run_build (P:=P) w t (ps.map λq=>(q.1,a.eval q.2)) b (by simpa using A8q);simp[this]
 ·refine Bv.of_at (by have:=L.len;omega) λj c u H k=>?_
  obtain⟨p,hp,_,_,PG⟩:=M j c H;rw[Ka] at hp;exact (PG _ _ _ _ (L.at_ hp k)).1
 ·intro id y;obtain⟨c,l,y⟩:=List.mem_flatMap.1 (show id∈W.flatMap A3 from y);obtain⟨j,hj⟩:=List.mem_iff_getElem?.1 l;obtain⟨p,hp,_,I,_⟩:=M j c hj;rw[Ka] at hp;exact G p (List.mem_of_getElem? hp) id (I id y)
end
open Go.RowKit
section
variable {R:Type}{r:R}{P:Program}{N:Nat}{w0:World}{X0:Lu}{Y:Nat->Prop}{β β':Bt}{s:St}{a:Act}{w w':World}{o:Oper}{A:Nat->Prop}
theorem And(h:Dt N w0 X0 Y β s a w){fz:B9}(QA:∀id∈fz,∃f c,s.hp id=some (.ar f c)){id:Nat}(i:id∈fz){f:Bool}{c:Ae}(g:s.hp id=some (.ar f c)){b ob:Nat}(e:β id=some (b,ob)):
  ¬Ec (Aj s.hp fz) β Y b/\RdT w (Ec (Aj s.hp fz) β Y) ⟨b,ob,none⟩ c/\b<w.heap.size:=by
 have j:=h.freeze QA;have k:Aj s.hp fz id=some (.ar true c):=by rw[Cj,Bq i,g];rfl
 rcases j.box id _ k with⟨d,_⟩|⟨n,o,d,l,_,m⟩
 ·rw[e] at d;cases d
 ·rw[e] at d;simp at d;obtain⟨rfl,rfl⟩:=d;exact⟨m rfl,l,h.blt id b ob (by rw[g];simp) e⟩
theorem Arx(h:Dt N w0 X0 Y β s a w){fz:B9}(QA:∀id∈fz,∃f c,s.hp id=some (.ar f c)){id es off n:Nat}(r:id∈fz){f:Bool}{c:Ae}(t:s.hp id=some (.ar f c)){v:Value}(e:Cp w (Ec s.hp β Y) β (.view id es off n) v):A9 w (Ec (Aj s.hp fz) β Y) (.lst false es n ((c.drop off).take (n*es))) v:=by
 rcases e with⟨_,rfl,rfl,ad,rfl⟩|⟨b,k,y,g,x,rfl,i,m,_,Cs⟩
 ·simp only[Nat.zero_mul,List.take_zero];cases ad with
  |none=>exact A9.lnil false es
  |some p=>exact A9.lemp es p 0
 ·obtain⟨o,l,_⟩:=And h QA r t x;by_cases NX:n*es=0
  ·rw[NX,List.take_zero];exact A9.lst es n [] ⟨b,y,none⟩ g (λ_=>undef) rfl Cs o m Ψ Ψ Ψ
  ·have i:y=k+off:=by
    rcases i with i|⟨z,_⟩
    ·exact i
    ·rw[z] at NX;simp at NX
   subst i
   have Eu:∀(j:Nat) q,((c.drop off).take (n*es))[j]?=some q->c[off+j]?=some q:=by
    intro j q d;rw[List.getElem?_take] at d;split at d
    ·rw[List.getElem?_drop] at d;exact d
    ·cases d
   refine A9.lst es n _ ⟨b,k+off,none⟩ g (λj=>(w.cell? ⟨b,k+off+j,none⟩).getD undef) rfl Cs o m (λj q d=>?_) (λj q d=>?_) (λj q d=>?_)
   ·obtain⟨v,e,_⟩:=l _ q (Eu j q d);rw[Gk,<-R1] at e;rw[Gk,e];rfl
   ·obtain⟨v,e,A,_⟩:=l _ q (Eu j q d);rw[Gk,<-R1] at e;rw[e];exact A
   ·obtain⟨v,e,_,ht⟩:=l _ q (Eu j q d);rw[Gk,<-R1] at e;rw[e];exact ht
theorem A9.zf{A:Nat->Prop}{z:Bool}{es n:Nat}{c:Ae}{v:Value}(h:A9 w A (.lst z es n c) v):A9 w A (.lst false es n c) v:=by
 cases h with
 |lnil=>exact .lnil _ _
 |lemp=>exact .lemp _ _ _
 |lst _ _ _ a b f d e g i j k l=>exact .lst _ _ _ a b f d e g i j k l
theorem WP(h:Dt N w0 X0 Y β s a w){t:CT}{p:PV}{K:PV->B9->Option R}(d:V3 (Om s.hp) t p K=some r):
  ∃c m,K c m=some r/\HU c/\isF p/\(∀id∈m,∃f cc,s.hp id=some (.ar f cc))/\∀fz:B9,(∀id∈m,id∈fz)->(∀id∈fz,∃f cc,s.hp id=some (.ar f cc))->∀v,Cp w (Ec s.hp β Y) β p v->A9 w (Ec (Aj s.hp fz) β Y) c v/\v.oneCell'=true:=by
 have tree:∀l,(QI l p λc=>K c [])=some r->∃c m,K c m=some r/\HU c/\isF p/\(∀id∈m,∃f cc,s.hp id=some (.ar f cc))/\∀fz:B9,(∀id∈m,id∈fz)->(∀id∈fz,∃f cc,s.hp id=some (.ar f cc))->∀v,Cp w (Ec s.hp β Y) β p v->A9 w (Ec (Aj s.hp fz) β Y) c v/\v.oneCell'=true:=by
  intro l d;obtain⟨c,d,o,VJ,g⟩:=Sy d;refine⟨c,[],d,o,AD VJ,Ψ,λfz _ QA v PG=>?_⟩;obtain⟨q,x⟩:=g _ _ _ _ PG;exact⟨q.step (Cy.refl _ _) (λb _ e=>e.imp Y8 id),x⟩
 cases t with
 |sl es=>
  unfold V3 at d;dsimp only at d;split at d
  ·rename_i id j off n;cases e:Nat.beq j es
   ·rw[e] at d;cases d
   ·rw[e] at d;have:=El e;subst this;obtain⟨c,y,d⟩:=C6 (show Dj _ _=some r from d);obtain⟨_,d⟩:=Ay d;obtain⟨f,Rs⟩:=Aeo y;refine⟨_,[id],d,trivial,trivial,?_,λfz A QA v g=>⟨Arx h QA (A id Ψ) Rs g,?_⟩⟩
    ·intro i hi;simp at hi;subst hi;exact⟨f,c,Rs⟩
    ·rcases g with⟨_,_,_,_,rfl⟩|⟨_,_,_,_,_,rfl,_⟩<;>rfl
  ·obtain⟨z,n,c,d,hp⟩:=I9 d;refine⟨_,[],d,trivial,?_,Ψ,λfz _ QA v PG=>?_⟩
   ·rcases hp with rfl|⟨rfl,_⟩<;>trivial
   ·have ht:=IX hp PG;refine⟨A9.zf (ht.step (Cy.refl _ _) (λb _ e=>e.imp Y8 id)),?_⟩;cases ht<;>rfl
 |int k=>exact tree (.int k) d
 |bool=>exact tree .bool d
 |str=>exact tree .str d
 |any=>exact tree .any d
theorem Yt(h:Dt N w0 X0 Y β s a w):∀{ts:List CT}{ps:Ae}{K:Ae->B9->Option R},Ux (Om s.hp) ts ps K=some r ->
  ∃cs m,K cs m=some r/\cs.length=ts.length/\ps.length=ts.length/\(∀c∈cs,HU c)/\(∀p∈ps,isF p)/\(∀id∈m,∃f cc,s.hp id=some (.ar f cc)) /\
   ∀fz:B9,(∀id∈m,id∈fz)->(∀id∈fz,∃f cc,s.hp id=some (.ar f cc))->∀vs,Bv (Cp w (Ec s.hp β Y) β) ps vs->Bv (A9 w (Ec (Aj s.hp fz) β Y)) cs vs/\∀v∈vs,v.oneCell'=true
 |[],[],K,d=>⟨[],[],d,rfl,rfl,Ψ,Ψ,Ψ,λfz _ _ vs g=>by
   cases vs with
   |nil=>exact⟨trivial,Ψ⟩
   |cons v vs=>exact g.elim⟩
 |[],_::_,K,d=>by cases d
 |_::_,[],K,d=>by cases d
 |t::ts,p::ps,K,d=>by
  unfold Ux at d;obtain⟨c,m,d,n,o,q,g⟩:=WP h d;obtain⟨cs,y,d,z,Pq,j,k,UY,CJ⟩:=Yt h d;refine⟨c::cs,m++y,d,by simp[z],by simp[Pq],?_,?_,?_,λfz e QA vs l=>?_⟩
  ·intro x b;rcases List.mem_cons.1 b with rfl|b
   ·exact n
   ·exact j x b
  ·intro x b;rcases List.mem_cons.1 b with rfl|b
   ·exact o
   ·exact k x b
  ·intro x b;rcases B2.1 b with b|b
   ·exact q x b
   ·exact UY x b
  ·cases vs with
   |nil=>exact l.elim
   |cons v vs=>
    obtain⟨A,C⟩:=g fz (λi hi=>e i (by simp[hi])) QA v l.1;obtain⟨D,E⟩:=CJ fz (λi hi=>e i (by simp[hi])) QA vs l.2;refine⟨⟨A,D⟩,?_⟩;intro x b;rcases List.mem_cons.1 b with rfl|b
    ·exact C
    ·exact E x b
theorem Ar5{R':PV->Value->Prop}{cs:Ae}{z:Array Value}(h:Bv R' cs z.toList)(n:Nat):Bv R' (Vu n cs) (madeCells z (n*cs.length)).toList:=by
 have a:z.size=cs.length:=by have:=h.len;simp at this;exact this.symm
 refine Bv.of_at ?_ λj c v f g=>?_
 ·rw[Aii];simp[size_madeCells]
 ·obtain⟨i,b⟩:=NM f
  have Cs:j % cs.length<cs.length:=by
   rcases Jt (j % cs.length) cs.length with h|h
   ·exact h
   ·rw[List.getElem?_eq_none h] at b;cases b
  obtain⟨u,k,d⟩:=h.get b;have:(madeCells z (n*cs.length))[j]?=some u:=Ai0 i (by rw[a];simpa using k)
  have e:(madeCells z (n*cs.length))[j]?=some v:=by simpa using g
  rw[this] at e;cases e;exact d
theorem Ach{A':Nat->Prop}:∀{ps cs:Ae}{vs:List Value},Bv (Cp w (Ec s.hp β Y) β) ps vs->Bv (A9 w A') cs vs->Bv (A9 w A') (Aka true ps cs) vs
 |[],_,_,_,h=>h
 |_::_,[],_,_,h=>h
 |p::ps,c::cs,[],_,h=>h.elim
 |p::ps,c::cs,v::vs,hp,h=>by
  refine⟨?_,Ach hp.2 h.2⟩;split
  ·have a:A9 w (Ec s.hp β Y) (.lst true _ 0 []) v:=hp.1;cases a;exact .lnil true _
  ·exact h.1
theorem QN(h:Dt N w0 X0 Y β s a w){nz:Bool}{t:TypeId}{n:Nat}{ps:Array (Nat × Operand)}(U:o.op=.buildSlice t n ps){d:Nat}{K:PV->B9->List (Nat × Cd)->Option R}(g:(match P.underlying t with
   |some (.slice e)=>Aw (Zg P t&&Nat.ble (n*Bs P e) 16777216) (J3 P e λz=>DA (AQ P t) (ps.toList.map λq=>(q.1,Cw s.tm q.2)) (Vu n z) λcs=>
     Ux (Om s.hp) (List.replicate n (Lz P e)).flatten cs λk m=>K (.view d (Bs P e) 0 n) m [(d,.ar false (bif nz then Aka true cs k else k))])
   |_=>none)=some r):∃v fz nw,K v fz nw=some r/\F2 P a w o Y β s v fz nw:=by
 split at g
 ·rename_i e l;obtain⟨y,g⟩:=Ay g;simp only[Ge] at y;have IV:n*Bs P e<=16777216:=Zy y.2;have Xj:(P.info? e).isSome=true:=by have:=y.1;unfold Zg at this;rw[l] at this;exact this
  obtain⟨z,cs,g,O,V,W,Wh,X⟩:=Wv g;obtain⟨C,WL⟩:=Aif (w:=w) (A:=Ec s.hp β Y) (β:=β) W X O;have Bhe:=Ar5 C n
  obtain⟨D,b,g,Z,E,Pq,hr'⟩:=UW h g Bhe (λc G id Q=>by
   obtain⟨j,H⟩:=List.mem_iff_getElem?.1 G;obtain⟨_,hg⟩:=NM H;rw[WL c (List.mem_of_getElem? hg)] at Q;cases Q)
  obtain⟨S,m,g,hql,Zo,hqT,_,T,I⟩:=Yt h g;obtain⟨x,J⟩:=I m (λ_ hi=>hi) T _ E
  have x:Bv (A9 w (Ec (Aj s.hp m) β Y)) (bif nz then Aka true D S else S) b.toList:=by
   cases nz
   ·exact x
   ·exact Ach E x
  have f:Instr.fill (λi=>some (i*Bs P e,Bs P e)) (madeCells z.cells (n*cs.length)) (ps.toList.map λq=>(q.1,a.eval q.2))=some b:=by
   rw[<-Z];refine JA (λi=>?_) _ _;simp[AQ,l]
  have L:b.size=n*Bs P e:=by
   have M:=E.len;rw[Pq,Aii] at M;simp at M;rw[<-M,Wh]
  have Dn:(execOp a.eval o).run P w=.ok (.value (.slice (some ⟨w.heap.size,0,none⟩) n n)) (w.alloc (.cells b e)):=by
   unfold execOp;rw[U];have Bd8:¬(n*Bs P e>2 ^ 24):=Ω
   rw[Wh] at f;by_cases NX:n*Bs P e=0
   ·simp only[Instr.buildSlice,Sem.run_bind,run_underlying l,Result.andThen_ok,Ds Xj,Bb Bd8,NX];rw[NX] at f;have e0:madeCells z.cells 0=(Array.range 0).map (λ_=>default):=by simp[madeCells]
    rw[e0] at f;simp[f,newRow]
   ·simp only[Instr.buildSlice,Sem.run_bind,run_underlying l,Result.andThen_ok,Ds Xj,Bb Bd8,Bb NX,HQ O];unfold madeCells at f;simp[f,newRow]
  refine⟨_,_,_,g,Yi (c:=b) (e:=e) T Dn (I2.alloc w b e) (λj p H=>?_) (.inr ⟨Bs P e,n,n,rfl,rfl,Cg _,by rw[L];exact Cg _,.inr (Pp w b e)⟩)⟩
  obtain⟨u,Nq,hp⟩:=x.get H;exact⟨u,by simpa using Nq,J u (List.mem_of_getElem? Nq),hp⟩
 ·cases g
theorem Aeh(h:Dt N w0 X0 Y β s a w){t:TypeId}{x k:Operand}{ok:Bool}(G:o.op=.lookup t x k ok){K:PV->Option R}(d:(match P.underlying t with
   |some (.map l m)=>Aw (match P.underlying l with|some .string=>true|_=>false) (
    match Cw s.tm x with
    |.sc (.map none)=>As (Cw s.tm k) λ_=>Dj (Xw P m) λz=>cvK P m z λv=>Aw (match v with | .tup _=>false|_=>true) (K (bif ok then .tup [v,.sc (.bool false)] else v))
    |_=>none)
   |_=>none)=some r):∃v,K v=some r/\F2 P a w o Y β s v [] []:=by
 split at d
 ·rename_i l m H;obtain⟨f,d⟩:=Ay d
  have f:P.underlying l=some .string:=by
   split at f
   ·assumption
   ·cases f
  split at d
  ·rename_i I;obtain⟨b,q,d⟩:=Ep d;obtain⟨z,p,d⟩:=C6 d;obtain⟨v,d,C,D⟩:=Apj d;obtain⟨g,d⟩:=Ay d
   have g:∀E,v ≠ .tup E:=by
    rintro E rfl
    cases g
   have y:∀w:World,(zeroValue m).run P w=.ok z w:=by
    intro w;unfold Xw at p;cases hi:P.info? m with
    |none=>rw[hi] at p;cases p
    |some i=>
     rw[hi] at p;simp[zeroValue,typeInfo,hi,show i.zero=some z from p]
   have Dn:(execOp a.eval o).run P w=.ok (.value (if ok then .tuple #[z,.bool false] else z)) w:=by
    unfold execOp;rw[G];have A:∀c (n:Nat),(Instr.checkKey c (n+1) l (.string b)).run P w=.ok () w:=λc n=>by simp[Instr.checkKey,run_underlying f]
    have ZK:∀c,(Instr.checkKey c 10000 l (.string b)).run P w=.ok () w:=λc=>A c 9999;cases ok<;>simp[Instr.lookup,run_underlying H,Cv h I,Cv h q,ZK,Instr.findKey,Instr.findNow,run_underlying f,y]
   refine⟨_,d,Cr Dn ?_ ?_⟩
   ·cases ok
    ·exact D _ _ _
    ·refine⟨[z,.bool false],rfl,(Wi g).1 (D _ _ _),?_,trivial⟩;exact A9.sc _
   ·cases ok
    ·intro id j;simp only[cond_false] at j;rw[C] at j;cases j
    ·intro id j;have:Ck (.tup [v,.sc (.bool false)])=C8 v++[]:=by simp[Ck,C8,A3]
     simp only[cond_true] at j;rw[this,List.append_nil] at j;have e:C8 v=Ck v:=by cases v<;>first|rfl|exact absurd rfl (g _)
     rw[e,C] at j;cases j
  ·cases d
 ·cases d
end
end
end
end Go.Proofs.YthlonbjmnomlcaaGreatDoor.Pv
