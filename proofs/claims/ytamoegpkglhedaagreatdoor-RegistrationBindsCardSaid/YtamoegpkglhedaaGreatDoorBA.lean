/-
  The proof of RegistrationBinds, part 1.
-/
import Derived.Orders
import Derived.LoopN
import Derived.Below
import Derived.Laws.Cover4
import Derived.Lib.ValidU
import Derived.Lib.Bytealg
import Derived.IntWalk
import Derived.WalkKit
import Derived.WalkLawsBesides
import Derived.Laws.IdiomStrings
import Derived.Laws.MakeOwn
import Derived.Laws.Tables
set_option linter.unusedSimpArgs false
set_option linter.unusedVariables false
namespace Go.Proofs.YtamoegpkglhedaaGreatDoor.Pv
set_option maxRecDepth 1000000
noncomputable section
theorem G9:type_of% @Bool.not_true:=@Bool.not_true
theorem Kd:type_of% @Bool.not_false:=@Bool.not_false
theorem Kb:type_of% @Nat.mul_one:=@Nat.mul_one
theorem Ip:type_of% @Nat.zero_add:=@Nat.zero_add
theorem Ma:type_of% @List.drop_zero.{0}:=@List.drop_zero
theorem H5:type_of% @List.take_of_length_le.{0}:=@List.take_of_length_le
theorem Vo:type_of% @List.length_append.{0}:=@List.length_append
theorem NS:type_of% @List.length_nil.{0}:=@List.length_nil
theorem Po:type_of% @List.length_cons.{0}:=@List.length_cons
theorem Jp:type_of% @Int.toNat_natCast:=@Int.toNat_natCast
theorem Br:type_of% @if_neg.{1}:=@if_neg
theorem Cx:type_of% @if_pos.{1}:=@if_pos
theorem YD:type_of% @Bool.true_and:=@Bool.true_and
theorem Zzp:type_of% @List.cons_append.{0}:=@List.cons_append
theorem NL:type_of% @List.nil_append.{0}:=@List.nil_append
theorem ZG:type_of% @Nat.add_zero:=@Nat.add_zero
theorem SU:type_of% @Bool.false_and:=@Bool.false_and
theorem Zzv:type_of% @List.append_assoc.{0}:=@List.append_assoc
theorem Vv:type_of% @List.map_cons.{0,0}:=@List.map_cons
theorem E0:type_of% @Bool.and_eq_true:=@Bool.and_eq_true
theorem Yd:type_of% @decide_eq_true_eq:=@decide_eq_true_eq
theorem Dc:type_of% @Nat.eq_of_beq_eq_true:=@Nat.eq_of_beq_eq_true
theorem Bx:type_of% @List.mem_append.{0}:=@List.mem_append
theorem K8:type_of% @List.flatMap_cons.{0,0}:=@List.flatMap_cons
theorem Ub:type_of% @List.mem_singleton_self.{0}:=@List.mem_singleton_self
theorem Gf:type_of% @Nat.lt_of_lt_of_le:=@Nat.lt_of_lt_of_le
theorem Ut:type_of% @List.mem_cons_of_mem.{0}:=@List.mem_cons_of_mem
theorem Pf:type_of% @Nat.le_of_ble_eq_true:=@Nat.le_of_ble_eq_true
theorem Ik:type_of% @Nat.lt_or_ge:=@Nat.lt_or_ge
theorem R8:type_of% @List.mem_singleton.{0}:=@List.mem_singleton
theorem Cs:type_of% @Nat.le_refl:=@Nat.le_refl
theorem Ps:type_of% @Nat.add_assoc:=@Nat.add_assoc
theorem Qq:type_of% @Nat.beq_refl:=@Nat.beq_refl
theorem DW:type_of% @List.mem_cons_self.{0}:=@List.mem_cons_self
inductive PV where
 |sc (v:Value)
 |lst (z:Bool) (es n:Nat) (cells:List PV)
 |own (es n:Nat) (cells:List PV)
 |view (id es off n:Nat)
 |ptr (id off:Nat)
 |iptr (cells:List PV) (off:Nat)
 |pbox (cells:List PV)
 |agg (cells:List PV)
 |tup (vs:List PV)
 |top
 |ub
abbrev Ae:=List PV
abbrev Aj:=List Int
abbrev B2:=List Nat
inductive B7 where
 |st (cells:Ae)
 |ar (fz:Bool) (cells:Ae)
 |mv
structure St where
 tm:Nat->PV
 hp:Nat->Option B7
structure A4 where
 vals:Ae
 outs:List Ae
structure G3 where
 shr:FuncId->Bool
 mvd:FuncId->Nat->Bool
 lnd:FuncId->Nat->Bool
 kz:FuncId->Bool
 ext:FuncId->Option (Ae->Option A4)
 nz:Nat->Bool
def G3.core(C:G3):G3:={ C with ext:=fun _=>none }
def Db{α:Type}(f:Nat->α)(i:Nat)(v:α):Nat->α:=fun j=>bif Nat.beq j i then v else f j
def rd(hp:Nat->Option B7)(id:Nat):Option Ae:=
 match hp id with
 |some (.st c)=>some c
 |some (.ar _ c)=>some c
 |_=>none
def Mh(hp:Nat->Option B7)(id:Nat):Option Ae:=
 match hp id with
 |some (.ar _ c)=>some c
 |_=>none
inductive CT where
 |int (k:IntKind)
 |bool
 |str
 |sl (es:Nat)
 |any
def A9(P:Program)(t:TypeId):Nat:=((P.info? t).map (·.size)).getD 0
def Ch(P:Program)(t:TypeId):Bool:=
 match P.underlying t with
 |some (.struct _)=>true
 |some (.array _ _)=>true
 |_=>false
def A3g(P:Program):Nat->TypeId->List CT
 |0,_=>[]
 |d+1,t=>
  match P.underlying t with
  |some (.int k)=>[.int k]
  |some .bool=>[.bool]
  |some .string=>[.str]
  |some (.slice e)=>[.sl (A9 P e)]
  |some (.struct fs)=>fs.toList.flatMap fun f=>A3g P d f.type
  |some (.array n e)=>(List.replicate n (A3g P d e)).flatten
  |_=>[.any]
abbrev Kc(P:Program)(t:TypeId):List CT:=A3g P 9 t
def Lj(P:Program)(t:TypeId):Bool:=(P.underlying t).isSome&&Nat.beq (Kc P t).length (A9 P t)
abbrev Du(k:IntKind)(a b:Int):Int:=k.wrap (BitVec.ofInt k.bits a &&& BitVec.ofInt k.bits b).toNat
abbrev DU(k:IntKind)(a b:Int):Int:=k.wrap (BitVec.ofInt k.bits a ||| BitVec.ofInt k.bits b).toNat
abbrev Ee(k:IntKind)(a b:Int):Int:=k.wrap (BitVec.ofInt k.bits a ^^^ BitVec.ofInt k.bits b).toNat
abbrev AJ(k:IntKind)(a b:Int):Int:=k.wrap (BitVec.ofInt k.bits a &&& ~~~BitVec.ofInt k.bits b).toNat
abbrev Fp(k:IntKind)(a b:Int):Int:=k.wrap (a*2 ^ (min b.toNat k.bits))
abbrev Gw(k:IntKind)(a b:Int):Int:=a.fdiv (2 ^ (min b.toNat k.bits))
abbrev A6j(k:IntKind)(n:Int):Int:=k.wrap (BitVec.ofInt k.bits (if k.signed then -1 else k.max) ^^^ BitVec.ofInt k.bits n).toNat
section
variable {R:Type}
def Ba(k:IntKind)(p:PV)(K:Int->Option R):Option R:=
 match p with
 |.sc (.int k' n)=>if k'=k then K n else none
 |_=>none
def Bm(p:PV)(K:Bool->Option R):Option R:=
 match p with
 |.sc (.bool b)=>K b
 |_=>none
def Bu(p:PV)(K:ByteArray->Option R):Option R:=
 match p with
 |.sc (.string s)=>K s
 |_=>none
def Vn(es:Nat)(p:PV)(K:Bool->Nat->Ae->Option R):Option R:=
 match p with
 |.lst z es' n c=>bif Nat.beq es' es then K z n c else none
 |.sc (.slice none 0 0)=>K true 0 []
 |_=>none
def fsK(es:Nat)(p:PV)(K:PV->Option R):Option R:=
 match p with
 |.view id es' off n=>bif Nat.beq es' es then K (.view id es off n) else none
 |p=>Vn es p fun z n c=>K (.lst z es n c)
def Lg(es:Nat)(p:PV)(K:Nat->Ae->Option R):Option R:=
 match p with
 |.own es' n c=>bif Nat.beq es' es then K n c else none
 |_=>none
def Ar(b:Bool)(K:Option R):Option R:=bif b then K else none
abbrev Aa{α:Type}(x:α)(K:α->Option R):Option R:=K x
def MB(b:Bool)(x y:Option R):Option R:=bif b then x else y
abbrev Be6(x:Nat)(K:Nat->Option R):Option R:=K x
def Aq5(x:List B2)(K:List B2->Option R):Option R:=K x
def Ay(b:Bool)(x y:Option R):Option R:=bif b then x else y
def Dj{α:Type}(o:Option α)(K:α->Option R):Option R:=
 match o with
 |some a=>K a
 |none=>none
def Ai{α:Type}(l:List α)(K:α->List α->Option R):Option R:=
 match l with
 |a::r=>K a r
 |[]=>none
def Ao{α:Type}(l:List α)(K:Option R):Option R:=
 match l with
 |[]=>K
 |_::_=>none
def Ef(p:PV)(K:Ae->Option R):Option R:=
 match p with
 |.agg c=>K c
 |_=>none
def BU(p:PV)(K:Ae->Option R):Option R:=
 match p with
 |.pbox c=>K c
 |_=>none
def Bv(r:Option A4)(K:Ae->List Ae->Option R):Option R:=
 match r with
 |some ⟨v,o⟩=>K v o
 |none=>none
def fnK(p:PV)(K:Value->Option R):Option R:=
 match p with
 |.sc (.func f a b)=>K (.func f a b)
 |.sc (.map none)=>K (.map none)
 |_=>none
def fvK(p:PV)(K:FuncId->Option R):Option R:=
 match p with
 |.sc (.func (.func f) a b)=>bif a.isEmpty&&b.isEmpty then K f else none
 |_=>none
def IB(t:CT)(p:PV)(K:PV->Option R):Option R:=
 match t with
 |.int k=>Ba k p fun n=>K (.sc (.int k n))
 |.bool=>Bm p fun b=>K (.sc (.bool b))
 |.str=>Bu p fun s=>K (.sc (.string s))
 |.sl es=>Vn es p fun z n c=>K (.lst z es n c)
 |.any=>fnK p fun v=>K (.sc v)
def fcK(t:CT)(p:PV)(K:PV->Option R):Option R:=
 match t with
 |.sl es=>fsK es p K
 |t=>IB t p K
def Xn:List CT->Ae->Nat->(Ae->Option R)->Option R
 |[],_,_,K=>K []
 |t::ts,cells,off,K=>IB t (cells.getD off .top) fun c=>Xn ts cells (off+1) fun r=>K (c::r)
def Sj:List CT->Ae->Nat->(Ae->Option R)->Option R
 |[],_,_,K=>K []
 |t::ts,cells,off,K=>fcK t (cells.getD off .top) fun c=>Sj ts cells (off+1) fun r=>K (c::r)
def mkV(agg:Bool)(cells:Ae)(K:PV->Option R):Option R:=
 bif agg then K (.agg cells) else Ai cells fun c r=>Ao r (K c)
def cellsOf:PV->Ae
 |.agg c=>c
 |p=>[p]
def cvK(P:Program)(t:TypeId)(v:Value)(K:PV->Option R):Option R:=
 match v with
 |.agg cs=>Ar (Nat.beq cs.toList.length (Kc P t).length) (Xn (Kc P t) (cs.toList.map .sc) 0 fun c=>K (.agg c))
 |.slice none 0 0=>
  match P.underlying t with
  |some (.slice e)=>K (.lst true (A9 P e) 0 [])
  |_=>none
 |v=>K (.sc v)
end
def Cp(tm:Nat->PV):Operand->PV
 |.tmp t=>tm t
 |.const (.agg cs)=>.agg (cs.toList.map .sc)
 |.const v=>.sc v
 |.func f=>.sc (.func (.func f) #[] #[])
 |.global g=>.sc (.pointer (some ⟨g,0,none⟩))
section
variable {R:Type}
def Ei(p:PV)(K:IntKind->Int->Option R):Option R:=
 match p with
 |.sc (.int k n)=>K k n
 |_=>none
def Adk(rdf:Nat->Option Ae)(es:Nat)(p:PV)(K:Nat->Ae->Option R):Option R:=
 match p with
 |.view id es' off n=>bif Nat.beq es' es then Dj (rdf id) fun c=>Ar (decide (off+n*es<=c.length)) (K n ((c.drop off).take (n*es))) else none
 |p=>Vn es p fun _ n c=>K n c
def Su(rdf:Nat->Option Ae)(t:CT)(p:PV)(K:PV->B2->Option R):Option R:=
 match t with
 |.sl es=>
  match p with
  |.view id es' off n=>bif Nat.beq es' es then Dj (rdf id) fun c=>Ar (decide (off+n*es<=c.length)) (K (.lst false es n ((c.drop off).take (n*es))) [id]) else none
  |p=>Vn es p fun _ n c=>K (.lst false es n c) []
 |t=>IB t p fun c=>K c []
def Rr(rdf:Nat->Option Ae):List CT->Ae->(Ae->B2->Option R)->Option R
 |[],[],K=>K [] []
 |t::ts,p::ps,K=>Su rdf t p fun c m=>Rr rdf ts ps fun cs ms=>K (c::cs) (m++ms)
 |_,_,_=>none
def Afb(k:Bool):Ae->Ae->Ae
  |p::ps,c::cs=>
    (match k,p with
     |true,.lst true es 0 []=>.lst true es 0 []
     |_,_=>c)::Afb k ps cs
  |_,cs=>cs
def Aik(P:Program)(rdf:Nat->Option Ae)(t:TypeId)(p:PV)(K:PV->B2->Option R):Option R:=
 bif Ch P t then Ef p fun ps=>Rr rdf (Kc P t) ps fun cs m=>K (.agg cs) m
 else Rr rdf (Kc P t) [p] fun cs m=>Ai cs fun c r=>Ao r (K c m)
def RI(P:Program)(rdf:Nat->Option Ae):List TypeId->Ae->(Ae->B2->Option R)->Option R
 |[],[],K=>K [] []
 |t::ts,p::ps,K=>Aik P rdf t p fun v m=>RI P rdf ts ps fun vs ms=>K (v::vs) (m++ms)
 |_,_,_=>none
def Arb(shr:Bool)(id:Nat)(t:CT)(p:PV)(K:PV->List (Nat × B7)->Option R):Option R:=
 match t with
 |.sl es=>bif shr then Vn es p fun _ n c=>K (.lst false es n c) [] else Lg es p fun n c=>K (.view id es 0 n) [(id,.ar false c)]
 |t=>IB t p fun c=>K c []
def Ux(shr:Bool)(N:Nat):Nat->List CT->Ae->(Ae->List (Nat × B7)->Option R)->Option R
 |_,[],ps,K=>Ao ps (K [] [])
 |id,t::ts,ps,K=>Ai ps fun p ps=>Arb shr id t p fun c b=>Ux shr N (id+N) ts ps fun cs bs=>K (c::cs) (b++bs)
def HT(P:Program)(t:TypeId):Option TypeId:=
 match P.underlying t with
 |some (.pointer e)=>some e
 |_=>none
def Adg(P:Program)(t:TypeId):Nat:=
 match HT P t with
 |some e=>1+(Kc P e).length
 |none=>(Kc P t).length
def Amw(P:Program)(shr:Bool)(N:Nat)(id:Nat)(t:TypeId)(p:PV)(K:PV->List (Nat × B7)->Option R):Option R:=
 match HT P t with
 |some e=>BU p fun ps=>Ux shr N (id+N) (Kc P e) ps fun cs bs=>K (.ptr id 0) ((id,.st cs)::bs)
 |none=>
 bif Ch P t then Ef p fun ps=>Ux shr N id (Kc P t) ps fun cs bs=>K (.agg cs) bs
 else Ux shr N id (Kc P t) [p] fun cs bs=>Ai cs fun c r=>Ao r (K c bs)
def LF(P:Program)(shr:Bool)(N:Nat):Nat->List TypeId->Ae->(Ae->List (Nat × B7)->Option R)->Option R
 |_,[],ps,K=>Ao ps (K [] [])
 |id,t::ts,ps,K=>Ai ps fun p ps=>Amw P shr N id t p fun v bs=>LF P shr N (id+N*Adg P t) ts ps fun vs bs'=>K (v::vs) (bs++bs')
def Sa(P:Program)(t:TypeId):List TypeId:=
 match P.underlying t with
 |some (.tuple ts)=>ts.toList
 |_=>[t]
def Rw(vs:Ae)(t:Bool):PV:=bif t then .tup vs else vs.headD .top
def Tr(P:Program)(t:TypeId):Bool:=
 match P.underlying t with
 |some (.tuple _)=>true
 |_=>false
def Ax9(op:BinOp)(a b:Int)(K:Bool->Option R):Option R:=
 match op with
 |.eql=>K (a==b)
 |.neq=>K (a != b)
 |.lss=>K (decide (a<b))
 |.leq=>K (decide (a<=b))
 |.gtr=>K (decide (a>b))
 |.geq=>K (decide (a>=b))
 |_=>none
def RY(op:BinOp)(k:IntKind)(a b:Int)(K:PV->Option R):Option R:=
 match op with
 |.add=>Aa ((k.wrap (a+b))) fun n=>K (.sc (.int k n))
 |.sub=>Aa ((k.wrap (a-b))) fun n=>K (.sc (.int k n))
 |.mul=>Aa ((k.wrap (a*b))) fun n=>K (.sc (.int k n))
 |.quo=>Ar (decide (b≠0)) (Aa ((k.wrap (a.tdiv b))) fun n=>K (.sc (.int k n)))
 |.rem=>Ar (decide (b≠0)) (Aa ((a.tmod b)) fun n=>K (.sc (.int k n)))
 |.and=>Aa (Du k a b) fun n=>K (.sc (.int k n))
 |.or=>Aa (DU k a b) fun n=>K (.sc (.int k n))
 |.xor=>Aa (Ee k a b) fun n=>K (.sc (.int k n))
 |.andNot=>Aa (AJ k a b) fun n=>K (.sc (.int k n))
 |op=>Ax9 op a b fun r=>K (.sc (.bool r))
def PP(op:BinOp)(x y:ByteArray)(K:PV->Option R):Option R:=
 match op with
 |.add=>Ar (decide (x.size+y.size<=9223372036854775807)) (Aa (x++y) fun s=>K (.sc (.string s)))
 |.eql=>K (.sc (.bool (x.data.toList==y.data.toList)))
 |.neq=>K (.sc (.bool !(x.data.toList==y.data.toList)))
 |.lss=>K (.sc (.bool (Op.bytesLess x.data.toList y.data.toList)))
 |.leq=>K (.sc (.bool (Op.bytesLess x.data.toList y.data.toList||x.data.toList==y.data.toList)))
 |.gtr=>K (.sc (.bool !(Op.bytesLess x.data.toList y.data.toList||x.data.toList==y.data.toList)))
 |.geq=>K (.sc (.bool !(Op.bytesLess x.data.toList y.data.toList)))
 |_=>none
def SL(e:Bool)(p:PV)(K:PV->Option R):Option R:=
 match p with
 |.sc (.slice none 0 0)=>K (.sc (.bool e))
 |.lst z _ n _=>Ay z (K (.sc (.bool e))) (Ay (decide (0<n)) (K (.sc (.bool !e))) (K .ub))
 |.view _ _ _ n=>Ay (decide (0<n)) (K (.sc (.bool !e))) (K .ub)
 |_=>none
def Acz(P:Program):List Field->Nat->Bool
 |[],_=>true
 |f::r,i=>Nat.beq f.offset i&&(f.name != "_")&&(match P.underlying f.type with|some (.int _)=>true|some .bool=>true|some .string=>true|_=>false)&&Acz P r (i+1)
def Rl(P:Program):List Field->Nat->Bool
  |[],_=>true
  |f::r,i=>Nat.beq f.offset i&&(f.name != "_") &&
    (match P.underlying f.type with
     |some (.int _)=>Rl P r (i+1)
     |some .bool=>Rl P r (i+1)
     |some .string=>Rl P r (i+1)
     |some (.struct gs)=>Acz P gs.toList 0 && !P.stoodInHeld f.type&&(P.info? f.type).isSome&&Nat.beq (A9 P f.type) gs.size&&Rl P r (i+gs.size)
     |_=>false)
def Aae(P:Program)(t:TypeId)(fs:Array Field):Bool:=Rl P fs.toList 0 && !P.stoodInHeld t && !P.eqGuardType P.depth t
def fty(P:Program)(f:Field):CT:=
 match P.underlying f.type with
 |some (.int k)=>.int k
 |some .bool=>.bool
 |some .string=>.str
 |_=>.any
def Aer(P:Program)(f:Field):List CT:=
 match P.underlying f.type with
 |some (.struct gs)=>gs.toList.map (fty P)
 |_=>[fty P f]
def CF(P:Program):List Field->List CT
 |[]=>[]
 |f::r=>Aer P f++CF P r
def O3:List CT->Ae->Ae->(Bool->Option R)->Option R
 |[],[],[],K=>K true
 |.int k::ts,p::ps,q::qs,K=>Ba k p fun a=>Ba k q fun b=>O3 ts ps qs fun r=>K ((a==b)&&r)
 |.bool::ts,p::ps,q::qs,K=>Bm p fun a=>Bm q fun b=>O3 ts ps qs fun r=>K ((a==b)&&r)
 |.str::ts,p::ps,q::qs,K=>Bu p fun a=>Bu q fun b=>O3 ts ps qs fun r=>K ((a==b)&&r)
 |_,_,_,_=>none
def Aq0(P:Program)(op:BinOp)(t:TypeId)(x y:PV)(K:PV->Option R):Option R:=
 match P.underlying t with
 |some (.int k)=>
  match op with
  |.shl=>Ba k x fun a=>Ei y fun _ b=>Ar (decide (0<=b)) (Aa (Fp k a b) fun n=>K (.sc (.int k n)))
  |.shr=>Ba k x fun a=>Ei y fun _ b=>Ar (decide (0<=b)) (Aa (Gw k a b) fun n=>K (.sc (.int k n)))
  |op=>Ba k x fun a=>Ba k y fun b=>RY op k a b K
 |some .string=>Bu x fun a=>Bu y fun b=>PP op a b K
 |some .bool=>
  match op with
  |.eql=>Bm x fun a=>Bm y fun b=>K (.sc (.bool (a==b)))
  |.neq=>Bm x fun a=>Bm y fun b=>K (.sc (.bool !(a==b)))
  |_=>none
 |some (.slice _)=>
  match op,y with
  |.eql,.sc (.slice none 0 0)=>SL true x K
  |.neq,.sc (.slice none 0 0)=>SL false x K
  |_,_=>none
 |some (.map _ _)=>
  match op,x,y with
  |.eql,.sc (.map none),.sc (.map none)=>K (.sc (.bool true))
  |.neq,.sc (.map none),.sc (.map none)=>K (.sc (.bool false))
  |_,_,_=>none
 |_=>none
def AE(P:Program)(op:BinOp)(t:TypeId)(x y:PV)(K:PV->Option R):Option R:=
 match P.underlying t with
 |some (.struct fs)=>
  match op with
  |.eql=>Ar (Aae P t fs) (Ef x fun xs=>Ef y fun ys=>O3 (CF P fs.toList) xs ys fun b=>K (.sc (.bool b)))
  |.neq=>Ar (Aae P t fs) (Ef x fun xs=>Ef y fun ys=>O3 (CF P fs.toList) xs ys fun b=>K (.sc (.bool !b)))
  |_=>none
 |_=>Aq0 P op t x y K
def unK(op:UnOp)(x:PV)(K:PV->Option R):Option R:=
 match op with
 |.not=>Bm x fun b=>K (.sc (.bool !b))
 |.neg=>Ei x fun k n=>Aa (k.wrap (0-n)) fun n=>K (.sc (.int k n))
 |.xor=>Ei x fun k n=>Aa (A6j k n) fun n=>K (.sc (.int k n))
 |_=>none
def bytesOf:Ae->Option (List UInt8)
 |[]=>some []
 |.sc (.int .u8 n)::r=>(bytesOf r).map (n.toNat.toUInt8 :: ·)
 |_::_=>none
def AH:Ae->Option Aj
 |[]=>some []
 |.sc (.int .i32 n)::r=>(AH r).map (n :: ·)
 |_::_=>none
def Dq(s:ByteArray):Ae:=s.data.toList.map fun b=>.sc (.int .u8 b.toNat)
def RN(P:Program)(rdf:Nat->Option Ae)(d:Nat)(src dst:TypeId)(x:PV)(K:PV->List (Nat × B7)->Option R):Option R:=
 match P.underlying dst with
 |some (.int k)=>Ar (P.underlying src).isSome (Ei x fun _ n=>Aa (k.wrap n) fun n=>K (.sc (.int k n)) [])
 |some .string=>
  match P.underlying src with
  |some .string=>Bu x fun s=>K (.sc (.string s)) []
  |some (.slice e)=>
   match P.underlying e with
   |some (.int .u8)=>Adk rdf 1 x fun n c=>Ar (decide (c.length=n)) (Dj (bytesOf c) fun b=>K (.sc (.string ⟨b.toArray⟩)) [])
   |some (.int .i32)=>Adk rdf 1 x fun n c=>Ar (decide (c.length=n)) (Dj (AH c) fun ns=>Aa (runesBytes ns) fun s=>K (.sc (.string s)) [])
   |_=>none
  |_=>none
 |some (.slice e)=>
  match P.underlying e,P.underlying src with
  |some (.int .u8),some .string=>Bu x fun s=>Ar (decide (s.size<=1099511627776)) (K (.view d 1 0 s.size) [(d,.ar false (Dq s))])
  |_,_=>none
 |_=>none
def Il(p:Option PV)(dflt:Nat)(K:Nat->Option R):Option R:=
 match p with
 |none=>K dflt
 |some p=>Ei p fun _ i=>Ar (decide (0<=i)) (K i.toNat)
def IR(P:Program)(rdf:Nat->Option Ae)(t:TypeId)(x:PV)(lo hi:Option PV)(K:PV->Option R):Option R:=
 match P.underlying t with
 |some .string=>Bu x fun s=>Il lo 0 fun l=>Il hi s.size fun h=>Ar (decide (l<=h)&&decide (h<=s.size)) (Aa (s.extract l h) fun s=>K (.sc (.string s)))
 |some (.slice e)=>Ar (P.info? e).isSome (
  match x with
  |.view id es off n=>Ar (Nat.beq es (A9 P e)) (Il lo 0 fun l=>Il hi n fun h=>Ar (decide (l<=h)&&decide (h<=n)) (Aa (off+l*es) fun o=>Aa (h-l) fun n=>K (.view id es o n)))
  |x=>Vn (A9 P e) x fun z n c=>Il lo 0 fun l=>Il hi n fun h=>Ar (decide (l<=h)&&decide (h<=n)) (Aa (h-l) fun n=>Aa ((c.drop (l*A9 P e)).take (n*A9 P e)) fun c=>K (.lst z (A9 P e) n c)))
 |some (.array n e)=>Ar (P.info? e).isSome (
  match x with
  |.ptr id off=>Dj (rdf id) fun c=>Ar (decide (1<=n*A9 P e)&&decide (off+n*A9 P e<=c.length)&&Nat.beq (A9 P e) 1)<|Il lo 0 fun l=>Il hi n fun h=>Ar (decide (l<=h)&&decide (h<=n)) (Aa (off+l*A9 P e) fun o=>Aa (h-l) fun n=>K (.view id (A9 P e) o n))
  |_=>none)
 |_=>none
def Z9(P:Program)(d:Nat)(t:TypeId)(x:PV)(lo hi mx:Option PV)(K:PV->List (Nat × B7)->Option R):Option R:=
 match P.underlying t with
 |some (.slice e)=>Ar ((P.info? e).isSome&&hi.isSome) (
  match x with
  |.view _ es _ n=>Ar (Nat.beq es (A9 P e)) (Il lo 0 fun l=>Il hi n fun h=>Il mx n fun m=>Ar (Nat.beq l m&&Nat.beq h m&&decide (m<=n)) (K (.view d (A9 P e) 0 0) [(d,.ar false [])]))
  |x=>Vn (A9 P e) x fun _ n _=>Il lo 0 fun l=>Il hi n fun h=>Il mx n fun m=>Ar (Nat.beq l m&&Nat.beq h m&&decide (m<=n)) (K (.view d (A9 P e) 0 0) [(d,.ar false [])]))
 |_=>none
def Zh(x:PV)(d:Nat)(K:PV->Option R):Option R:=
 match x with
 |.ptr id off=>K (.ptr id (off+d))
 |.iptr c off=>K (.iptr c (off+d))
 |_=>none
def PB(P:Program)(e:TypeId):Bool:=(P.info? e).isSome
def Vf(P:Program)(t:TypeId)(f:Nat):Option (Nat × TypeId):=
 match P.underlying t with
 |some (.struct fs)=>(fs[f]?).map fun g=>(g.offset,g.type)
 |_=>none
def Nx(P:Program)(t:TypeId)(x:PV)(i:Int)(K:PV->Option R):Option R:=
 match P.underlying t with
 |some (.array n e)=>Ar (PB P e) (Ar (decide (0<=i)&&decide (i<n)) (Zh x (i.toNat*A9 P e) K))
 |some (.slice e)=>Ar (PB P e) (
  match x with
  |.view id es off n=>Ar (Nat.beq es (A9 P e)) (Ar (decide (0<=i)&&decide (i<n)) (K (.ptr id (off+i.toNat*es))))
  |x=>Vn (A9 P e) x fun _ n c=>Ar (decide (0<=i)&&decide (i<n)) (K (.iptr c (i.toNat*A9 P e))))
 |_=>none
def DJ(P:Program)(rdf:Nat->Option Ae)(t:TypeId)(x:PV)(K:PV->Option R):Option R:=
 match x with
 |.ptr id off=>Ar (Lj P t) (Dj (rdf id) fun c=>Sj (Kc P t) c off fun cs=>mkV (Ch P t) cs K)
 |.iptr c off=>Ar (Lj P t) (Xn (Kc P t) c off fun cs=>mkV (Ch P t) cs K)
 |_=>none
def ZL:PV->PV
 |.lst _ es n c=>.lst false es n c
 |p=>p
def Aij:PV->PV
 |.agg cs=>.agg (cs.map ZL)
 |p=>ZL p
def EV(nz:Bool)(P:Program)(rdf rdaf:Nat->Option Ae)(t:TypeId)(x:PV)(K:PV->Option R):Option R:=
 match x with
 |.ptr id off=>Ar (Lj P t) (
  match rdaf id with
  |some c=>Xn (Kc P t) c off fun cs=>mkV (Ch P t) cs fun v=>K (bif nz then v else Aij v)
  |none=>Dj (rdf id) fun c=>Sj (Kc P t) c off fun cs=>mkV (Ch P t) cs K)
 |.iptr c off=>Ar (Lj P t) (Xn (Kc P t) c off fun cs=>mkV (Ch P t) cs fun v=>K (bif nz then v else Aij v))
 |_=>none
def B5(cells new:Ae)(off:Nat):Ae:=cells.take off++new++cells.drop (off+new.length)
def okP:PV->Bool
 |.agg _=>true
 |.lst _ _ _ _=>true
 |.view _ _ _ _=>true
 |.sc (.int _ _)=>true
 |.sc (.bool _)=>true
 |.sc (.string _)=>true
 |.sc (.slice none 0 0)=>true
 |_=>false
def Zs(Is:Nat->Option (Nat × Nat)):List (Nat × PV)->Ae->(Ae->Option R)->Option R
 |[],cells,K=>K cells
 |(i,p)::r,cells,K=>Dj (Is i) fun q=>Ar (okP p&&Nat.beq (cellsOf p).length q.2&&Nat.ble (q.1+q.2) cells.length) (Aa (B5 cells (cellsOf p) q.1) fun cells=>Zs Is r cells K)
def Vt(P:Program)(t:TypeId)(i:Nat):Option (Nat × Nat):=
 match P.underlying t with
 |some (.struct fs)=>(fs[i]?).map fun f=>(f.offset,A9 P f.type)
 |some (.array _ e)=>some (i*A9 P e,A9 P e)
 |some (.slice e)=>some (i*A9 P e,A9 P e)
 |_=>none
def U7(P:Program)(t:TypeId):Bool:=
 match P.underlying t with
 |some (.struct fs)=>fs.toList.all fun f=>PB P f.type
 |some (.array _ e)=>PB P e
 |some (.slice e)=>PB P e
 |_=>false
def T8(P:Program)(t:TypeId):Option Value:=(P.info? t).bind (·.zero)
def Iv(P:Program)(t:TypeId)(K:Ae->Option R):Option R:=
 Dj (T8 P t) fun v=>Ar (Nat.beq v.cells.toList.length (Kc P t).length&&Lj P t) (Xn (Kc P t) (v.cells.toList.map .sc) 0 K)
def V6(P:Program)(t:TypeId):Bool:=
 match P.underlying t with
 |some (.array _ _)=>true
 |_=>false
def Atx(P:Program)(t:TypeId)(cells:Ae):B7:=bif V6 P t then .ar false cells else .st cells
def Si(n:Nat)(l:Ae):Ae:=(List.replicate n l).flatten
def Aw0(a b:PV)(K:PV->Option R):Option R:=Ei a fun k x=>Ba k b fun y=>Aa (if y<x then y else x) fun n=>K (.sc (.int k n))
def Axl(a b:PV)(K:PV->Option R):Option R:=Ei a fun k x=>Ba k b fun y=>Aa (if x<y then y else x) fun n=>K (.sc (.int k n))
def Al5(P:Program)(t:TypeId)(x:PV)(K:Nat->Option R):Option R:=
 match P.underlying t with
 |some .string=>Bu x fun s=>K s.size
 |some (.array n _)=>K n
 |some (.slice e)=>
  match x with
  |.view _ es _ n=>Ar (Nat.beq es (A9 P e)) (K n)
  |x=>Vn (A9 P e) x fun _ n _=>K n
 |_=>none
end
abbrev Aq:=FuncId->Ae->Option A4
section
variable {R:Type}
def Mv(P:Program)(ts:List TypeId):Bool:=ts.any fun t=>(HT P t).isSome||(Kc P t).any fun c=>match c with | .sl _=>true|_=>false
def IE(P:Program)(t:TypeId)(tm:Nat->PV)(x:Operand)(K:PV->Option R):Option R:=
 match x with
 |.const v=>cvK P t v K
 |x=>K (Cp tm x)
def Aab(P:Program)(e:TypeId):Bool:=
 match P.info? e with
 |some i=>(match i.zero with|some z=>Nat.beq z.cells.size i.size|none=>false)
 |none=>false
def Ain(P:Program)(rdaf:Nat->Option Ae)(es:Nat)(t:TypeId)(x:PV)(K:Nat->Ae->Option R):Option R:=
 match P.underlying t with
 |some .string=>Ar (Nat.beq es 1) (Bu x fun b=>K b.size (Dq b))
 |some (.slice _)=>Adk rdaf es x K
 |_=>none
abbrev Agf(P:Program)(s:St)(es:Nat)(t:TypeId)(x:PV)(K:Nat->Ae->Option R):Option R:=Ain P (Mh s.hp) es t x K
def GH(c:Call):Bool:=
 match c.args.toList with
 |.const (.slice none 0 0)::_=>true
 |_=>false
def AM(P:Program)(rdaf:Nat->Option Ae)(d:Nat)(t tx:TypeId)(x:PV)(K:PV->List (Nat × B7)->Option R):Option R:=
 match P.underlying t with
 |some (.slice e)=>Ar (Aab P e) <|
  Ain P rdaf (A9 P e) tx x fun m new=>
   Ar (decide (new.length=m*A9 P e)&&decide (m*((P.info? e).map (·.bytes)).getD 0<=1099511627776)&&decide (m<=1099511627776)) (K (.view d (A9 P e) 0 m) [(d,.ar false new)])
 |_=>none
def Mj(k:Bool):List Operand->Ae->Ae
  |x::xs,p::ps=>
    (match x,p with
     |.const (.slice none 0 0),.lst z es 0 []=>.lst (k||z) es 0 []
     |_,p=>p)::Mj k xs ps
  |_,ps=>ps
def Alx(P:Program)(t:TypeId)(x:PV)(K:Nat->Option R):Option R:=
 match P.underlying t with
 |some (.slice e)=>Vn (A9 P e) x fun z _ _=>Ar z (K 0)
 |_=>none
def RH(P:Program)(f:FuncId)(c:Call):List TypeId:=
 match P.funcs[f]? with
 |some fn=>fn.params.toList
 |none=>c.argTypes.toList
def OK(C:G3)(P:Program)(N:Nat)(call:Aq)(tm:Nat->PV)(rdaf:Nat->Option Ae)(o:Oper)(c:Call)(f:FuncId)(K:PV->B2->List (Nat × B7)->Option R):Option R:=
 RI P rdaf (RH P f c) (c.args.toList.map (Cp tm)) fun vs m=>
  Bv (call f (Mj (C.kz f) c.args.toList vs)) fun rv ro=>Ao ro (Ar (Nat.blt 0 N)<|LF P (C.shr f) N (o.dst.getD 0) (Sa P o.type) rv fun ws bs=>
   Ar (bif Tr P o.type then !Nat.beq ws.length 1 else Nat.beq ws.length 1)<|K (Rw ws (Tr P o.type)) (bif Mv P (Sa P o.type) then m else []) bs)
def QA(C:G3)(P:Program)(N:Nat)(call:Aq)(tm:Nat->PV)(rdf rdaf:Nat->Option Ae)(o:Oper)(K:PV->B2->List (Nat × B7)->Option R):Option R:=
  match o.op with
  |.move x=>IE P o.type tm x fun p=>K p [] []
  |.assign x=>IE P o.type tm x fun p=>K p [] []
  |.pick c a b=>Bm (Cp tm c) fun t=>Ay t (K (Cp tm a) [] []) (K (Cp tm b) [] [])
  |.alloc t=>Dj o.dst fun d=>Iv P t fun cs=>K (.ptr d 0) [] [(d,Atx P t cs)]
  |.box t x=>Dj o.dst fun d=>Ar (Lj P t&&Nat.beq (cellsOf (Cp tm x)).length (Kc P t).length)
      (bif V6 P t then Xn (Kc P t) (cellsOf (Cp tm x)) 0 fun cs=>K (.ptr d 0) [] [(d,.ar false cs)]
       else Sj (Kc P t) (cellsOf (Cp tm x)) 0 fun cs=>K (.ptr d 0) [] [(d,.st cs)])
  |.build t ps=>Ar (U7 P t&&Ch P t)<|Iv P t fun z=>Zs (Vt P t) (ps.toList.map fun q=>(q.1,Cp tm q.2)) z fun cs=>Sj (Kc P t) cs 0 fun cs'=>K (.agg cs') [] []
  |.buildSlice t n ps=>Dj o.dst fun d=>
      match P.underlying t with
      |some (.slice e)=>Ar (U7 P t&&Nat.ble (n*A9 P e) 16777216) (Iv P e fun z=>Zs (Vt P t) (ps.toList.map fun q=>(q.1,Cp tm q.2)) (Si n z) fun cs=>
          Rr rdaf (List.replicate n (Kc P e)).flatten cs fun cs' m=>K (.view d (A9 P e) 0 n) m [(d,.ar false (bif C.nz N then Afb true cs cs' else cs'))])
      |_=>none
  |.load t a=>EV (C.nz N) P rdf rdaf t (Cp tm a) fun v=>K v [] []
  |.nilCheck x=>Zh (Cp tm x) 0 fun p=>K p [] []
  |.binOp op t x y _=>
      AE P op t (Cp tm x) (Cp tm y) fun v=>K v [] []
  |.unOp op _ x=>unK op (Cp tm x) fun v=>K v [] []
  |.convert src dst x=>RN P rdaf (o.dst.getD 0) src dst (Cp tm x) fun v b=>Dj o.dst fun _=>K v [] b
  |.makeSlice t l c=>Dj o.dst fun d=>
      match P.underlying t with
      |some (.slice e)=>Ei (Cp tm l) fun _ n=>Ei (Cp tm c) fun _ m=>
          Ar (decide (0<=n)&&decide (n<=m)&&decide (m*((P.info? e).map (·.bytes)).getD 0<=1099511627776)&&decide (m<=1099511627776))
            (Iv P e fun z=>K (.view d (A9 P e) 0 n.toNat) [] [(d,.ar false (Si n.toNat z))])
      |_=>none
  |.slice t x lo hi mx=>
      match mx with
      |none=>IR P rdf t (Cp tm x) (lo.map (Cp tm)) (hi.map (Cp tm)) fun v=>K v [] []
      |some m=>Dj o.dst fun d=>Z9 P d t (Cp tm x) (lo.map (Cp tm)) (hi.map (Cp tm)) (some (Cp tm m)) fun v nw=>K v [] nw
  |.fieldAddr t x f=>Dj (Vf P t f) fun q=>Ar (Nat.ble 1 (A9 P q.2)) (Zh (Cp tm x) q.1 fun p=>K p [] [])
  |.field t x f=>Dj (Vf P t f) fun q=>Ar (Lj P q.2)<|Ef (Cp tm x) fun cs=>Sj (Kc P q.2) cs q.1 fun c=>mkV (Ch P q.2) c fun v=>K v [] []
  |.indexAddr t x i=>Ei (Cp tm i) fun _ n=>Nx P t (Cp tm x) n fun p=>K p [] []
  |.index t x i=>Ei (Cp tm i) fun _ n=>
      match P.underlying t with
      |some .string=>Bu (Cp tm x) fun s=>Ar (decide (0<=n)) (Dj (s.data.toList[n.toNat]?) fun b=>K (.sc (.int .u8 b.toNat)) [] [])
      |some (.array len e)=>Ef (Cp tm x) fun cs=>Ar (decide (0<=n)&&decide (n<len)&&Lj P e) (Sj (Kc P e) cs (n.toNat*A9 P e) fun c=>mkV (Ch P e) c fun v=>K v [] [])
      |_=>none
  |.lookup t x k ok=>
      match P.underlying t with
      |some (.map kt vt)=>Ar (match P.underlying kt with|some .string=>true|_=>false) (
        match Cp tm x with
        |.sc (.map none)=>Bu (Cp tm k) fun _=>Dj (T8 P vt) fun z=>cvK P vt z fun v=>Ar (match v with | .tup _=>false|_=>true) (K (bif ok then .tup [v,.sc (.bool false)] else v) [] [])
        |_=>none)
      |_=>none
  |.extract x i=>
      match Cp tm x with
      |.tup vs=>Dj vs[i]? fun p=>K p [] []
      |_=>none
  |.call c=>
      match c.callee with
      |.builtin .len=>Ai c.args.toList fun x _=>Ai c.argTypes.toList fun t _=>Al5 P t (Cp tm x) fun n=>K (.sc (.int .i64 n)) [] []
      |.builtin .cap=>Ai c.args.toList fun x _=>Ai c.argTypes.toList fun t _=>Alx P t (Cp tm x) fun n=>K (.sc (.int .i64 n)) [] []
      |.builtin .min=>Ai c.args.toList fun x r=>Ai r fun y r'=>Ao r' (Aw0 (Cp tm x) (Cp tm y) fun v=>K v [] [])
      |.builtin .max=>Ai c.args.toList fun x r=>Ai r fun y r'=>Ao r' (Axl (Cp tm x) (Cp tm y) fun v=>K v [] [])
      |.builtin .append=>Ar (GH c) (Dj o.dst fun d=>Ai c.args.toList fun _ r=>Ai r fun x r'=>Ao r' (Ai c.argTypes.toList fun t u=>Ai u fun tx _=>AM P rdaf d t tx (Cp tm x) fun v nw=>K v [] nw))
      |.value (.func f)=>OK C P N call tm rdaf o c f K
      |.value (.tmp t)=>fvK (tm t) fun f=>OK C P N call tm rdaf o c f K
      |_=>none
  |_=>none
def X3(C:G3)(P:Program)(o:Op):Bool:=
 match o with
 |.store .. =>true
 |.call c=>
  match c.callee with
  |.builtin .append=> !GH c
  |.builtin .copy=>true
  |.builtin _=>false
  |.value (.func f)=>((RH P f c).any fun t=>(HT P t).isSome)||((RH P f c).zipIdx.any fun q=>C.mvd f q.2||C.lnd f q.2)
  |_=>false
 |_=>false
def Zl(b:B7):B7:=
 match b with
 |.ar _ c=>.ar true c
 |b=>b
def Af(hp:Nat->Option B7)(ids:B2):Nat->Option B7:=fun i=>bif ids.any (Nat.beq i) then (hp i).map Zl else hp i
def Av(hp:Nat->Option B7):List (Nat × B7)->Nat->Option B7
 |[]=>hp
 |(i,b)::r=>Av (Db hp i (some b)) r
def Ca(hp:Nat->Option B7):List (Nat × B7)->Bool
 |[]=>true
 |(i,_)::r=>(hp i).isNone && !(r.any fun q=>Nat.beq q.1 i)&&Ca hp r
def C8(tm:Nat->PV)(d:Option Tmp)(v:PV):Nat->PV:=
 match d with
 |some i=>Db tm i v
 |none=>tm
def Hx(N:Nat)(d:Option Tmp):Bool:=
 match d with
 |some i=>Nat.blt i N
 |none=>true
def JZ(N:Nat)(s:St)(d:Option Tmp)(v:PV)(fz:B2)(nw:List (Nat × B7))(K:St->Option R):Option R:=
 Ar (Hx N d&&Ca s.hp nw) (K ⟨C8 s.tm d v,Av (Af s.hp fz) nw⟩)
def JJ(P:Program)(s:St)(t:TypeId)(a x:PV)(K:St->Option R):Option R:=
 match a with
 |.ptr id off=>
  match s.hp id with
  |some (.st c)=>Ar (Lj P t&&Nat.beq (cellsOf x).length (Kc P t).length&&decide (off+(Kc P t).length<=c.length)) (Sj (Kc P t) (cellsOf x) 0 fun cs=>Aa (B5 c cs off) fun c=>K ⟨s.tm,Db s.hp id (some (.st c))⟩)
  |some (.ar false c)=>Ar (Lj P t&&decide (off+(Kc P t).length<=c.length)) (Rr (Mh s.hp) (Kc P t) (cellsOf x) fun cs m=>Ar (!m.any (Nat.beq id)) (Aa (B5 c cs off) fun c=>K ⟨s.tm,Db (Af s.hp m) id (some (.ar false c))⟩))
  |_=>none
 |_=>none
def NP(P:Program)(t:TypeId):Bool:=
 match P.underlying t with
 |some (.int _)=>true
 |_=>false
def FT(P:Program)(N:Nat)(s:St)(d:Nat)(e:TypeId)(b x:PV)(K:St->Option R):Option R:=
 Ei x fun _ n=>Vn (A9 P e) b fun z _ _=>
  Ar (z&&Nat.blt d N&&(s.hp d).isNone&&decide (0<=n)&&decide (n.toNat*((P.info? e).map (·.bytes)).getD 0<=1099511627776)&&decide (n<=1099511627776))
   (K ⟨Db s.tm d (.view d (A9 P e) 0 n.toNat),Db s.hp d (some (.ar false []))⟩)
def Z7(P:Program)(N:Nat)(s:St)(d:Nat)(t tx:TypeId)(b x:PV)(K:St->Option R):Option R:=
 match P.underlying t with
 |some (.slice e)=>Ar (Aab P e) <|
  bif NP P tx then FT P N s d e b x K else
  Agf P s (A9 P e) tx x fun m new=>
  match b with
  |.view id es off n=>
   match s.hp id with
   |some (.ar false c)=>
    Ar (Nat.beq es (A9 P e)&&Nat.beq off 0&&Nat.blt d N&&(s.hp d).isNone&&decide (n*es<=c.length)&&decide (new.length=m*es)
     && decide ((n+m)*((P.info? e).map (·.bytes)).getD 0<=1099511627776)&&decide (n+m<=1099511627776))
     (Aa (n+m) fun n'=>Aa (c.take (n*es)++new) fun c=>K ⟨Db s.tm d (.view d es 0 n'),Db (Db s.hp id (some .mv)) d (some (.ar false c))⟩)
   |_=>none
  |b=>Vn (A9 P e) b fun z _ _=>
    Ar (z&&Nat.blt d N&&(s.hp d).isNone&&decide (new.length=m*A9 P e)&&decide (m*((P.info? e).map (·.bytes)).getD 0<=1099511627776)&&decide (m<=1099511627776))
     (K ⟨Db s.tm d (.view d (A9 P e) 0 m),Db s.hp d (some (.ar false new))⟩)
 |_=>none
def WW(P:Program)(N:Nat)(s:St)(d:Option Tmp)(t tx:TypeId)(b x:PV)(K:St->Option R):Option R:=
 match P.underlying t with
 |some (.slice e)=>Ar (PB P e&&Hx N d) <|
  Agf P s (A9 P e) tx x fun m new=>
  match b with
  |.view id es off n=>
   match s.hp id with
   |some (.ar false c)=>Ar (Nat.beq es (A9 P e)&&decide (off+n*es<=c.length)&&decide (new.length=m*es))
     (Aa (min m n) fun k=>Aa (B5 c (new.take (k*es)) off) fun c=>K ⟨C8 s.tm d (.sc (.int .i64 k)),Db s.hp id (some (.ar false c))⟩)
   |_=>none
  |_=>none
 |_=>none
def Anm(mv:Bool)(hp:Nat->Option B7)(t:CT)(p:PV)(K:PV->B2->B2->Option R):Option R:=
 match t with
 |.sl es=>
  bif mv then
   match p with
   |.view id es' off n=>
    match hp id with
    |some (.ar false c)=>
     bif Nat.beq es' es&&Nat.beq off 0 then Ar (decide (n*es<=c.length)) (K (.own es n (c.take (n*es))) [] [id])
     else Su (Mh hp) (.sl es) (.view id es' off n) fun c m=>K c m []
    |_=>Su (Mh hp) (.sl es) (.view id es' off n) fun c m=>K c m []
   |p=>Vn es p fun z n c=>bif z then K (.own es 0 []) [] [] else K (.lst false es n c) [] []
  else Su (Mh hp) (.sl es) p fun c m=>K c m []
 |t=>IB t p fun c=>K c [] []
def KN(mv:Bool)(hp:Nat->Option B7):List CT->Ae->(Ae->B2->B2->Option R)->Option R
 |[],[],K=>K [] [] []
 |t::ts,p::ps,K=>Anm mv hp t p fun c m x=>KN mv hp ts ps fun cs ms xs=>K (c::cs) (m++ms) (x++xs)
 |_,_,_=>none
inductive Ih where
 |var (id off:Nat) (cts:List CT) (ws:Ae)
 |row (id:Nat)
 |none
def Ih.ids:Ih->B2
 |.var id _ _ _=>[id]
 |.row id=>[id]
 |.none=>[]
def A7h(P:Program)(t:TypeId):Option TypeId:=
 match P.underlying t with
 |some (.slice e)=>some e
 |_=>none
def Ao1(hp:Nat->Option B7)(es:Nat)(p:PV)(K:PV->List Ih->Option R):Option R:=
 match p with
 |.view id es' off n=>
  match hp id with
  |some (.ar false c)=>Ar (Nat.beq es' es&&Nat.beq off 0) (K (.tup [.own es n c]) [.row id])
  |_=>none
 |p=>Vn es p fun z _ _=>Ar z (K (.tup [.own es 0 []]) [.none])
def IJ(C:G3)(P:Program)(f:FuncId)(hp:Nat->Option B7)(i:Nat)(t:TypeId)(p:PV)(K:PV->B2->B2->List Ih->Option R):Option R:=
 match HT P t with
 |some e=>
  match p with
  |.ptr id off=>
   match hp id with
   |some (.st c)=>Ar (Lj P e&&decide (off+(Kc P e).length<=c.length)) (KN (C.mvd f i) hp (Kc P e) ((c.drop off).take (Kc P e).length) fun cs m x=>K (.pbox cs) m x [.var id off (Kc P e) cs])
   |_=>none
  |_=>none
 |none=>
  bif C.lnd f i then Dj (A7h P t) fun e=>Ao1 hp (A9 P e) p fun v l=>K v [] [] l
  else bif Ch P t then Ef p fun ps=>KN (C.mvd f i) hp (Kc P t) ps fun cs m x=>K (.agg cs) m x []
  else KN (C.mvd f i) hp (Kc P t) [p] fun cs m x=>Ai cs fun c r=>Ao r (K c m x [])
def UI(C:G3)(P:Program)(f:FuncId)(hp:Nat->Option B7):Nat->List TypeId->Ae->(Ae->B2->B2->List Ih->Option R)->Option R
 |_,[],[],K=>K [] [] [] []
 |i,t::ts,p::ps,K=>IJ C P f hp i t p fun v m x l=>UI C P f hp (i+1) ts ps fun vs ms xs ls=>K (v::vs) (m++ms) (x++xs) (l++ls)
 |_,_,_,_=>none
def Yv(hp:Nat->Option B7)(ids:B2):Nat->Option B7:=fun i=>bif ids.any (Nat.beq i) then (hp i).map (fun _=>B7.mv) else hp i
def nid(N t:Nat):Nat:=N*(1000+t)
def Ac0(N:Nat)(hp:Nat->Option B7):Nat->Nat->Nat
 |0,t=>t
 |k+1,t=>bif (hp (nid N t)).isNone then t else Ac0 N hp k (t+1)
def Amd(N t:Nat)(ct:CT)(was p:PV)(K:Nat->PV->List (Nat × B7)->Option R):Option R:=
 match ct with
 |.sl es=>
  match was with
  |.own _ _ _=>Lg es p fun n c=>K (t+1) (.view (nid N t) es 0 n) [(nid N t,.ar false c)]
  |_=>Vn es p fun _ n c=>K t (.lst false es n c) []
 |ct=>IB ct p fun c=>K t c []
def UP(N:Nat):Nat->List CT->Ae->Ae->(Nat->Ae->List (Nat × B7)->Option R)->Option R
 |t,[],[],ps,K=>Ao ps (K t [] [])
 |t,ct::cts,w::ws,ps,K=>Ai ps fun p ps=>Amd N t ct w p fun t' c b=>UP N t' cts ws ps fun t'' cs bs=>K t'' (c::cs) (b++bs)
 |_,_,_,_,_=>none
def EH(N:Nat):Nat->List Ih->List Ae->(Nat->Option B7)->((Nat->Option B7)->List (Nat × B7)->Option R)->Option R
 |_,[],ro,hp,K=>Ao ro (K hp [])
 |t,.var id off cts ws::l,ro,hp,K=>Ai ro fun cs ro=>UP N t cts ws cs fun t' cs' bs=>
   match hp id with
   |some (.st c)=>Aa (B5 c cs' off) fun c=>EH N t' l ro (Db hp id (some (.st c))) fun D1 bs'=>K D1 (bs++bs')
   |_=>none
 |t,.row id::l,ro,hp,K=>Ai ro fun cs ro=>EH N t l ro (Db hp id (some (.ar false cs))) K
 |t,.none::l,ro,hp,K=>Ai ro fun _ ro=>EH N t l ro hp K
def Et:B2->Bool
 |[]=>true
 |a::r=> !(r.any (Nat.beq a))&&Et r
def IV(C:G3)(P:Program)(N:Nat)(call:Aq)(s:St)(o:Oper)(f:FuncId)(c:Call)(K:St->Option R):Option R:=
 UI C P f s.hp 0 (RH P f c) (c.args.toList.map (Cp s.tm)) fun vs m x l=>
  Ar (Et (l.flatMap Ih.ids++x)&&m.all (fun i=> !((l.flatMap Ih.ids++x).any (Nat.beq i)))&&Nat.blt 0 N&&Hx N o.dst) <|
  Bv (call f (Mj (C.kz f) c.args.toList vs)) fun rv ro=>
   LF P (C.shr f) N (o.dst.getD N) (Sa P o.type) rv fun ws bs=>
    Ar (bif Tr P o.type then !Nat.beq ws.length 1 else Nat.beq ws.length 1) <|
    Be6 (Ac0 N s.hp 100 0) fun t0=>EH N t0 l ro (Yv (Af s.hp m) x) fun D1 bs'=>
     Ar (Ca D1 (bs++bs')) (K ⟨C8 s.tm o.dst (Rw ws (Tr P o.type)),Av D1 (bs++bs')⟩)
def YT(C:G3)(P:Program)(N:Nat)(call:Aq)(s:St)(o:Oper)(K:St->Option R):Option R:=
 match o.op with
 |.store t a x=>Ar (o.dst.isNone) (JJ P s t (Cp s.tm a) (Cp s.tm x) K)
 |.call c=>
  match c.callee with
  |.builtin .append=>Dj o.dst fun d=>Ai c.args.toList fun b r=>Ai r fun x r'=>Ao r' (Ai c.argTypes.toList fun t u=>Ai u fun tx _=>Z7 P N s d t tx (Cp s.tm b) (Cp s.tm x) K)
  |.builtin .copy=>Ai c.args.toList fun b r=>Ai r fun x r'=>Ao r' (Ai c.argTypes.toList fun t u=>Ai u fun tx _=>WW P N s o.dst t tx (Cp s.tm b) (Cp s.tm x) K)
  |.value (.func f)=>IV C P N call s o f c K
  |_=>none
 |_=>none
def Ad0(C:G3)(P:Program)(N:Nat)(call:Aq)(o:Oper)(s:St)(K:St->Option R):Option R:=
 bif X3 C P o.op then YT C P N call s o K
 else QA C P N call s.tm (rd s.hp) (Mh s.hp) o fun v fz nw=>JZ N s o.dst v fz nw K
def Es(C:G3)(P:Program)(N:Nat)(call:Aq)(ops:Array Oper)(o:Oper)(s:St)(K:St->Option R):Option R:=
 match o.guard with
 |none=>Ad0 C P N call o s K
 |some (j,want)=>
  match (ops[j]?).bind (·.dst) with
  |none=>none
  |some d=>
   match s.tm d with
   |.sc (.bool b)=>
    Ay b (bif want then Ad0 C P N call o ⟨Db s.tm d (.sc (.bool true)),s.hp⟩ K else Ar (Hx N o.dst) (K ⟨C8 (Db s.tm d (.sc (.bool true))) o.dst (.sc undef),s.hp⟩))
     (bif want then Ar (Hx N o.dst) (K ⟨C8 (Db s.tm d (.sc (.bool false))) o.dst (.sc undef),s.hp⟩) else Ad0 C P N call o ⟨Db s.tm d (.sc (.bool false)),s.hp⟩ K)
   |.sc (.tuple _)=>Ar (Hx N o.dst) (K ⟨C8 s.tm o.dst (.sc undef),s.hp⟩)
   |_=>none
def P4(C:G3)(P:Program)(N:Nat)(call:Aq)(ops:Array Oper):List Oper->St->(St->Option R)->Option R
 |[],s,K=>K s
 |o::r,s,K=>Es C P N call ops o s fun s'=>P4 C P N call ops r s' K
def Wt(x y:Option R):Option R:=open Classical in if x=y then x else none
def OB(ops:Array Oper)(o:Oper)(s:St)(F:St->Option R):Option R:=
 match o.guard with
 |none=>F s
 |some (j,_)=>
  match (ops[j]?).bind (·.dst) with
  |none=>F s
  |some d=>
   match s.tm d with
   |.ub=>Wt (F ⟨Db s.tm d (.sc (.bool true)),s.hp⟩) (F ⟨Db s.tm d (.sc (.bool false)),s.hp⟩)
   |_=>F s
def JI(C:G3)(P:Program)(N:Nat)(call:Aq)(ops:Array Oper):List Oper->St->(St->Option R)->Option R
 |[],s,K=>K s
 |o::r,s,K=>OB ops o s fun s1=>Es C P N call ops o s1 fun s'=>JI C P N call ops r s' K
end
def Aub(o:Oper):B2:=o.op.operands.toList.filterMap fun x=>match x with | .tmp t=>some t|_=>none
def looks(ops:Array Oper)(o:Oper):B2:=
 Aub o++(match o.guard with|some (g,_)=>((ops[g]?).bind (·.dst)).toList|none=>[])
def Jn(P:Program)(o:Op):Bool:=
 match o with
 |.slice t .. =>match P.underlying t with|some (.array _ _)=>true|_=>false
 |.buildSlice t _ _=>match P.underlying t with|some (.slice e)=>Mv P [e]|_=>true
 |.convert _ dst _=>match P.underlying dst with|some .string=>true|_=>false
 |.alloc _ | .box .. | .makeSlice .. =>false
 |.move _ | .assign _ | .pick .. | .build .. | .binOp .. | .unOp .. | .fieldAddr .. | .field .. | .index .. | .indexAddr .. | .extract .. | .nilCheck _=>false
 |.call c=>match c.callee with | .builtin .len=>false | .builtin .min=>false | .builtin .max=>false|_=>true
 |_=>true
def QZ(C:G3)(P:Program)(ops:Array Oper)(x y:Oper):Bool:=
 (match x.dst with|some d=>(looks ops y).any (Nat.beq d)||(match y.dst with|some e=>Nat.beq d e|none=>false)|none=>false) ||
 (match y.dst with|some e=>(looks ops x).any (Nat.beq e)|none=>false) ||
 (X3 C P x.op&&Jn P y.op)||(X3 C P y.op&&Jn P x.op)
def Jt(ops:List Oper):B2->B2
 |acc=>match ops with
  |[]=>acc
  |o::r=>Jt r (acc++[o.after.toList.foldl (fun s e=>bif Region.binds .any e then s ||| 2 ^ e.on ||| acc.getD e.on 0 else s) 0])
def NO(C:G3)(P:Program)(ops:Array Oper)(bs:B2):List Oper->Nat->Bool
 |[],_=>true
 |o::r,i=>(ops.toList.zipIdx.all fun q=> !Nat.blt q.2 i || !QZ C P ops q.1 o||(bs.getD i 0).testBit q.2)&&NO C P ops bs r (i+1)
def SB(C:G3)(P:Program)(ops:Array Oper):Bool:=
 ops.toList.zipIdx.all (fun q=>q.1.after.toList.all fun e=> !Region.binds .any e||Nat.blt e.on q.2)&&NO C P ops (Jt ops.toList []) ops.toList 0
def At:PV->B2
 |.view id _ _ _=>[id]
 |.ptr id _=>[id]
 |_=>[]
def Cy:PV->B2
 |.agg cs=>cs.flatMap At
 |p=>At p
def Ci:PV->B2
 |.tup ps=>ps.flatMap Cy
 |p=>Cy p
def Ym(P:Program)(o:Op):Bool:=
 match o with
 |.load .. =>true
 |.convert _ dst _=>(match P.underlying dst with|some .string=>true|_=>false)
 |_=>false
def MU(o:Op):Bool:=
 match o with
 |.call c=>(match c.callee with | .builtin .append=> !GH c|_=>false)
 |_=>false
def Aun(ops:Array Oper)(x y:Oper):Bool:=
 (match x.dst with|some d=>(looks ops y).any (Nat.beq d)||(match y.dst with|some e=>Nat.beq d e|none=>false)|none=>false) ||
 (match y.dst with|some e=>(looks ops x).any (Nat.beq e)|none=>false)
def Vq(C:G3)(P:Program)(x y:Oper):Bool:=(X3 C P x.op&&Jn P y.op)||(X3 C P y.op&&Jn P x.op)
def Nb(C:G3)(P:Program)(x y:Oper):Bool:=(X3 C P x.op&&Ym P y.op)||(X3 C P y.op&&Ym P x.op)
def Ase(C:G3)(P:Program)(ops:Array Oper)(x y:Oper):Bool:=Aun ops x y||(Vq C P x y && !Nb C P x y)
def GN(C:G3)(P:Program)(ops:Array Oper)(bs:B2):List Oper->Nat->Bool
 |[],_=>true
 |o::r,i=>(ops.toList.zipIdx.all fun q=> !Nat.blt q.2 i || !Ase C P ops q.1 o||(bs.getD i 0).testBit q.2)&&GN C P ops bs r (i+1)
def JC(C:G3)(P:Program)(ops:Array Oper):Bool:=
 ops.toList.zipIdx.all (fun q=>q.1.after.toList.all fun e=> !Region.binds .any e||Nat.blt e.on q.2)&&GN C P ops (Jt ops.toList []) ops.toList 0
def P3(C:G3)(P:Program)(s:St)(o:Oper):B2:=
 let l:=o.op.operands.toList.flatMap fun y=>Ci (Cp s.tm y)
 bif X3 C P o.op && !MU o.op then l++l.flatMap (fun i=>match s.hp i with|some (.st c)=>c.flatMap At|_=>[])
 else bif Ym P o.op||MU o.op then l else []
def Am7(a b:B2):Bool:=a.all fun i=> !b.any (Nat.beq i)
def GB(C:G3)(P:Program)(ops:Array Oper)(bs:B2)(i:Nat)(o:Oper):B2:=
 (ops.toList.zipIdx.filter fun q=>Nb C P q.1 o && !(Nat.blt q.2 i&&(bs.getD i 0).testBit q.2) && !(Nat.blt i q.2&&(bs.getD q.2 0).testBit i)).map (·.2)
def HM(C:G3)(P:Program)(ops:Array Oper)(bs:B2):List B2:=ops.toList.zipIdx.map fun q=>GB C P ops bs q.2 q.1
def MS(C:G3)(P:Program)(sm:List B2)(s:St)(i:Nat)(o:Oper):B2:=
 match sm.getD i [] with
 |[]=>[]
 |_::_=>P3 C P s o
def TQ(C:G3)(P:Program)(sm:List B2)(s:St)(i:Nat)(o:Oper)(q:Nat × Oper × B2):Bool:=
 !((sm.getD i []).any (Nat.beq q.1))||Am7 q.2.2 (MS C P sm s i o)
def I6{R:Type}(C:G3)(P:Program)(N:Nat)(call:Aq)(ops:Array Oper)(sm:List B2):List (Nat × Oper × B2)->B2->St->(St->Option R)->Option R
 |_,[],s,K=>K s
 |dn,i::l,s,K=>Dj ops[i]? fun o=>Ar (dn.all (TQ C P sm s i o)&&(MS C P sm s i o).all (fun k=>(s.hp k).isSome)) (Es C P N call ops o s fun s'=>I6 C P N call ops sm ((i,o,MS C P sm s i o)::dn) l s' K)
def Aug(m i:Nat):Nat:=m ||| 2 ^ i
def Bgg(m i:Nat):Nat:=bif m.testBit i then m ^^^ 2 ^ i else m
def Ajp(ops:Array Oper):List Oper->Nat->Nat
 |[],m=>m
 |o::r,m=>
  let m1:=Ajp ops r m
  let m2:=match o.dst with|some d=>Bgg m1 d|none=>m1
  (looks ops o).foldl Aug m2
def K2:Code->Nat->(Nat->Nat)->Nat->Nat
 |.skip,ln,_,_=>ln
 |.region _ ops _,ln,_,_=>Ajp ops ops.toList ln
 |.seq a b,ln,lx,lr=>K2 a (K2 b ln lx lr) lx lr
 |.cond c a b,ln,lx,lr=>let m:=K2 a ln lx lr ||| K2 b ln lx lr;match c with | .tmp d=>Aug m d|_=>m
 |.block id c,ln,lx,lr=>K2 c ln (fun j=>bif Nat.beq j id then ln else lx j) lr
 |.loop c,_,lx,lr=>K2 c (K2 c 0 lx lr) lx lr
 |.exit id,_,lx,_=>lx id
 |.ret,_,_,lr=>lr
 |_,_,_,_=>0
def Adu(ops:List Oper):B2:=(ops.filterMap fun o=>o.guard.map (·.1)).eraseDups
def H9:Code->Nat
 |.region _ _ _=>1
 |.seq a b=>H9 a+H9 b
 |.cond _ a b=>H9 a+H9 b
 |.block _ c=>H9 c
 |.loop c=>H9 c
 |_=>0
def Xi:Code->Nat
 |.skip=>1
 |.region _ ops _=>2 ^ min 6 (Adu ops.toList).length
 |.seq a b=>bif (Nat.ble 7 (Xi a)&&Nat.ble 6 (H9 b))||(Nat.ble 5 (Xi a)&&Nat.ble 9 (H9 b)) then Xi b else min 1000 (Xi a*Xi b)
 |.cond _ a b=>Xi a+Xi b
 |.block _ c=>Xi c
 |.loop _=>1
 |.exit _=>1
 |_=>0
def A0a(P:Program)(o:Oper):Bool:=
 match o.op with
 |.load t _=>V6 P t&&Nat.ble 8 (A9 P t)
 |.store t _ _=>V6 P t&&Nat.ble 8 (A9 P t)
 |_=>false
def Afd(P:Program):Code->Bool
 |.region _ ops _=>ops.toList.any (A0a P)
 |.seq a _=>Afd P a
 |_=>false
def Ai4(P:Program):Code->Bool
 |.region _ ops _=>ops.toList.any (A0a P)
 |.seq _ b=>Ai4 P b
 |_=>false
def Axq(P:Program)(o:Oper):Bool:=
 match o.op with
 |.call _=> !V6 P o.type&&(Nat.beq (A9 P o.type) 8||Nat.ble 15 (A9 P o.type))
 |_=>false
def FQ(P:Program):Code->Bool
 |.region _ ops _=>ops.toList.any (Axq P)
 |.seq _ b=>FQ P b
 |.cond _ a b=>FQ P a||FQ P b
 |_=>false
def A70:Code->Nat
 |.seq a b=>match b with
  |.ret=>(match a with | .region _ ops _=>(Adu ops.toList).length|_=>0)
  |_=>A70 b
 |_=>0
def Aqi(x y:Code):Bool:=(Nat.beq (Xi x) 1&&Nat.beq (A70 y) 11)||(Nat.beq (Xi x) 4&&Nat.beq (H9 x) 7&&(Nat.beq (H9 y) 3||Nat.beq (H9 y) 1))||(Nat.beq (Xi x) 9&&Nat.beq (H9 x) 5&&Nat.beq (H9 y) 5)
def Wl(a b:Code):Bool:=Aqi a b||(match b with | .seq x y=>Aqi x y|_=>false)
def A8x(a b:Code):Bool:=Nat.beq (Xi a) 2&&Nat.beq (H9 a) 2&&(match a with | .seq x _=>Nat.beq (Xi x) 2|_=>false)&&(match b with | .seq c d=>Nat.beq (Xi c) 2&&((Nat.beq (H9 c) 2&&Nat.beq (H9 d) 5)||(Nat.beq (H9 c) 4&&Nat.beq (H9 d) 1))|_=>false)
def Ad7(P:Program)(a b:Code):Bool:=A8x a b||(Nat.ble 7 (Xi a)&&Nat.ble 6 (H9 b))||(Nat.ble 5 (Xi a)&&Nat.ble 9 (H9 b))||(Nat.beq (Xi a) 4&&Nat.beq (H9 a) 11&&Nat.beq (H9 b) 10)||(Nat.beq (Xi a) 2&&Nat.beq (H9 a) 3&&(Nat.beq (H9 b) 10||Nat.beq (H9 b) 7))||Wl a b||Afd P b||Ai4 P a||FQ P a
def I1(m:Nat):Nat->B2
 |0=>[]
 |n+1=>I1 m n++(bif m.testBit n then [n] else [])
def lk(l:List (Nat × PV))(i:Nat):PV:=
 match l with
 |[]=>.top
 |(j,p)::r=>bif Nat.beq i j then p else lk r i
def Fx(l:List (Nat × B7))(i:Nat):Option B7:=
 match l with
 |[]=>none
 |(j,b)::r=>bif Nat.beq i j then some b else Fx r i
def BQ(l:List (Nat × Nat))(i:Nat):Option Nat:=
 match l with
 |[]=>none
 |(j,b)::r=>bif Nat.beq i j then some b else BQ r i
def FY(N:Nat)(s:St)(i:Nat):St:=
 match s.tm i with
 |.lst true es 0 []=>
  bif (s.hp i).isNone then ⟨Db s.tm i (.view i es 0 0),Db s.hp i (some (.ar false []))⟩
  else bif (s.hp (i+N*3000)).isNone then ⟨Db s.tm i (.view (i+N*3000) es 0 0),Db s.hp (i+N*3000) (some (.ar false []))⟩
  else s
 |_=>s
def ZP(N:Nat)(id:Nat)(s:St)(j:Nat):St:=
 match s.hp id with
 |some (.st c)=>
  match c[j]? with
  |some (.lst true es 0 [])=>bif (s.hp (id+N*(j+1))).isNone then ⟨s.tm,Db (Db s.hp id (some (.st (c.set j (.view (id+N*(j+1)) es 0 0))))) (id+N*(j+1)) (some (.ar false []))⟩ else s
  |_=>s
 |_=>s
def SR(N:Nat)(s:St)(i:Nat):St:=
 match s.tm i with
 |.ptr id _=>
  match s.hp id with
  |some (.st c)=>(List.range c.length).foldl (ZP N id) s
  |_=>s
 |_=>s
def WF(m:List (Nat × Nat))(old new:Nat):List (Nat × Nat):=
 match BQ m old with
 |some _=>m
 |none=>m++[(old,new)]
def Vs(N new:Nat):Ae->Nat->List (Nat × Nat)->List (Nat × Nat)
 |[],_,m=>m
 |.view id _ _ _::r,j,m=>Vs N new r (j+1) (WF m id (new+N*(j+1)))
 |_::r,j,m=>Vs N new r (j+1) m
def GM(N:Nat)(s:St)(m:List (Nat × Nat))(i:Nat):List (Nat × Nat):=
 match s.tm i with
 |.view id _ _ _=>WF m id i
 |.ptr id _=>
  match BQ m id with
  |some _=>m
  |none=>
   match s.hp id with
   |some (.st c)=>Vs N i c 0 (WF m id i)
   |_=>WF m id i
 |.agg c=>Vs N i c 0 m
 |_=>m
def Ag0(m:List (Nat × Nat)):PV->PV
 |.view id es off n=>match BQ m id with|some j=>.view j es off n|none=>.top
 |.ptr id off=>match BQ m id with|some j=>.ptr j off|none=>.top
 |.sc v=>.sc v
 |.lst z es n c=>.lst z es n c
 |.iptr c off=>.iptr c off
 |_=>.top
def Agj(m:List (Nat × Nat)):PV->PV
 |.agg c=>.agg (c.map (Ag0 m))
 |p=>Ag0 m p
def Ax3(m:List (Nat × Nat)):B7->B7
 |.st c=>.st (c.map (Ag0 m))
 |b=>b
def Eb(N i:Nat):Nat:=i+N*2000
def Adj(N:Nat)(hp:Nat->Option B7):Nat->List (Nat × Nat)
 |0=>[]
 |i+1=>bif (hp (Eb N i)).isSome then Adj N hp i++[(Eb N i,Eb N i)] else Adj N hp i
def Ze(N:Nat)(hp:Nat->Option B7):Nat->List (Nat × Nat)->List (Nat × Nat)
 |0,m=>m
 |i+1,m=>
  match hp (Eb N i) with
  |some (.st c)=>Vs N (Eb N i) c 0 (Ze N hp i m)
  |_=>Ze N hp i m
def A9u(N:Nat)(hp:Nat->Option B7)(k:Nat):List (Nat × Nat):=Ze N hp k (Adj N hp k)
def Pg(m:List (Nat × Nat))(hp:Nat->Option B7):List (Nat × Nat)->List (Nat × B7)
 |[]=>[]
 |(old,new)::r=>match hp old with
  |some b=>(new,Ax3 m b)::Pg m hp r
  |none=>Pg m hp r
section
variable {R:Type}
def OO(N:Nat)(ls:B2)(q:Bool)(s:St)(K:St->Option R):Option R:=
 let s2:=bif q then s else ls.foldl (SR N) (ls.foldl (FY N) s)
 let m:=ls.foldl (GM N s2) (A9u N s2.hp 8)
 Ar (Et (m.map (·.1))&&Et (m.map (·.2))) (K ⟨lk (ls.map fun i=>(i,Agj m (s2.tm i))),Fx (Pg m s2.hp m)⟩)
def HG(N L:Nat)(s:St)(K:St->Option R):Option R:=OO N (I1 L N) false s K
def Ak4(N L:Nat)(s:St)(K:St->Option R):Option R:=OO N (I1 L N) true s K
def Aih(F:(St->Option R)->St->Option R)(nm:St->(St->Option R)->Option R):Nat->St->Option R
 |0,_=>none
 |n+1,s=>F (fun s'=>nm s' (Aih F nm n)) s
def FJ(n:Nat)(F:St->Option R)(s:St):Option R:=
 match n with
 |0=>none
 |_+1=>F s
def Afi(s:St)(c:Operand)(kt kf:St->Option R):Option R:=
 match c with
 |.tmp d=>
  match s.tm d with
  |.sc (.bool b)=>Ay b (kt ⟨Db s.tm d (.sc (.bool true)),s.hp⟩) (kf ⟨Db s.tm d (.sc (.bool false)),s.hp⟩)
  |.ub=>Wt (kt s) (kf s)
  |_=>none
 |.const (.bool true)=>kt s
 |.const (.bool false)=>kf s
 |_=>none
def M3(C:G3)(P:Program)(fu N:Nat)(call:Aq):Code->Nat->(Nat->Nat)->Nat->(St->Option R)->(Nat->St->Option R)->(St->Option R)->St->Option R
 |.skip,_,_,_,kn,_,_,s=>kn s
 |.region _ ops draw,_,_,_,kn,_,_,s=>MB (draw && !SB C P ops) (Ar (JC C P ops) (Aq5 (HM C P ops (Jt ops.toList [])) fun sm=>I6 C P N call ops sm [] (List.range ops.size) s kn)) (MB draw (P4 C P N call ops ops.toList s kn) (JI C P N call ops ops.toList s kn))
 |.seq a b,ln,lx,lr,kn,kx,kr,s=>M3 C P fu N call a (K2 b ln lx lr) lx lr (fun s'=>MB (Ad7 P a b) (MB (Wl a b) (Ak4 N (K2 b ln lx lr) s' (FJ fu fun s''=>M3 C P fu N call b ln lx lr kn kx kr s'')) (HG N (K2 b ln lx lr) s' (FJ fu fun s''=>M3 C P fu N call b ln lx lr kn kx kr s''))) (M3 C P fu N call b ln lx lr kn kx kr s')) kx kr s
 |.cond c a b,ln,lx,lr,kn,kx,kr,s=>Afi s c (M3 C P fu N call a ln lx lr kn kx kr) (M3 C P fu N call b ln lx lr kn kx kr)
 |.block id c,ln,lx,lr,kn,kx,kr,s=>M3 C P fu N call c ln (fun j=>bif Nat.beq j id then ln else lx j) lr kn (fun j s'=>bif Nat.beq j id then kn s' else kx j s') kr s
 |.loop c,ln,lx,lr,_,kx,kr,s=>
  HG N (K2 (.loop c) ln lx lr) s (Aih (fun k s'=>M3 C P fu N call c (K2 (.loop c) ln lx lr) lx lr k kx kr s') (HG N (K2 (.loop c) ln lx lr)) fu)
 |.exit id,_,_,_,_,kx,_,s=>kx id s
 |.ret,_,_,_,_,_,kr,s=>kr s
 |_,_,_,_,_,_,_,_=>none
def Auh(id:Nat)(t:CT)(p:PV)(K:PV->List (Nat × B7)->Option R):Option R:=
 match t with
 |.sl es=>
  match p with
  |.own es' n c=>bif Nat.beq es' es then K (.view id es 0 n) [(id,.ar false c)] else none
  |p=>Vn es p fun z n c=>K (.lst z es n c) []
 |t=>IB t p fun c=>K c []
def LL(N:Nat):Nat->List CT->Ae->(Ae->List (Nat × B7)->Option R)->Option R
 |_,[],ps,K=>Ao ps (K [] [])
 |id,t::ts,ps,K=>Ai ps fun p ps=>Auh id t p fun c b=>LL N (id+N) ts ps fun cs bs=>K (c::cs) (b++bs)
def inK(P:Program)(N i:Nat)(t:TypeId)(p:PV)(K:PV->List (Nat × B7)->Option R):Option R:=
 match HT P t with
 |some e=>BU p fun ps=>Ar (Nat.blt i 8) (LL N (Eb N i+N) (Kc P e) ps fun cs bs=>K (.ptr (Eb N i) 0) ((Eb N i,.st cs)::bs))
 |none=>
  match p with
  |.tup ps=>Dj (A7h P t) fun e=>Ar (Nat.blt i 8) (Ai ps fun q r=>Ao r (Lg (A9 P e) q fun n c=>K (.view (Eb N i) (A9 P e) 0 n) [(Eb N i,.ar false c)]))
  |p=>
   bif Ch P t then Ef p fun ps=>LL N (i+N) (Kc P t) ps fun cs bs=>K (.agg cs) bs
   else LL N (i+N) (Kc P t) [p] fun cs bs=>Ai cs fun c r=>Ao r (K c bs)
def Anq(P:Program)(N:Nat):Nat->List TypeId->Ae->(List (Nat × PV)->List (Nat × B7)->Option R)->Option R
 |_,[],ps,K=>Ao ps (K [] [])
 |i,t::ts,ps,K=>Ai ps fun p ps=>inK P N i t p fun v bs=>Anq P N (i+1) ts ps fun vs bs'=>K ((i,v)::vs) (bs++bs')
def A0r(hp:Nat->Option B7)(t:CT)(p:PV)(K:PV->B2->B2->Option R):Option R:=
  match t with
  |.sl es=>
    match p with
    |.view id es' off n=>bif Nat.beq es' es&&Nat.beq off 0 then
        (match hp id with
         |some (.ar false c)=>Ar (decide (n*es<=c.length)) (K (.own es n (c.take (n*es))) [id] [])
         |_=>none) else none
    |p=>Vn es p fun z _ _=>Ar z (K (.own es 0 []) [] [])
  |t=>IB t p fun c=>K c [] []
def Ajm(shr:Bool)(hp:Nat->Option B7)(t:CT)(p:PV)(K:PV->B2->B2->Option R):Option R:=
 bif shr then Su (Mh hp) t p fun c m=>K c [] m else A0r hp t p K
def KB(shr:Bool)(hp:Nat->Option B7):List CT->Ae->(Ae->B2->B2->Option R)->Option R
 |[],[],K=>K [] [] []
 |t::ts,p::ps,K=>Ajm shr hp t p fun c m z=>KB shr hp ts ps fun cs ms zs=>K (c::cs) (m++ms) (z++zs)
 |_,_,_=>none
def Aq3(P:Program)(shr:Bool)(hp:Nat->Option B7)(t:TypeId)(p:PV)(K:PV->B2->B2->Option R):Option R:=
 match HT P t with
 |some e=>
  match p with
  |.ptr id off=>
   match hp id with
   |some (.st c)=>Ar (Nat.beq off 0) (KB shr hp (Kc P e) c fun cs m z=>K (.pbox cs) (id::m) z)
   |_=>none
  |_=>none
 |none=>
  bif Ch P t then Ef p fun ps=>KB shr hp (Kc P t) ps fun cs m z=>K (.agg cs) m z
  else KB shr hp (Kc P t) [p] fun cs m z=>Ai cs fun c r=>Ao r (K c m z)
def Arr(P:Program)(s:St)(r:ResultVar)(K:PV->Option R):Option R:=
 match r with
 |.tmp t=>K (s.tm t)
 |.cell a t=>EV false P (rd s.hp) (Mh s.hp) t (s.tm a) K
def Aav(P:Program)(shr:Bool)(s:St):List ResultVar->List TypeId->(Ae->B2->B2->Option R)->Option R
 |[],[],K=>K [] [] []
 |r::rs,t::ts,K=>Arr P s r fun p=>Aq3 P shr s.hp t p fun v m z=>Aav P shr s rs ts fun vs ms zs=>K (v::vs) (m++ms) (z++zs)
 |_,_,_=>none
def NG(hp:Nat->Option B7):List CT->Ae->Ae->(Ae->B2->B2->Option R)->Option R
 |[],[],[],K=>K [] [] []
 |t::ts,w::ws,p::ps,K=>Ajm (match w with | .own _ _ _=>false|_=>true) hp t p fun c m z=>NG hp ts ws ps fun cs ms zs=>K (c::cs) (m++ms) (z++zs)
 |_,_,_,_=>none
def JA(P:Program)(N:Nat)(hp:Nat->Option B7):Nat->List TypeId->Ae->(List Ae->B2->B2->B2->Option R)->Option R
 |_,[],ps,K=>Ao ps (K [] [] [] [])
 |i,t::ts,ps,K=>Ai ps fun p ps=>
  match p with
  |.pbox ws=>Dj (HT P t) fun e=>
    match hp (Eb N i) with
    |some (.st c)=>NG hp (Kc P e) ws c fun cs m z=>JA P N hp (i+1) ts ps fun r m' z' q=>K (cs::r) (m++m') (z++z') (Eb N i::q)
    |_=>none
  |.tup _=>
    match hp (Eb N i) with
    |some (.ar false c)=>JA P N hp (i+1) ts ps fun r m' z' q=>K (c::r) m' z' (Eb N i::q)
    |_=>none
  |_=>JA P N hp (i+1) ts ps K
def NX(rs:List ResultVar):Nat:=rs.foldl (fun m r=>match r with | .tmp t=>Aug m t | .cell a _=>Aug m a) 0
end
def Zz(P:Program):Nat->List TypeId->Nat->Nat
 |_,[],m=>m
 |i,t::ts,m=>Zz P (i+1) ts (match P.underlying t with|some (.pointer _)=>Aug m i|_=>m)
def UF(C:G3)(P:Program)(f:FuncId)(fn:Func)(args:Ae)(s:St):Option A4:=
 Aav P (C.shr f) s fn.results.toList fn.resultTypes.toList fun vs m z=>JA P fn.ntmps s.hp 0 fn.params.toList args fun os m' z' q=>
  Ar (Et ((m++m')++q)&&(z++z').all (fun i=> !(((m++m')++q).any (Nat.beq i)))) (some ⟨vs,os⟩)
def Al2(C:G3)(P:Program)(fu:Nat)(call:Aq)(f:FuncId)(fn:Func)(c:Code)(args:Ae):Option A4:=
  Anq P fn.ntmps 0 fn.params.toList args fun tms bs=>Ar (Nat.ble args.length fn.ntmps&&Ca (fun _=>none) bs)
    (let lr:=Zz P 0 fn.params.toList (NX fn.results.toList)
     M3 C P fu fn.ntmps call c lr (fun _=>0) lr (UF C P f fn args) (fun _ _=>none) (UF C P f fn args) ⟨lk tms,Fx bs⟩)
def Ac(C:G3)(P:Program)(fu:Nat):Nat->FuncId->Ae->Option A4
 |0,_,_=>none
 |d+1,f,args=>
  match C.ext f with
  |some g=>g args
  |none=>
   match P.funcs[f]? with
   |none=>none
   |some fn=>match fn.body with
    |none=>none
    |some c=>Al2 C.core P fu (Ac C P fu d) f fn c args
inductive Dir where
 |l
 |r
 |i (m:Nat)
section
variable {R:Type}
def EB(C:G3)(P:Program)(fu N:Nat)(call:Aq):List Dir->Code->Nat->(Nat->Nat)->Nat->(St->Option R)->(Nat->St->Option R)->(St->Option R)->Nat->St->Option R
 |[],.seq _ b,ln,lx,lr,kn,kx,kr,n,s=>FJ n (fun s''=>M3 C P fu N call b ln lx lr kn kx kr s'') s
 |[],.loop c,ln,lx,lr,_,kx,kr,n,s=>Aih (fun k s'=>M3 C P fu N call c (K2 (.loop c) ln lx lr) lx lr k kx kr s') (HG N (K2 (.loop c) ln lx lr)) n s
 |.l::p,.seq a b,ln,lx,lr,kn,kx,kr,n,s=>EB C P fu N call p a (K2 b ln lx lr) lx lr (fun s'=>MB (Ad7 P a b) (MB (Wl a b) (Ak4 N (K2 b ln lx lr) s' (FJ fu fun s''=>M3 C P fu N call b ln lx lr kn kx kr s'')) (HG N (K2 b ln lx lr) s' (FJ fu fun s''=>M3 C P fu N call b ln lx lr kn kx kr s''))) (M3 C P fu N call b ln lx lr kn kx kr s')) kx kr n s
 |.r::p,.seq _ b,ln,lx,lr,kn,kx,kr,n,s=>EB C P fu N call p b ln lx lr kn kx kr n s
 |.l::p,.cond _ a _,ln,lx,lr,kn,kx,kr,n,s=>EB C P fu N call p a ln lx lr kn kx kr n s
 |.r::p,.cond _ _ b,ln,lx,lr,kn,kx,kr,n,s=>EB C P fu N call p b ln lx lr kn kx kr n s
 |.l::p,.block id c,ln,lx,lr,kn,kx,kr,n,s=>EB C P fu N call p c ln (fun j=>bif Nat.beq j id then ln else lx j) lr kn (fun j s'=>bif Nat.beq j id then kn s' else kx j s') kr n s
 |.i m::p,.loop c,ln,lx,lr,_,kx,kr,n,s=>
  EB C P fu N call p c (K2 (.loop c) ln lx lr) lx lr
   (fun s'=>HG N (K2 (.loop c) ln lx lr) s' (Aih (fun k s'=>M3 C P fu N call c (K2 (.loop c) ln lx lr) lx lr k kx kr s') (HG N (K2 (.loop c) ln lx lr)) m)) kx kr n s
 |_,_,_,_,_,_,_,_,_,_=>none
end
def A8t(C:G3)(P:Program)(fu:Nat)(call:Aq)(f:FuncId)(fn:Func)(c:Code)(args:Ae)(p:List Dir)(n:Nat)(s:St):Option A4:=
 let lr:=Zz P 0 fn.params.toList (NX fn.results.toList)
 EB C P fu fn.ntmps call p c lr (fun _=>0) lr (UF C P f fn args) (fun _ _=>none) (UF C P f fn args) n s
def Axy:B2:=[
 99,
 1000000]
def A2r:B2:=[
 57,
 17,
 104,
 55,
 11,
 6,
 35,
 67,
 100,
 101,
 19,
 13,
 9,
 18,
 1000000]
def A2u:B2:=[
 1000000]
def Ayk:B2:=[
 1000000]
def A1i:B2:=[
 195,
 215,
 199,
 150,
 194,
 170,
 171,
 197,
 217,
 151,
 169,
 1000000]
def Aif(args:Ae):Option A4:=
 match args with
 |[.sc (.string s)]=>bif decide (s.size<=9223372036854775807) then some ⟨[.sc (.bool (Lib.validD s.data.toList))],[]⟩ else none
 |_=>none
def PQ(args:Ae):Option A4:=
  match args with
  |[.lst _ 1 n c,.lst _ 1 m c']=>bif Nat.beq c.length n&&Nat.beq c'.length m then
      (match bytesOf c,bytesOf c' with
       |some a,some b=>some ⟨[.sc (.int .i64 (Lib.compareBytes a b))],[]⟩
       |_,_=>none) else none
  |_=>none
def FO:B2:=[
 52,
 85,
 86,
 87,
 116,
 88,
 53,
 89,
 54,
 41,
 26,
 51,
 27,
 146,
 179,
 156,
 138,
 161,
 158,
 180,
 201,
 202,
 66,
 124,
 125,
 123,
 98,
 64,
 136,
 112,
 79,
 45,
 73,
 50,
 147,
 148,
 149,
 127,
 95,
 126,
 96,
 128,
 97,
 61,
 153,
 102,
 103,
 100,
 101,
 67,
 35,
 62,
 32,
 1000000]
def Bcb:B2:=[
 1000000]
def CB:G3:=⟨fun f=>A2r.any (Nat.beq f),fun f i=>Nat.beq i 0&&A1i.any (Nat.beq f),fun f i=>(Nat.beq i 0&&A2u.any (Nat.beq f))||(Nat.beq i 2&&Ayk.any (Nat.beq f)),fun f=>Axy.any (Nat.beq f),fun _=>none,fun N=>Bcb.any (Nat.beq N)⟩
def CX(xs:FuncId->Option (Ae->Option A4)):G3:={ CB with ext:=fun f=>bif FO.any (Nat.beq f) then none else xs f }
def ZV(f:Func):Code:=match f.body with|some c=>c|none=>.skip
section
variable {R:Type}{r:Option R}
theorem Bc{k:IntKind}{p:PV}{K:Int->Option R}{n:Int}(h:p=.sc (.int k n))(hk:K n=r):Ba k p K=r:=by subst h;unfold Ba;simp[hk]
theorem Bdb{p:PV}{K:IntKind->Int->Option R}{k:IntKind}{n:Int}(h:p=.sc (.int k n))(hk:K k n=r):Ei p K=r:=by subst h;exact hk
theorem A7{p:PV}{K:Bool->Option R}{b:Bool}(h:p=.sc (.bool b))(hk:K b=r):Bm p K=r:=by subst h;exact hk
theorem Bo{p:PV}{K:ByteArray->Option R}{s:ByteArray}(h:p=.sc (.string s))(hk:K s=r):Bu p K=r:=by subst h;exact hk
theorem Az8{es:Nat}{p:PV}{K:Bool->Nat->Ae->Option R}{z:Bool}{n:Nat}{c:Ae}(h:p=.lst z es n c)(hk:K z n c=r):Vn es p K=r:=by subst h;unfold Vn;simp[Qq,hk]
theorem UM{es:Nat}{p:PV}{K:Nat->Ae->Option R}{n:Nat}{c:Ae}(h:p=.own es n c)(hk:K n c=r):Lg es p K=r:=by subst h;unfold Lg;simp[Qq,hk]
theorem Be{b:Bool}{K:Option R}(h:b=true)(hk:K=r):Ar b K=r:=by subst h;exact hk
theorem Bcj{b:Bool}{x y:Option R}(h:b=true)(hx:x=r):Ay b x y=r:=by subst h;exact hx
theorem Bfj{b:Bool}{x y:Option R}(h:b=false)(hx:y=r):Ay b x y=r:=by subst h;exact hx
theorem Ff{α:Type}{o:Option α}{K:α->Option R}{a:α}(h:o=some a)(hk:K a=r):Dj o K=r:=by subst h;exact hk
theorem A0{α:Type}{l:List α}{K:α->List α->Option R}{a:α}{t:List α}(h:l=a::t)(hk:K a t=r):Ai l K=r:=by subst h;exact hk
theorem Bd{α:Type}{l:List α}{K:Option R}(h:l=[])(hk:K=r):Ao l K=r:=by subst h;exact hk
theorem K3{p:PV}{K:Ae->Option R}{c:Ae}(h:p=.agg c)(hk:K c=r):Ef p K=r:=by subst h;exact hk
theorem Aiw{p:PV}{K:Ae->Option R}{c:Ae}(h:p=.pbox c)(hk:K c=r):BU p K=r:=by subst h;exact hk
theorem A3{o:Option A4}{K:Ae->List Ae->Option R}{v:Ae}{q:List Ae}(h:o=some ⟨v,q⟩)(hk:K v q=r):Bv o K=r:=by subst h;exact hk
end
theorem ND(a b:Int):(a != b)=decide (a≠b):=by by_cases h:a=b<;>simp[h,bne]
theorem Amm(a b:Int):(a==b)=decide (a=b):=by by_cases h:a=b<;>simp[h]
section
variable {R:Type}
theorem AV(v:Ae)(o:List Ae)(K:Ae->List Ae->Option R):Bv (some ⟨v,o⟩) K=K v o:=by exact id rfl
theorem IF{α:Type}(K:Option R):Ao ([]:List α) K=K:=by exact id rfl
theorem AR{α:Type}(a:α)(r:List α)(K:α->List α->Option R):Ai (a::r) K=K a r:=by exact id rfl
theorem FR(b:Bool)(K:Bool->Option R):Bm (.sc (.bool b)) K=K b:=by exact id rfl
theorem Aa1(s:ByteArray)(K:ByteArray->Option R):Bu (.sc (.string s)) K=K s:=by exact id rfl
theorem PA(k:IntKind)(n:Int)(K:Int->Option R):Ba k (.sc (.int k n)) K=K n:=by unfold Ba;simp
theorem Asg(k:IntKind)(n:Int)(K:IntKind->Int->Option R):Ei (.sc (.int k n)) K=K k n:=by exact id rfl
theorem A0w(z:Bool)(es n:Nat)(c:Ae)(K:Bool->Nat->Ae->Option R):Vn es (.lst z es n c) K=K z n c:=by unfold Vn;simp
theorem A0l(es n:Nat)(c:Ae)(K:Nat->Ae->Option R):Lg es (.own es n c) K=K n c:=by unfold Lg;simp
theorem Apd(c:Ae)(K:Ae->Option R):Ef (.agg c) K=K c:=by exact id rfl
theorem Aiu(c:Ae)(K:Ae->Option R):BU (.pbox c) K=K c:=by exact id rfl
theorem Ar9{α:Type}(a:α)(K:α->Option R):Dj (some a) K=K a:=by exact id rfl
theorem F5{α:Type}(a:α)(K:α->Option R):Aa a K=K a:=by exact id rfl
theorem Aqd(K:Option R):Ar true K=K:=by exact id rfl
theorem Aam(p:Prop)[Decidable p](K:Option R)(h:p):Ar (decide p) K=K:=by simp[Ar,h]
theorem Akx(b c:Bool)(K:Option R):Ar (b&&c) K=Ar b (Ar c K):=by cases b<;>rfl
theorem YB(x y:Option R):Ay true x y=x:=by exact id rfl
theorem YQ(x y:Option R):Ay false x y=y:=by exact id rfl
theorem OM(p:Prop)[Decidable p](x y:Option R)(h:p):Ay (decide p) x y=x:=by simp[Ay,h]
theorem Hk(p:Prop)[Decidable p](x y:Option R)(h:¬p):Ay (decide p) x y=y:=by simp[Ay,h]
theorem Zr(p:Prop)[Decidable p](x y:Option R):Ay (decide p) x y=if p then x else y:=by by_cases h:p<;>simp[Ay,h]
theorem Aka(b:Bool)(x y:Option R):Ay b x y=if b=true then x else y:=by cases b<;>rfl
theorem Ar8(b:Bool)(x y:Option R):Ay (!b) x y=Ay b y x:=by cases b<;>rfl
theorem Od(a b:Int)(x y:Option R):Ay (a==b) x y=if a=b then x else y:=by rw[Amm,Zr]
theorem G6(a b:Int)(x y:Option R):Ay (a != b) x y=if a=b then y else x:=by rw[ND,Zr];by_cases h:a=b<;>simp[h]
theorem Aaz(x:Option R):Wt x x=x:=by unfold Wt;simp
end
theorem F8{x:Int}(h1: -9223372036854775808<=x)(h2:x<=9223372036854775807):IntKind.wrap .i64 x=x:=by have:=IntWalk.i64_in x (by omega);exact this
theorem wrap_u64{x:Int}(h1:0<=x)(h2:x<=18446744073709551615):IntKind.wrap .u64 x=x:=by simp only[IntKind.wrap,IntKind.signed,IntKind.bits];simp;omega
theorem Oa{x:Int}(h1:0<=x)(h2:x<=255):IntKind.wrap .u8 x=x:=by simp only[IntKind.wrap,IntKind.signed,IntKind.bits];simp;omega
theorem R5(x:Int):0<=IntKind.wrap .u64 x/\IntKind.wrap .u64 x<=18446744073709551615:=by simp only[IntKind.wrap,IntKind.signed,IntKind.bits];simp;omega
theorem Ahq{c:Prop}[Decidable c](k:IntKind)(a b:Int)(o:List Ae):(if c then some (A4.mk [.sc (.int k a)] o) else some (A4.mk [.sc (.int k b)] o))=some (A4.mk [.sc (.int k (if c then a else b))] o):=by split<;>rfl
theorem D8{α:Type}{l r:List α}{x:α}{i:Nat}(h:l.drop i=x::r):i<l.length/\l[i]?=some x/\l.drop (i+1)=r:=by
 have h1:i<l.length:=by
  rcases Ik i l.length with h1|h1
  ·exact h1
  ·rw[List.drop_of_length_le h1] at h;cases h
 rw[List.drop_eq_getElem_cons h1] at h;injection h with h2 h3;exact⟨h1,by rw[List.getElem?_eq_getElem h1,h2],h3⟩
theorem drop_nil{α:Type}{l:List α}{i:Nat}(h:l.drop i=[]):l.length<=i:=by have:=congrArg List.length h;simp at this;omega
section
variable {α:Type}{f:α->Ae}{k:Nat}
theorem RF(hf:∀x,(f x).length=k):∀(l:List α),(l.flatMap f).length=l.length*k
 |[]=>by simp
 |x::l=>by simp[hf x,RF hf l,Nat.succ_mul];omega
theorem ZY(hf:∀x,(f x).length=k):∀(l:List α)(i:Nat),(l.flatMap f).drop (i*k)=(l.drop i).flatMap f
 |l,0=>by simp
 |[],i+1=>by simp
 |x::l,i+1=>by
  rw[K8,Nat.succ_mul,Nat.add_comm,<-List.drop_drop,List.drop_append_of_le_length (by rw[hf x];omega)]
  rw[show (f x).drop k=[] from List.drop_of_length_le (by rw[hf x];omega),NL]
  exact ZY hf l i
theorem Ak2(hf:∀x,(f x).length=k):∀(l:List α)(i:Nat),(l.flatMap f).take (i*k)=(l.take i).flatMap f
 |l,0=>by simp
 |[],i+1=>by simp
 |x::l,i+1=>by
  rw[K8,Nat.succ_mul,Nat.add_comm,List.take_succ_cons,K8,<-Ak2 hf l i];rw[show k+i*k=(f x).length+i*k by rw[hf x],List.take_length_add_append]
theorem OY(hf:∀x,(f x).length=k){l:List α}{i:Nat}{x:α}(h:l[i]?=some x){j:Nat}(hj:j<k):(l.flatMap f).getD (i*k+j) .top=(f x).getD j .top:=by
 have h1:((l.flatMap f).drop (i*k))[j]?=(l.flatMap f)[i*k+j]?:=List.getElem?_drop;rw[ZY hf] at h1
 have h2:i<l.length:=by
  rcases Ik i l.length with h1|h1
  ·exact h1
  ·rw[List.getElem?_eq_none h1] at h;cases h
 rw[List.drop_eq_getElem_cons h2,K8] at h1;have h3:l[i]=x:=by rw[List.getElem?_eq_getElem h2] at h;injection h
 rw[h3,List.getElem?_append_left (by rw[hf x];exact hj)] at h1
 simp only[List.getD_eq_getElem?_getD,<-h1]
theorem Le{c:Ae}{p:PV}{i:Nat}(h:i<c.length):B5 c [p] i=c.set i p:=by unfold B5;rw[List.set_eq_take_append_cons_drop,Cx h];simp
end
theorem A36{α:Type}{l:List α}{i:Nat}{x:α}(h:l[i]?=some x):i<l.length:=by
 rcases Ik i l.length with h1|h1
 ·exact h1
 ·rw[List.getElem?_eq_none h1] at h;cases h
abbrev A4t(k:IntKind)(n:Int):Ae:=[.sc (.int k n)]
abbrev Ad(k:IntKind)(l:Aj):Ae:=l.flatMap (A4t k)
theorem EJ(k:IntKind)(n:Int):(A4t k n).length=1:=rfl
theorem GG{k:IntKind}{l:Aj}{i:Nat}{n:Int}(h:l[i]?=some n):(Ad k l).getD i .top=.sc (.int k n):=by
 have:=OY (EJ k) h (j:=0) (by omega)
 simpa using this
theorem Ak(k:IntKind)(l:Aj):(Ad k l).length=l.length:=by rw[RF (EJ k)];omega
theorem Uu(k:IntKind)(l:Aj)(n:Int):Ad k l++[.sc (.int k n)]=Ad k (l++[n]):=by simp
theorem NY(k:IntKind)(l:Aj):List.take l.length (Ad k l)=Ad k l:=H5 (by rw[Ak];omega)
theorem A5:type_of% @AV/\type_of% @IF/\type_of% @AR/\type_of% @FR/\type_of% @Aa1/\type_of% @PA/\type_of% @Asg/\type_of% @A0w/\type_of% @A0l/\type_of% @Apd/\type_of% @Aiu/\type_of% @Ar9/\type_of% @F5/\type_of% @Aqd/\type_of% @Aam/\type_of% @Akx/\type_of% @YB/\type_of% @YQ/\type_of% @OM/\type_of% @Hk/\type_of% @Aaz/\type_of% @Bool.not_true/\type_of% @Bool.not_false/\type_of% @Bool.false_eq_true/\type_of% @if_true.{1}/\type_of% @if_false.{1}/\type_of% @Bool.true_and/\type_of% @Bool.and_true/\type_of% @Bool.false_and/\type_of% @Bool.and_false/\type_of% @decide_true/\type_of% @decide_false:=
 ⟨@AV,@IF,@AR,@FR,@Aa1,@PA,@Asg,@A0w,@A0l,@Apd,@Aiu,@Ar9,@F5,@Aqd,@Aam,@Akx,@YB,@YQ,@OM,@Hk,@Aaz,@Bool.not_true,@Bool.not_false,@Bool.false_eq_true,@if_true.{1},@if_false.{1},@Bool.true_and,@Bool.and_true,@Bool.false_and,@Bool.and_false,@decide_true,@decide_false⟩
theorem gT:type_of% @Bool.and_eq_true/\type_of% @decide_eq_true_eq/\type_of% @beq_iff_eq.{0}/\type_of% @bne_iff_ne.{0}/\type_of% @ne_eq.{1}/\type_of% @Bool.not_eq_true'/\type_of% @true_and/\type_of% @and_true:=
 ⟨@Bool.and_eq_true,@decide_eq_true_eq,@beq_iff_eq.{0},@bne_iff_ne.{0},@ne_eq.{1},@Bool.not_eq_true',@true_and,@and_true⟩
theorem gF:type_of% @decide_eq_false_iff_not/\type_of% @beq_eq_false_iff_ne.{0}/\type_of% @bne_eq_false_iff_eq.{0}/\type_of% @ne_eq.{1}/\type_of% @Bool.not_eq_false':=
 ⟨@decide_eq_false_iff_not,@beq_eq_false_iff_ne.{0},@bne_eq_false_iff_eq.{0},@ne_eq.{1},@Bool.not_eq_false'⟩
section
open Go.RowKit
def Bj{α β:Type}(R:α->β->Prop):List α->List β->Prop
 |[],[]=>True
 |a::zs,b::bs=>R a b/\Bj R zs bs
 |_,_=>False
section
variable {α β γ:Type}{R S:α->β->Prop}
theorem Bj.len:∀{zs:List α}{bs:List β},Bj R zs bs->zs.length=bs.length
 |[],[],_=>rfl
 |_::_,_::_,h=>by simp[Bj.len h.2]
 |[],_::_,h=>h.elim
 |_::_,[],h=>h.elim
theorem Bj.at_:∀{zs:List α}{bs:List β},Bj R zs bs->∀{i:Nat} {a b},zs[i]?=some a->bs[i]?=some b->R a b
 |[],[],_,i,a,b,h,_=>by simp at h
 |_::_,_::_,h,0,a,b,ha,hb=>by simp at ha hb;subst ha;subst hb;exact h.1
 |_::_,_::_,h,i+1,a,b,ha,hb=>by simp at ha hb;exact Bj.at_ h.2 ha hb
 |[],_::_,h,_,_,_,_,_=>h.elim
 |_::_,[],h,_,_,_,_,_=>h.elim
theorem Bj.of_at:∀{zs:List α}{bs:List β},zs.length=bs.length->(∀(i:Nat) a b,zs[i]?=some a->bs[i]?=some b->R a b)->Bj R zs bs
 |[],[],_,_=>trivial
 |a::zs,b::bs,hl,h=>⟨h 0 a b rfl rfl,Bj.of_at (by simpa using hl) fun i x y hx hy=>h (i+1) x y hx hy⟩
 |[],_::_,hl,_=>by simp at hl
 |_::_,[],hl,_=>by simp at hl
theorem Bj.mono(hRS:∀a b,R a b->S a b):∀{zs:List α}{bs:List β},Bj R zs bs->Bj S zs bs
 |[],[],_=>trivial
 |_::_,_::_,h=>⟨hRS _ _ h.1,Bj.mono hRS h.2⟩
 |[],_::_,h=>h.elim
 |_::_,[],h=>h.elim
theorem Bj.mono_mem:∀{zs:List α}{bs:List β},(∀a∈zs,∀b,R a b->S a b)->Bj R zs bs->Bj S zs bs
 |[],[],_,_=>trivial
 |a::_,_::_,hRS,h=>⟨hRS a (by simp) _ h.1,Bj.mono_mem (fun x hx=>hRS x (by simp[hx])) h.2⟩
 |[],_::_,_,h=>h.elim
 |_::_,[],_,h=>h.elim
theorem Bj.app:∀{zs:List α}{bs:List β}{as':List α}{bs':List β},Bj R zs bs->Bj R as' bs'->Bj R (zs++as') (bs++bs')
 |[],[],_,_,_,h'=>h'
 |_::_,_::_,_,_,h,h'=>⟨h.1,Bj.app h.2 h'⟩
 |[],_::_,_,_,h,_=>h.elim
 |_::_,[],_,_,h,_=>h.elim
theorem Bj.take:∀(n:Nat){zs:List α}{bs:List β},Bj R zs bs->Bj R (zs.take n) (bs.take n)
 |0,_,_,_=>by simp[Bj]
 |_+1,[],[],_=>trivial
 |n+1,_::_,_::_,h=>⟨h.1,Bj.take n h.2⟩
 |_+1,[],_::_,h=>h.elim
 |_+1,_::_,[],h=>h.elim
theorem Bj.drop:∀(n:Nat){zs:List α}{bs:List β},Bj R zs bs->Bj R (zs.drop n) (bs.drop n)
 |0,_,_,h=>h
 |_+1,[],[],_=>trivial
 |n+1,_::_,_::_,h=>Bj.drop n h.2
 |_+1,[],_::_,h=>h.elim
 |_+1,_::_,[],h=>h.elim
end
inductive Au(w:World)(A:Nat->Prop):PV->Value->Prop where
 |sc (v:Value):Au w A (.sc v) v
 |top (v:Value):Au w A .top v
 |ub (b:Bool):Au w A .ub (.bool b)
 |lnil (z:Bool) (es:Nat):Au w A (.lst z es 0 []) (.slice none 0 0)
 |lemp (es:Nat) (a:Addr) (cap:Nat):Au w A (.lst false es 0 []) (.slice (some a) 0 cap)
 |lst (es n:Nat) (cells:Ae) (a:Addr) (cap:Nat) (f:Nat->Value) (hs:a.spot=none) (hb:a.block<w.heap.size) (hA:¬A a.block) (hn:n<=cap)
   (hc:∀j c,cells[j]?=some c->w.cell? (a.add j)=some (f j)) (h1:∀j c,cells[j]?=some c->(f j).oneCell'=true) (hr:∀j c,cells[j]?=some c->Au w A c (f j)):Au w A (.lst false es n cells) (.slice (some a) n cap)
def bsz(w:World)(b:Nat):Nat:=
 match w.heap[b]? with
 |some (.cells c _ _)=>c.size
 |_=>0
def Afl(w:World)(b:Nat):Bool:=w.frozen? ⟨b,bsz w b,none⟩
def Fit(w:World)(es b e:Nat):Prop:=e<=bsz w b/\(es=1\/Afl w b=false)
def Io(w w':World)(b:Nat):Prop:=bsz w b<=bsz w' b/\(Afl w b=false->Afl w' b=false)
theorem Io.refl(w:World)(b:Nat):Io w w b:=⟨Cs _,id⟩
theorem Io.same{w w':World}{b:Nat}(h:w'.heap[b]?=w.heap[b]?):Io w w' b:=by
 have e:bsz w' b=bsz w b:=by unfold bsz;rw[h]
 refine⟨by rw[e];exact Cs _,fun q=>?_⟩
 unfold Afl at q ⊢;rw[e];unfold World.frozen? at q ⊢;simp only[h];exact q
theorem Io.trans{w w' w'':World}{b:Nat}(h:Io w w' b)(h':Io w' w'' b):Io w w'' b:=⟨Nat.le_trans h.1 h'.1,fun q=>h'.2 (h.2 q)⟩
theorem Fit.step{w w':World}{es b e:Nat}(h:Fit w es b e)(hb:Io w w' b):Fit w' es b e:=⟨Nat.le_trans h.1 hb.1,h.2.imp id hb.2⟩
def RdT(w:World)(A:Nat->Prop)(a:Addr)(cells:Ae):Prop:=∀j c,cells[j]?=some c->∃v,w.cell? (a.add j)=some v/\v.oneCell'=true/\Au w A c v
def Cj(w:World)(A:Nat->Prop)(β:Nat->Option (Nat × Nat))(p:PV)(v:Value):Prop:=
 match p with
 |.view id es off n=>(β id=none/\off=0/\n=0/\∃ad,v=.slice ad 0 0) \/
   ∃b o x cap,β id=some (b,o)/\v=.slice (some ⟨b,x,none⟩) n cap/\(x=o+off\/(n=0/\off≠0))/\n<=cap/\Fit w es b (x+cap*es)/\b<w.heap.size
 |.ptr id off=>∃b o,β id=some (b,o)/\v=.pointer (some ⟨b,o+off,none⟩)
 |.iptr c off=>∃a:Addr,v=.pointer (some (a.add off))/\a.spot=none/\a.block<w.heap.size/\¬A a.block/\RdT w A a c
 |p=>Au w A p v
def Ju(w:World)(A:Nat->Prop)(β:Nat->Option (Nat × Nat))(p:PV)(v:Value):Prop:=
 match p with
 |.agg cs=>∃vs,v=.agg ⟨vs⟩/\Bj (Cj w A β) cs vs
 |p=>Cj w A β p v
def Fn(w:World)(A:Nat->Prop)(β:Nat->Option (Nat × Nat))(p:PV)(v:Value):Prop:=
 match p with
 |.tup ps=>∃vs,v=.tuple ⟨vs⟩/\Bj (Ju w A β) ps vs
 |p=>Ju w A β p v
structure Ct(A:Nat->Prop)(w w':World):Prop where
 size:w.heap.size<=w'.heap.size
 keep:∀b,b<w.heap.size->¬A b->w'.heap[b]?=w.heap[b]?
 bs:∀b,b<w.heap.size->Io w w' b
theorem F4(a:Addr)(j:Nat):(a.add j).block=a.block:=by unfold Addr.add;split<;>rfl
theorem add_add(a:Addr)(i j:Nat):(a.add i).add j=a.add (i+j):=by unfold Addr.add;by_cases hi:i=0<;>by_cases hj:j=0<;>simp[hi,hj,Ps]
theorem Fo(b o j:Nat):(⟨b,o,none⟩:Addr).add j=⟨b,o+j,none⟩:=by unfold Addr.add;by_cases hj:j=0<;>simp[hj]
theorem Aqu{a:Addr}(h:a.spot=none)(j:Nat):(a.add j).spot=none:=by unfold Addr.add;split<;>simp[h]
section
variable {w w':World}{A A':Nat->Prop}{β β':Nat->Option (Nat × Nat)}
theorem Ct.cell(h:Ct A w w'){a:Addr}(hb:a.block<w.heap.size)(hA:¬A a.block):w'.cell? a=w.cell? a:=
 World.cell?_of_block (h.keep a.block hb hA)
theorem Au.step(h:Ct A w w')(hA:∀b,b<w.heap.size->A' b->A b){p:PV}{v:Value}(t:Au w A p v):Au w' A' p v:=by
 induction t with
 |sc v=>exact .sc v
 |top v=>exact .top v
 |ub b=>exact .ub b
 |lnil z es=>exact .lnil z es
 |lemp es a cap=>exact .lemp es a cap
 |lst es n cells a cap f hs hb hA1 hn hc h1 hr ih=>
  refine .lst es n cells a cap f hs (Gf hb h.size) (fun x=>hA1 (hA _ hb x)) hn (fun j c hj=>?_) h1 (fun j c hj=>ih j c hj);rw[h.cell (by rw[F4];exact hb) (by rw[F4];exact hA1)]
  exact hc j c hj
theorem RdT.step(h:Ct A w w')(hA:∀b,b<w.heap.size->A' b->A b){a:Addr}(hb:a.block<w.heap.size)(hn:¬A a.block){cells:Ae}(t:RdT w A a cells):RdT w' A' a cells:=by intro j c hj;obtain⟨v,hv,h1,ht⟩:=t j c hj;exact⟨v,by rw[h.cell (by rw[F4];exact hb) (by rw[F4];exact hn)];exact hv,h1,ht.step h hA⟩
theorem Cj.step(h:Ct A w w')(hA:∀b,b<w.heap.size->A' b->A b){p:PV}{v:Value}(hβ:∀id∈At p,β' id=β id)(t:Cj w A β p v):Cj w' A' β' p v:=by
 cases p with
 |view id es off n=>
  have e:=hβ id (by simp[At]);rcases t with⟨h1,h2,h3,h4⟩|⟨b,o,x,cap,h1,h2,hx,h3,h4,h5⟩
  ·exact .inl ⟨by rw[e];exact h1,h2,h3,h4⟩
  ·exact .inr ⟨b,o,x,cap,by rw[e];exact h1,h2,hx,h3,h4.step (h.bs b h5),Gf h5 h.size⟩
 |ptr id off=>
  have e:=hβ id (by simp[At]);obtain⟨b,o,h1,h2⟩:=t;exact⟨b,o,by rw[e];exact h1,h2⟩
 |iptr c off=>
  obtain⟨a,h1,h2,h3,h4,h5⟩:=t;exact⟨a,h1,h2,Gf h3 h.size,fun x=>h4 (hA _ h3 x),h5.step h hA h3 h4⟩
 |sc v=>exact Au.step h hA t
 |lst z es n c=>exact Au.step h hA t
 |own es n c=>exact Au.step h hA t
 |pbox c=>exact Au.step h hA t
 |agg c=>exact Au.step h hA t
 |tup c=>exact Au.step h hA t
 |top=>exact Au.step h hA t
 |ub=>exact Au.step h hA t
theorem Ju.step(h:Ct A w w')(hA:∀b,b<w.heap.size->A' b->A b){p:PV}{v:Value}(hβ:∀id∈Cy p,β' id=β id)(t:Ju w A β p v):Ju w' A' β' p v:=by
 cases p with
 |agg cs=>
  obtain⟨vs,rfl,h2⟩:=t;exact⟨vs,rfl,h2.mono_mem fun c hc v hv=>hv.step h hA fun id B1=>hβ id (by simp only[Cy,List.mem_flatMap];exact⟨c,hc,B1⟩)⟩
 |sc x=>exact Cj.step (p:=.sc x) h hA hβ t
 |lst x y z u=>exact Cj.step (p:=.lst x y z u) h hA hβ t
 |own x y z=>exact Cj.step (p:=.own x y z) h hA hβ t
 |view x y z u=>exact Cj.step (p:=.view x y z u) h hA hβ t
 |ptr x y=>exact Cj.step (p:=.ptr x y) h hA hβ t
 |iptr x y=>exact Cj.step (p:=.iptr x y) h hA hβ t
 |pbox x=>exact Cj.step (p:=.pbox x) h hA hβ t
 |tup x=>exact Cj.step (p:=.tup x) h hA hβ t
 |top=>exact Cj.step (p:=.top) h hA hβ t
 |ub=>exact Cj.step (p:=.ub) h hA hβ t
theorem Fn.step(h:Ct A w w')(hA:∀b,b<w.heap.size->A' b->A b){p:PV}{v:Value}(hβ:∀id∈Ci p,β' id=β id)(t:Fn w A β p v):Fn w' A' β' p v:=by
 cases p with
 |tup cs=>
  obtain⟨vs,rfl,h2⟩:=t;exact⟨vs,rfl,h2.mono_mem fun c hc v hv=>hv.step h hA fun id B1=>hβ id (by simp only[Ci,List.mem_flatMap];exact⟨c,hc,B1⟩)⟩
 |sc x=>exact Ju.step (p:=.sc x) h hA hβ t
 |lst x y z u=>exact Ju.step (p:=.lst x y z u) h hA hβ t
 |own x y z=>exact Ju.step (p:=.own x y z) h hA hβ t
 |view x y z u=>exact Ju.step (p:=.view x y z u) h hA hβ t
 |ptr x y=>exact Ju.step (p:=.ptr x y) h hA hβ t
 |iptr x y=>exact Ju.step (p:=.iptr x y) h hA hβ t
 |pbox x=>exact Ju.step (p:=.pbox x) h hA hβ t
 |top=>exact Ju.step (p:=.top) h hA hβ t
 |ub=>exact Ju.step (p:=.ub) h hA hβ t
 |agg x=>exact Ju.step (p:=.agg x) h hA hβ t
theorem Ct.refl(A:Nat->Prop)(w:World):Ct A w w:=⟨Cs _,fun _ _ _=>rfl,fun _ _=>Io.refl _ _⟩
theorem RdT.weak(hA:∀b,b<w.heap.size->A' b->A b){a:Addr}{cells:Ae}(t:RdT w A a cells):RdT w A' a cells:=by intro j c hj;obtain⟨v,hv,h1,ht⟩:=t j c hj;exact⟨v,hv,h1,ht.step (Ct.refl A w) hA⟩
theorem Ct.trans{w'':World}(h:Ct A w w')(h':Ct A' w' w'')(hA:∀b,b<w.heap.size->A' b->A b):Ct A w w'':=
  ⟨Nat.le_trans h.size h'.size,fun b hb hn=>(h'.keep b (Gf hb h.size) (fun x=>hn (hA b hb x))).trans (h.keep b hb hn),
   fun b hb=>(h.bs b hb).trans (h'.bs b (Gf hb h.size))⟩
theorem Ct.weaken(h:Ct A w w')(hA:∀b,b<w.heap.size->A b->A' b):Ct A' w w':=⟨h.size,fun b hb hn=>h.keep b hb (fun x=>hn (hA b hb x)),h.bs⟩
end
section
variable {R:Type}{r:R}
theorem Fl{k:IntKind}{p:PV}{K:Int->Option R}(h:Ba k p K=some r):∃n,p=.sc (.int k n)/\K n=some r:=by
 unfold Ba at h;split at h
 ·split at h
  ·rename_i hk;subst hk;exact⟨_,rfl,h⟩
  ·cases h
 ·cases h
theorem Eo{p:PV}{K:Bool->Option R}(h:Bm p K=some r):∃b,p=.sc (.bool b)/\K b=some r:=by
 unfold Bm at h;split at h
 ·exact⟨_,rfl,h⟩
 ·cases h
theorem Eg{p:PV}{K:ByteArray->Option R}(h:Bu p K=some r):∃b,p=.sc (.string b)/\K b=some r:=by
 unfold Bu at h;split at h
 ·exact⟨_,rfl,h⟩
 ·cases h
theorem Ep{p:PV}{K:IntKind->Int->Option R}(h:Ei p K=some r):∃k n,p=.sc (.int k n)/\K k n=some r:=by
 unfold Ei at h;split at h
 ·exact⟨_,_,rfl,h⟩
 ·cases h
theorem Am{b:Bool}{K:Option R}(h:Ar b K=some r):b=true/\K=some r:=by
 unfold Ar at h;cases b
 ·cases h
 ·exact⟨rfl,h⟩
theorem Cw{α:Type}{o:Option α}{K:α->Option R}(h:Dj o K=some r):∃a,o=some a/\K a=some r:=by
 unfold Dj at h;split at h
 ·exact⟨_,rfl,h⟩
 ·cases h
theorem Bn{α:Type}{l:List α}{K:α->List α->Option R}(h:Ai l K=some r):∃a t,l=a::t/\K a t=some r:=by
 unfold Ai at h;split at h
 ·exact⟨_,_,rfl,h⟩
 ·cases h
theorem Em{α:Type}{l:List α}{K:Option R}(h:Ao l K=some r):l=[]/\K=some r:=by
 unfold Ao at h;split at h
 ·exact⟨rfl,h⟩
 ·cases h
theorem Jb{p:PV}{K:Ae->Option R}(h:Ef p K=some r):∃c,p=.agg c/\K c=some r:=by
 unfold Ef at h;split at h
 ·exact⟨_,rfl,h⟩
 ·cases h
theorem XM{p:PV}{K:Ae->Option R}(h:BU p K=some r):∃c,p=.pbox c/\K c=some r:=by
 unfold BU at h;split at h
 ·exact⟨_,rfl,h⟩
 ·cases h
theorem Akn{p:PV}{K:Value->Option R}(h:fnK p K=some r):∃v,p=.sc v/\v.oneCell'=true/\K v=some r:=by
 unfold fnK at h;split at h
 ·exact⟨_,rfl,rfl,h⟩
 ·exact⟨_,rfl,rfl,h⟩
 ·cases h
theorem Ayh{p:PV}{K:FuncId->Option R}(h:fvK p K=some r):∃f,p=.sc (.func (.func f) #[] #[])/\K f=some r:=by
 unfold fvK at h;split at h
 ·rename_i f a b;cases hb:(a.isEmpty&&b.isEmpty)<;>rw[hb] at h
  ·cases h
  ·simp only[E0,Array.isEmpty_iff] at hb;rw[hb.1,hb.2];exact⟨f,rfl,h⟩
 ·cases h
theorem WV{o:Option A4}{K:Ae->List Ae->Option R}(h:Bv o K=some r):∃v x,o=some ⟨v,x⟩/\K v x=some r:=by
 unfold Bv at h;split at h
 ·exact⟨_,_,rfl,h⟩
 ·cases h
theorem Qx{b:Bool}{x y:Option R}(h:Ay b x y=some r):(b=true/\x=some r)\/(b=false/\y=some r):=by
 unfold Ay at h;cases b
 ·exact .inr ⟨rfl,h⟩
 ·exact .inl ⟨rfl,h⟩
theorem H4{es:Nat}{p:PV}{K:Bool->Nat->Ae->Option R}(h:Vn es p K=some r):
  ∃z n c,K z n c=some r/\(p=.lst z es n c\/(p=.sc (.slice none 0 0)/\z=true/\n=0/\c=[])):=by
 unfold Vn at h;split at h
 ·rename_i z es' n c;cases hb:Nat.beq es' es
  ·rw[hb] at h;cases h
  ·rw[hb] at h;have:=Dc hb;subst this;exact⟨z,n,c,h,.inl rfl⟩
 ·exact⟨true,0,[],h,.inr ⟨rfl,rfl,rfl,rfl⟩⟩
 ·cases h
def CJ:PV->Prop
 |.sc _=>True
 |.lst _ _ _ _=>True
 |_=>False
def UC:PV->Prop
 |.sc _=>True
 |.lst _ _ _ _=>True
 |.view _ _ _ _=>True
 |_=>False
theorem Wg{c:PV}(h:CJ c):UC c:=by cases c<;>first|trivial|exact h.elim
theorem Jk{c:PV}(h:CJ c):At c=[]:=by cases c<;>first|rfl|exact h.elim
variable {w:World}{A:Nat->Prop}{β:Nat->Option (Nat × Nat)}
theorem Pd{c:PV}{v:Value}(h:CJ c):Cj w A β c v↔Au w A c v:=by cases c<;>first|exact Iff.rfl|exact h.elim
theorem GO{c:PV}{v:Value}(h:∀cs,c ≠ .agg cs):Ju w A β c v↔Cj w A β c v:=by cases c<;>first|exact Iff.rfl|exact absurd rfl (h _)
theorem Sz{c:PV}{v:Value}(h:∀cs,c ≠ .tup cs):Fn w A β c v↔Ju w A β c v:=by cases c<;>first|exact Iff.rfl|exact absurd rfl (h _)
theorem EY{c:PV}(h:CJ c)(cs:Ae):c ≠ .agg cs:=by rintro rfl;exact h
theorem Aja{c:PV}(h:CJ c)(cs:Ae):c ≠ .tup cs:=by rintro rfl;exact h
theorem Au.val{v u:Value}(h:Au w A (.sc v) u):u=v:=by cases h;rfl
theorem DB{es n:Nat}{z:Bool}{c:Ae}{p:PV}{v:Value}(h:p=.lst z es n c\/(p=.sc (.slice none 0 0)/\z=true/\n=0/\c=[]))(hv:Cj w A β p v):Au w A (.lst z es n c) v:=by
 rcases h with rfl|⟨rfl,rfl,rfl,rfl⟩
 ·exact hv
 ·have:=Au.val (w:=w) (A:=A) hv;subst this;exact .lnil true es
theorem Qs{t:CT}{p:PV}{K:PV->Option R}(h:IB t p K=some r):
  ∃c,K c=some r/\CJ c/\CJ p/\∀(w:World) (A:Nat->Prop) (β:Nat->Option (Nat × Nat)) (v:Value),Cj w A β p v->Au w A c v/\v.oneCell'=true:=by
 cases t with
 |int k=>obtain⟨n,rfl,h2⟩:=Fl h;exact⟨_,h2,trivial,trivial,fun w A β v hv=>⟨hv,by have:=Au.val (w:=w) (A:=A) hv;subst this;rfl⟩⟩
 |bool=>obtain⟨n,rfl,h⟩:=Eo h;exact⟨_,h,trivial,trivial,fun w A β v hv=>⟨hv,by have:=Au.val (w:=w) (A:=A) hv;subst this;rfl⟩⟩
 |str=>obtain⟨n,rfl,h⟩:=Eg h;exact⟨_,h,trivial,trivial,fun w A β v hv=>⟨hv,by have:=Au.val (w:=w) (A:=A) hv;subst this;rfl⟩⟩
 |sl es=>
  obtain⟨z,n,c,h,hp⟩:=H4 h;refine⟨_,h,trivial,?_,fun w A β v hv=>⟨DB hp hv,?_⟩⟩
  ·rcases hp with rfl|⟨rfl,_⟩<;>trivial
  ·have ht:=DB hp hv;cases ht<;>rfl
 |any=>
  obtain⟨u,rfl,h1,h2⟩:=Akn (show fnK p (fun v=>K (.sc v))=some r from h);exact⟨_,h2,trivial,trivial,fun w A β v hv=>⟨hv,by have:=Au.val (w:=w) (A:=A) hv;subst this;exact h1⟩⟩
theorem Av9{t:CT}{p:PV}{K:PV->Option R}(h:fcK t p K=some r):
  ∃c,K c=some r/\(CJ c\/c=p)/\UC p/\p ≠ .top/\(∀cs,c ≠ .agg cs)/\(∀cs,c ≠ .tup cs)/\(∀id,id∈At c->id∈At p)/\∀(w:World) (A:Nat->Prop) (β:Nat->Option (Nat × Nat)) (v:Value),Cj w A β p v->Cj w A β c v/\v.oneCell'=true:=by
 have tree:∀t',IB t' p K=some r->∃c,K c=some r/\(CJ c\/c=p)/\UC p/\p ≠ .top/\(∀cs,c ≠ .agg cs)/\(∀cs,c ≠ .tup cs)/\(∀id,id∈At c->id∈At p)/\∀(w:World) (A:Nat->Prop) (β:Nat->Option (Nat × Nat)) (v:Value),Cj w A β p v->Cj w A β c v/\v.oneCell'=true:=by
  intro t' h;obtain⟨c,h,hc,hp,hv⟩:=Qs h;exact⟨c,h,.inl hc,Wg hp,by rintro rfl;exact hp,EY hc,Aja hc,by rw[Jk hc];simp,fun w A β v h=>⟨(Pd hc).2 (hv w A β v h).1,(hv w A β v h).2⟩⟩
 cases t with
 |sl es=>
  unfold fcK fsK at h;dsimp only at h;split at h
  ·rename_i id es' off n;cases hb:Nat.beq es' es
   ·rw[hb] at h;cases h
   ·rw[hb] at h;have:=Dc hb;subst this;exact⟨_,h,.inr rfl,trivial,by simp,by simp,by simp,fun _ h=>h,fun _ _ _ _ h=>⟨h,by rcases h with⟨_,_,_,_,rfl⟩|⟨_,_,_,_,_,rfl,_⟩<;>rfl⟩⟩
  ·exact tree (.sl es) h
 |int k=>exact tree (.int k) h
 |bool=>exact tree (.bool) h
 |str=>exact tree (.str) h
 |any=>exact tree (.any) h
theorem KV{cells:Ae}{i:Nat}{p:PV}(h:cells.getD i .top=p)(hp:p ≠ .top):cells[i]?=some p:=by
 rw[List.getD_eq_getElem?_getD] at h;cases hc:cells[i]? with
 |none=>rw[hc] at h;exact absurd h.symm hp
 |some q=>rw[hc] at h;simp at h;rw[h]
theorem Zw:∀{ts:List CT}{cells:Ae}{off:Nat}{K:Ae->Option R},Xn ts cells off K=some r ->
  ∃cs,K cs=some r/\cs.length=ts.length/\∀j c,cs[j]?=some c->CJ c/\∃p,cells[off+j]?=some p/\CJ p /\
   ∀(w:World) (A:Nat->Prop) (β:Nat->Option (Nat × Nat)) (v:Value),Cj w A β p v->Au w A c v/\v.oneCell'=true
 |[],_,_,_,h=>⟨[],h,rfl,fun j c hj=>by simp at hj⟩
 |t::ts,cells,off,K,h=>by
  unfold Xn at h;obtain⟨c,h,hc,hp,hv⟩:=Qs h;obtain⟨cs,h,hl,LI⟩:=Zw h;refine⟨c::cs,h,by simp[hl],fun j c' hj=>?_⟩;cases j with
  |zero=>
   simp at hj;subst hj;refine⟨hc,cells.getD off .top,KV rfl ?_,hp,hv⟩;intro e;rw[e] at hp;exact hp
  |succ j=>
   simp at hj;have:=LI j c' hj
   rwa [Nat.add_right_comm,Ps] at this
theorem Yw:∀{ts:List CT}{cells:Ae}{off:Nat}{K:Ae->Option R},Sj ts cells off K=some r ->
  ∃cs,K cs=some r/\cs.length=ts.length/\(∀c∈cs,(∀x,c ≠ .agg x)/\(∀x,c ≠ .tup x))/\∀j c,cs[j]?=some c->∃p,cells[off+j]?=some p/\UC p/\(∀id,id∈At c->id∈At p) /\
   ∀(w:World) (A:Nat->Prop) (β:Nat->Option (Nat × Nat)) (v:Value),Cj w A β p v->Cj w A β c v/\v.oneCell'=true
 |[],_,_,_,h=>⟨[],h,rfl,by simp,fun j c hj=>by simp at hj⟩
 |t::ts,cells,off,K,h=>by
  unfold Sj at h;obtain⟨c,h,hc,hf,hp,ha,ht,hr,hv⟩:=Av9 h;obtain⟨cs,h,hl,IM,LI⟩:=Yw h;refine⟨c::cs,h,by simp[hl],?_,fun j c' hj=>?_⟩
  ·intro x hx;rcases List.mem_cons.1 hx with rfl|hx
   ·exact⟨ha,ht⟩
   ·exact IM x hx
  ·cases j with
   |zero=>
    simp at hj;subst hj;exact⟨cells.getD off .top,KV rfl hp,hf,hr,hv⟩
   |succ j=>
    simp at hj;have:=LI j c' hj
    rwa [Nat.add_right_comm,Ps] at this
theorem Aax{agg:Bool}{cells:Ae}{K:PV->Option R}(h:mkV agg cells K=some r):
  (agg=true/\K (.agg cells)=some r)\/(agg=false/\∃c,cells=[c]/\K c=some r):=by
 unfold mkV at h;cases agg
 ·obtain⟨c,t,rfl,h⟩:=Bn h;obtain⟨rfl,h⟩:=Em h;exact .inr ⟨rfl,c,rfl,h⟩
 ·exact .inl ⟨rfl,h⟩
end
open Go.RowKit
def D3(b:Option B7):Prop:=
 match b with
 |some (.st _)=>True
 |some (.ar false _)=>True
 |_=>False
abbrev Bt:=Nat->Option (Nat × Nat)
def ZF(hp:Nat->Option B7)(β:Bt)(b:Nat):Prop:=∃id o,D3 (hp id)/\β id=some (b,o)
def D2(hp:Nat->Option B7)(β:Bt)(Y:Nat->Prop)(b:Nat):Prop:=ZF hp β b\/Y b
def V3(w:World)(A:Nat->Prop)(β:Bt)(id:Nat)(bx:B7):Prop:=
 match bx with
 |.st cells=>∃b o,β id=some (b,o)/\(∀j c,cells[j]?=some c->∃v,w.cell? ⟨b,o+j,none⟩=some v/\Cj w A β c v)/\∀j,j<cells.length->w.frozen? ⟨b,o+j,none⟩=false
 |.ar fz cells=>(β id=none/\cells=[])\/∃b o,β id=some (b,o)/\RdT w A ⟨b,o,none⟩ cells/\(fz=false->∀j,o<=j->j<bsz w b->w.frozen? ⟨b,j,none⟩=false)/\(fz=true->¬A b)
 |.mv=>True
structure J8 where
 X:Nat->Prop
 L:Nat->Nat->Prop
 pn:Nat->Prop
 pt:Nat->Option (Nat × Nat)
 p8:∀i,pn i->i<8
def BR(bx:B7)(o j:Nat):Prop:=
 match bx with
 |.st c=>o<=j/\j<o+c.length
 |.ar _ _=>o<=j
 |.mv=>False
structure Fr(X0:J8)(w0 w:World):Prop where
 os:w.os=w0.os
 tape:w.tape=w0.tape
 output:w.output=w0.output
 step:Ct X0.X w0 w
 rng:∀b j,b<w0.heap.size->¬X0.L b j->w.cell? ⟨b,j,none⟩=w0.cell? ⟨b,j,none⟩/\w.frozen? ⟨b,j,none⟩=w0.frozen? ⟨b,j,none⟩
structure Di(N:Nat)(w0:World)(X0:J8)(Y:Nat->Prop)(β:Bt)(s:St)(a:Act)(w:World):Prop where
 dfr:a.defers=[]
 tsz:a.tmps.size=N
 tmo:∀i,N<=i->s.tm i=.top
 tms:∀i,i<N->Fn w (D2 s.hp β Y) β (s.tm i) (a.tmps.getD i undef)
 box:∀id b,s.hp id=some b->V3 w (D2 s.hp β Y) β id b
 inj:∀id id' b o o',D3 (s.hp id)->D3 (s.hp id')->β id=some (b,o)->β id'=some (b,o')->id=id'
 blt:∀id b o,s.hp id≠none->β id=some (b,o)->b<w.heap.size
 wfT:∀i,i<N->∀id∈Ci (s.tm i),s.hp id≠none
 wfB:∀id cells,s.hp id=some (.st cells)->∀c∈cells,∀id'∈At c,s.hp id'≠none
 ownd:∀b,ZF s.hp β b->X0.X b\/w0.heap.size<=b
 rngB:∀id bx b o,s.hp id=some bx->D3 (some bx)->β id=some (b,o)->b<w0.heap.size->∀j,BR bx o j->X0.L b j
 pin:∀i,X0.pn i->s.hp (Eb N i)≠none/\β (Eb N i)=X0.pt i
 stp:∀id c b o,s.hp id=some (.st c)->β id=some (b,o)->b<w0.heap.size->∃i,id=Eb N i/\X0.pn i
 Yx:∀b,Y b->¬ZF s.hp β b
 Ylt:∀b,Y b->b<w0.heap.size
 fr:Fr X0 w0 w
theorem Dp{b:Option B7}(h:D3 b):b≠none:=by rintro rfl;exact h
theorem An{α:Type}(f:Nat->α)(i:Nat)(v:α):Db f i v i=v:=by simp[Db,Qq]
theorem Al{α:Type}(f:Nat->α){i j:Nat}(v:α)(h:j≠i):Db f i v j=f j:=by
 have:Nat.beq j i=false:=by
  cases hb:Nat.beq j i
  ·rfl
  ·exact absurd (Dc hb) h
 simp[Db,this]
theorem HQ{α:Type}(f:Nat->α){i:Nat}{v:α}(h:f i=v):Db f i v=f:=by
 funext j
 by_cases e:j=i
 ·subst e;rw[An];exact h.symm
 ·exact Al f v e
theorem Afo{α:Type}(f:Nat->α){i j:Nat}(u v:α)(h:i≠j):Db (Db f i u) j v=Db (Db f j v) i u:=by
 funext k
 by_cases e:k=j
 ·subst e;rw[An,Al _ _ (Ne.symm h),An]
 ·rw[Al _ _ e];by_cases e':k=i
  ·subst e';rw[An,An]
  ·rw[Al _ _ e',Al _ _ e',Al _ _ e]
theorem UA{a:Act}{d:Nat}{v:Value}(h:d<a.tmps.size):(a.put (some d) v).tmps.getD d undef=v:=by simp[Act.put,h]
theorem OV{a:Act}{d i:Nat}{v:Value}(h:i≠d):(a.put (some d) v).tmps.getD i undef=a.tmps.getD i undef:=by have h':d≠i:=fun e=>h e.symm;simp[Act.put,Array.getElem?_setIfInBounds_ne h']
section
variable {N:Nat}{w0:World}{X0:J8}{Y:Nat->Prop}{β β':Bt}{s:St}{a:Act}{w w':World}
theorem EI(d:Option Tmp)(v:Value):(a.put d v).tmps.size=a.tmps.size:=by cases d<;>simp[Act.put]
theorem Wa(d:Option Tmp)(v:Value):(a.put d v).defers=a.defers:=by cases d<;>rfl
theorem Vc{d:Option Tmp}(h:Hx N d=true){i:Nat}(e:d=some i):i<N:=by subst e;exact Nat.lt_of_succ_le (Pf h)
theorem S5{Q:Nat->PV->Value->Prop}{tm:Nat->PV}{d:Option Tmp}{v:PV}{val:Value}(hN:a.tmps.size=N)(hd:Hx N d=true)(h:∀i,i<N->Q i (tm i) (a.tmps.getD i undef))(hv:∀i,Q i v val):∀i,i<N->Q i (C8 tm d v i) ((a.put d val).tmps.getD i undef):=by
 intro i hi;cases d with
 |none=>exact h i hi
 |some d=>
  have Cq:=Vc hd rfl;by_cases e:i=d
  ·subst e;show Q i (Db tm i v i) _;rw[An,UA (by omega)];exact hv i
  ·show Q i (Db tm d v i) _;rw[Al _ _ e,OV e];exact h i hi
theorem Aaf{tm:Nat->PV}{d:Option Tmp}{v:PV}(hd:Hx N d=true)(h:∀i,N<=i->tm i=.top):∀i,N<=i->C8 tm d v i=.top:=by
 intro i hi;cases d with
 |none=>exact h i hi
 |some d=>
  have:=Vc hd rfl;show Db tm d v i=_;rw[Al _ _ (by omega)];exact h i hi
theorem Di.put(h:Di N w0 X0 Y β s a w){d:Option Tmp}{v:PV}{val:Value}(hd:Hx N d=true)(hv:Fn w (D2 s.hp β Y) β v val)(hr:∀id∈Ci v,s.hp id≠none):
  Di N w0 X0 Y β ⟨C8 s.tm d v,s.hp⟩ (a.put d val) w where
 dfr:=by rw[Wa];exact h.dfr
 tsz:=by rw[EI];exact h.tsz
 tmo:=Aaf hd h.tmo
 tms:=S5 (Q:=fun _ p u=>Fn w (D2 s.hp β Y) β p u) h.tsz hd h.tms (fun _=>hv)
 box:=h.box
 inj:=h.inj
 blt:=h.blt
 wfT:=by
  have:=S5 (Q:=fun _ p _=>∀id∈Ci p,s.hp id≠none) (val:=val) h.tsz hd h.wfT (fun _=>hr);exact this
 wfB:=h.wfB
 ownd:=h.ownd
 rngB:=h.rngB
 pin:=h.pin
 stp:=h.stp
 Yx:=h.Yx
 Ylt:=h.Ylt
 fr:=h.fr
theorem Cg(hp:Nat->Option B7)(ids:B2)(i:Nat):Af hp ids i=if i∈ids then (hp i).map Zl else hp i:=by
 unfold Af;by_cases hi:i∈ids
 ·have:ids.any (Nat.beq i)=true:=List.any_eq_true.2 ⟨i,hi,Qq i⟩;rw[this,Cx hi];rfl
 ·have:ids.any (Nat.beq i)=false:=by
   cases hb:ids.any (Nat.beq i)
   ·rfl
   ·obtain⟨j,hj,e⟩:=List.any_eq_true.1 hb;exact absurd (Dc e ▸ hj) hi
  rw[this,Br hi];rfl
theorem E7{hp:Nat->Option B7}{ids:B2}{i:Nat}:Af hp ids i=none↔hp i=none:=by rw[Cg];split<;>simp
theorem Tl{hp:Nat->Option B7}{ids:B2}{i:Nat}(h:D3 (Af hp ids i)):D3 (hp i):=by
 rw[Cg] at h;split at h
 ·cases hb:hp i with
  |none=>rw[hb] at h;exact h
  |some b=>cases b with
   |st c=>trivial
   |ar fz c=>rw[hb] at h;exact h.elim
   |mv=>rw[hb] at h;exact h
 ·exact h
theorem Lw{hp:Nat->Option B7}{ids:B2}{i:Nat}{bx:B7}(h:Af hp ids i=some bx)(hl:D3 (some bx)):hp i=some bx:=by
 rw[Cg] at h;split at h
 ·cases hb:hp i with
  |none=>rw[hb] at h;cases h
  |some b=>
   rw[hb] at h;cases b with
   |st c=>exact h
   |ar fz c=>simp only[Option.map_some,Zl,Option.some.injEq] at h;subst h;exact hl.elim
   |mv=>simp only[Option.map_some,Zl,Option.some.injEq] at h;subst h;exact hl.elim
 ·exact h
theorem Vj{hp:Nat->Option B7}{ids:B2}{b:Nat}(h:ZF (Af hp ids) β b):ZF hp β b:=by obtain⟨id,o,hl,hb⟩:=h;exact⟨id,o,Tl hl,hb⟩
theorem V3.step'{A A':Nat->Prop}{id:Nat}{bx:B7}(hA:∀b,A' b->A b)(h:V3 w A β id bx):V3 w A' β id bx:=by
 have hs:=Ct.refl A w;cases bx with
 |st c=>
  obtain⟨b,o,h1,h2,h3⟩:=h;exact⟨b,o,h1,fun j c hj=>let ⟨v,hv,hc⟩:=h2 j c hj;⟨v,hv,hc.step hs (fun b _=>hA b) (fun _ _=>rfl)⟩,h3⟩
 |ar fz c=>
  rcases h with h|⟨b,o,h1,h2,h3,h4⟩
  ·exact .inl h
  ·exact .inr ⟨b,o,h1,h2.weak (fun b _=>hA b),h3,fun e x=>h4 e (hA b x)⟩
 |mv=>trivial
theorem Di.freeze(h:Di N w0 X0 Y β s a w){fz:B2}(JP:∀id∈fz,∃f c,s.hp id=some (.ar f c)):Di N w0 X0 Y β ⟨s.tm,Af s.hp fz⟩ a w:=by
 have hA:∀b,D2 (Af s.hp fz) β Y b->D2 s.hp β Y b:=fun b hb=>hb.imp Vj id
 refine⟨h.dfr,h.tsz,h.tmo,fun i hi=>(h.tms i hi).step (Ct.refl _ _) (fun b _=>hA b) (fun _ _=>rfl),fun id b hb=>?_,fun id id' b o o' h1 h2=>h.inj id id' b o o' (Tl h1) (Tl h2),
  fun id b o hn=>h.blt id b o (fun e=>hn (E7.2 e)),fun i hi id B1 e=>h.wfT i hi id B1 (E7.1 e),fun id cells hc c hcm id' B1 e=>?_,fun b hb=>h.ownd b (Vj hb),
  fun id bx b o hb hl=>h.rngB id bx b o (Lw hb hl) hl,fun i hi=>⟨fun e=>(h.pin i hi).1 (E7.1 e),(h.pin i hi).2⟩,fun id c b o hc=>h.stp id c b o (Lw hc trivial),fun b hb x=>h.Yx b hb (Vj x),h.Ylt,h.fr⟩
 ·simp only at hb;rw[Cg] at hb;split at hb
  ·rename_i hm;obtain⟨f,c,hc⟩:=JP id hm;rw[hc] at hb;simp only[Option.map_some,Zl,Option.some.injEq] at hb;subst hb;have Pm:=h.box id _ hc;rcases Pm with Pm|⟨b,o,h1,h2,h3,h4⟩
   ·exact .inl Pm
   ·refine .inr ⟨b,o,h1,h2.weak (fun b _=>hA b),(fun e=>by cases e),fun _ hb=>?_⟩;rcases hb with⟨id',o',hl,hb⟩|hY
    ·have hl0:=Tl hl;cases f with
     |true=>exact h4 rfl (.inl ⟨id',o',hl0,hb⟩)
     |false=>
      have e:=h.inj id' id b o' o hl0 (by rw[hc];trivial) hb h1
      subst e;simp only at hl;rw[Cg,Cx hm,hc] at hl;exact hl
    ·cases f with
     |true=>exact h4 rfl (.inr hY)
     |false=>exact h.Yx b hY ⟨id,o,by rw[hc];trivial,h1⟩
  ·exact (h.box id b hb).step' hA
 ·simp only at hc;rw[Cg] at hc;refine h.wfB id cells ?_ c hcm id' B1 (E7.1 e);split at hc
  ·rename_i hm;obtain⟨f,c,Rd⟩:=JP id hm;rw[Rd] at hc;cases hc
  ·exact hc
theorem B3:∀{nw:List (Nat × B7)} {hp:Nat->Option B7},Ca hp nw=true ->
  (∀id bx,(id,bx)∈nw->hp id=none)/\(∀id bx bx',(id,bx)∈nw->(id,bx')∈nw->bx=bx')
 |[],_,_=>⟨by simp,by simp⟩
 |(i,b)::r,hp,h=>by
  simp only[Ca,E0,Option.isNone_iff_eq_none,Bool.not_eq_true'] at h;obtain⟨⟨h1,h2⟩,h3⟩:=h;obtain⟨h4,h5⟩:=B3 h3
  have Hp:∀bx,(i,bx) ∉ r:=by
   intro bx hm;have:r.any (fun q=>Nat.beq q.1 i)=true:=List.any_eq_true.2 ⟨_,hm,Qq i⟩;rw[this] at h2;cases h2
  refine⟨fun id bx hm=>?_,fun id bx bx' hm M8=>?_⟩
  ·rcases List.mem_cons.1 hm with e|hm
   ·cases e;exact h1
   ·exact h4 id bx hm
  ·rcases List.mem_cons.1 hm with e|hm
   ·cases e;rcases List.mem_cons.1 M8 with e|M8
    ·cases e;rfl
    ·exact absurd M8 (Hp _)
   ·rcases List.mem_cons.1 M8 with e|M8
    ·cases e;exact absurd hm (Hp _)
    ·exact h5 id bx bx' hm M8
theorem Fi:∀{nw:List (Nat × B7)} {hp:Nat->Option B7},(∀id bx bx',(id,bx)∈nw->(id,bx')∈nw->bx=bx') ->
  (∀id bx,(id,bx)∈nw->Av hp nw id=some bx)/\(∀id,(∀bx,(id,bx) ∉ nw)->Av hp nw id=hp id)
 |[],_,_=>⟨by simp,fun _ _=>rfl⟩
 |(i,b)::r,hp,h=>by
  obtain⟨h1,h2⟩:=Fi (nw:=r) (hp:=Db hp i (some b)) (fun id bx bx' hm M8=>h id bx bx' (by simp[hm]) (by simp[M8]));refine⟨fun id bx hm=>?_,fun id hn=>?_⟩
  ·by_cases hr:∃bx',(id,bx')∈r
   ·obtain⟨bx',hr⟩:=hr;have:=h id bx bx' hm (by simp[hr]);subst this;exact h1 id bx hr
   ·rcases List.mem_cons.1 hm with e|hm
    ·cases e;show Av (Db hp i (some b)) r i=_;rw[h2 i (fun bx' hb=>hr ⟨bx',hb⟩),An]
    ·exact absurd ⟨bx,hm⟩ hr
  ·show Av (Db hp i (some b)) r id=_;rw[h2 id (fun bx hb=>hn bx (by simp[hb])),Al]
   rintro rfl
   exact hn b (by simp)
structure WO(Y:Nat->Prop)(β:Bt)(s:St)(w:World)(v:PV)(nw:List (Nat × B7))(val:Value)(w':World)(β':Bt):Prop where
 os:w'.os=w.os
 tape:w'.tape=w.tape
 output:w'.output=w.output
 ext:Ct (fun _=>False) w w'
 old:∀id,s.hp id≠none->β' id=β id
 nlive:∀id bx,(id,bx)∈nw->D3 (some bx)
 nbox:∀id bx,(id,bx)∈nw->V3 w' (D2 (Av s.hp nw) β' Y) β' id bx
 nblk:∀id bx b o,(id,bx)∈nw->β' id=some (b,o)->w.heap.size<=b/\b<w'.heap.size
 ninj:∀id bx id' bx' b o o',(id,bx)∈nw->(id',bx')∈nw->β' id=some (b,o)->β' id'=some (b,o')->id=id'
 nwf:∀id cells,(id,.st cells)∈nw->∀c∈cells,∀id'∈At c,s.hp id'≠none\/∃bx,(id',bx)∈nw
 val:Fn w' (D2 (Av s.hp nw) β' Y) β' v val
 vwf:∀id∈Ci v,s.hp id≠none\/∃bx,(id,bx)∈nw
theorem Di.stepR(h:Di N w0 X0 Y β s a w){d:Option Tmp}{v:PV}{nw:List (Nat × B7)}{val:Value}(hd:Hx N d=true)(Ui:Ca s.hp nw=true)(st:WO Y β s w v nw val w' β'):Di N w0 X0 Y β' ⟨C8 s.tm d v,Av s.hp nw⟩ (a.put d val) w':=by
 obtain⟨ha1,Vp⟩:=B3 Ui;obtain⟨hg1,hg2⟩:=Fi (hp:=s.hp) Vp
 have Jf:∀id,(∃bx,(id,bx)∈nw)\/Av s.hp nw id=s.hp id:=fun id=>by
  by_cases hx:∃bx,(id,bx)∈nw
  ·exact .inl hx
  ·exact .inr (hg2 id fun bx hb=>hx ⟨bx,hb⟩)
 have A7q:∀id,s.hp id≠none->Av s.hp nw id=s.hp id:=fun id hn=>by
  rcases Jf id with⟨bx,hx⟩|e
  ·exact absurd (ha1 id bx hx) hn
  ·exact e
 have Gz:∀id,(s.hp id≠none\/∃bx,(id,bx)∈nw)->Av s.hp nw id≠none:=by
  rintro id (hn|⟨bx,hx⟩)
  ·rw[A7q id hn];exact hn
  ·rw[hg1 id bx hx];simp
 have A0o:∀b,b<w.heap.size->ZF (Av s.hp nw) β' b->ZF s.hp β b:=by
  rintro b hb ⟨id,o,hl,hβ⟩
  rcases Jf id with⟨bx,hx⟩|e
  ·have:=(st.nblk id bx b o hx hβ).1;omega
  ·rw[e] at hl;exact⟨id,o,hl,by rw[<-st.old id (Dp hl)];exact hβ⟩
 have Aku:∀b,b<w.heap.size->D2 (Av s.hp nw) β' Y b->D2 s.hp β Y b:=fun b hb hA=>hA.imp (A0o b hb) id;have Ajj:Ct (D2 s.hp β Y) w w':=st.ext.weaken (fun _ _ x=>x.elim);refine⟨by rw[Wa];exact h.dfr,by rw[EI];exact h.tsz,Aaf hd h.tmo,?_,?_,?_,?_,?_,?_,?_,?_,?_,?_,?_,h.Ylt,?_⟩
 ·refine S5 (Q:=fun _ p u=>Fn w' (D2 (Av s.hp nw) β' Y) β' p u) h.tsz hd (fun i hi=>?_) (fun _=>st.val);exact (h.tms i hi).step Ajj Aku fun id B1=>st.old id (h.wfT i hi id B1)
 ·intro id b hb;simp only at hb;rcases Jf id with⟨bx,hx⟩|e
  ·rw[hg1 id bx hx] at hb;cases hb;exact st.nbox id _ hx
  ·rw[e] at hb;have hβ:=st.old id (by rw[hb];simp)
   have Pm:=h.box id b hb;have Cq:=h.blt id;have Hp:s.hp id≠none:=by rw[hb];simp
   cases b with
   |st c=>
    obtain⟨b,o,h1,h2,h3⟩:=Pm;have Jz:=Cq b o Hp h1;have Wn:=st.ext.keep b Jz (fun x=>x);refine⟨b,o,by rw[hβ];exact h1,fun j c hj=>?_,fun j hj=>?_⟩
    ·obtain⟨v,hv,hc⟩:=h2 j c hj;refine⟨v,by rw[World.cell?_of_block (w:=w) Wn];exact hv,hc.step Ajj Aku fun id' B1=>st.old id' ?_⟩
     exact h.wfB id _ hb c (List.mem_of_getElem? hj) id' B1
    ·rw[World.frozen?_of_block (w:=w) Wn];exact h3 j hj
   |ar fz c=>
    rcases Pm with⟨h1,h2⟩|⟨b,o,h1,h2,h3,h4⟩
    ·exact .inl ⟨by rw[hβ];exact h1,h2⟩
    ·have Jz:=Cq b o Hp h1;have Wn:=st.ext.keep b Jz (fun x=>x);have hbs:bsz w' b=bsz w b:=by unfold bsz;rw[Wn]
     refine .inr ⟨b,o,by rw[hβ];exact h1,fun j c hj=>?_,fun e j hj Ya=>?_,fun e x=>h4 e (Aku b Jz x)⟩
     ·obtain⟨v,hv,h5,hc⟩:=h2 j c hj;exact⟨v,by rw[World.cell?_of_block (w:=w) (by rw[F4];exact Wn)];exact hv,h5,hc.step Ajj Aku⟩
     ·rw[World.frozen?_of_block (w:=w) Wn];exact h3 e j hj (by rw[<-hbs];exact Ya)
   |mv=>trivial
 ·intro id id' b o o' hl N2 hb Jz;simp only at hl N2;rcases Jf id with⟨bx,hx⟩|e
  ·rcases Jf id' with⟨bx',Xa⟩|e'
   ·exact st.ninj id bx id' bx' b o o' hx Xa hb Jz
   ·rw[e'] at N2;have h1:=(st.nblk id bx b o hx hb).1;have h2:=h.blt id' b o' (Dp N2) (by rw[<-st.old id' (Dp N2)];exact Jz)
    omega
  ·rw[e] at hl;rcases Jf id' with⟨bx',Xa⟩|e'
   ·have h1:=(st.nblk id' bx' b o' Xa Jz).1;have h2:=h.blt id b o (Dp hl) (by rw[<-st.old id (Dp hl)];exact hb)
    omega
   ·rw[e'] at N2;exact h.inj id id' b o o' hl N2 (by rw[<-st.old id (Dp hl)];exact hb) (by rw[<-st.old id' (Dp N2)];exact Jz)
 ·intro id b o hn hb;simp only at hn;rcases Jf id with⟨bx,hx⟩|e
  ·exact (st.nblk id bx b o hx hb).2
  ·rw[e] at hn;exact Gf (h.blt id b o hn (by rw[<-st.old id hn];exact hb)) st.ext.size
 ·have:=S5 (Q:=fun _ p _=>∀id∈Ci p,Av s.hp nw id≠none) (val:=val) (d:=d) (v:=v) h.tsz hd (fun i hi id B1=>Gz id (.inl (h.wfT i hi id B1))) (fun _ id B1=>Gz id (st.vwf id B1));exact this
 ·intro id cells hc c hcm id' B1;simp only at hc;rcases Jf id with⟨bx,hx⟩|e
  ·rw[hg1 id bx hx] at hc;cases hc;exact Gz id' (st.nwf id _ hx c hcm id' B1)
  ·rw[e] at hc;exact Gz id' (.inl (h.wfB id cells hc c hcm id' B1))
 ·rintro b ⟨id,o,hl,hb⟩
  simp only at hl;rcases Jf id with⟨bx,hx⟩|e
  ·exact .inr (Nat.le_trans h.fr.step.size (st.nblk id bx b o hx hb).1)
  ·rw[e] at hl;exact h.ownd b ⟨id,o,hl,by rw[<-st.old id (Dp hl)];exact hb⟩
 ·intro id bx b o hb hl hβ Cq;simp only at hb;rcases Jf id with⟨bx',hx⟩|e
  ·have:=(st.nblk id bx' b o hx hβ).1;have:=h.fr.step.size;omega
  ·rw[e] at hb;exact h.rngB id bx b o hb hl (by rw[<-st.old id (by rw[hb];simp)];exact hβ) Cq
 ·intro i hi;obtain⟨h1,h2⟩:=h.pin i hi;exact⟨Gz _ (.inl h1),by rw[st.old _ h1];exact h2⟩
 ·intro id c b o hb hβ Cq;simp only at hb;rcases Jf id with⟨bx',hx⟩|e
  ·have:=(st.nblk id bx' b o hx hβ).1;have:=h.fr.step.size;omega
  ·rw[e] at hb;exact h.stp id c b o hb (by rw[<-st.old id (by rw[hb];simp)];exact hβ) Cq
 ·rintro b hY hX
  have hb:b<w.heap.size:=Gf (h.Ylt b hY) h.fr.step.size;exact h.Yx b hY (A0o b hb hX)
 ·refine⟨st.os.trans h.fr.os,st.tape.trans h.fr.tape,st.output.trans h.fr.output,h.fr.step.trans st.ext (fun _ _ x=>x.elim),fun b j hb hL=>?_⟩;have Wn:=st.ext.keep b (Gf hb h.fr.step.size) (fun x=>x);have hc:w'.cell? ⟨b,j,none⟩=w.cell? ⟨b,j,none⟩:=World.cell?_of_block (w:=w) Wn;have hf:w'.frozen? ⟨b,j,none⟩=w.frozen? ⟨b,j,none⟩:=World.frozen?_of_block (w:=w) Wn;rw[hc,hf];exact h.fr.rng b j hb hL
end
open Go.RowKit
section
variable {P:Program}{N:Nat}{w0:World}{X0:J8}{Y:Nat->Prop}{β β':Bt}{s:St}{a:Act}{w w':World}{o:Oper}
theorem Acj(cs:List Value)(A:Nat->Prop):Bj (Cj w A β) (cs.map PV.sc) cs:=by
 induction cs with
 |nil=>trivial
 |cons v r ih=>exact⟨Au.sc v,ih⟩
theorem Agv(cs:List Value):(cs.map PV.sc).flatMap At=[]:=by
 induction cs with
 |nil=>rfl
 |cons v r ih=>exact ih
theorem Dr(h:Di N w0 X0 Y β s a w)(x:Operand):Fn w (D2 s.hp β Y) β (Cp s.tm x) (a.eval x):=by
 cases x with
 |tmp t=>
  show Fn _ _ _ (s.tm t) (a.tmps.getD t undef);by_cases ht:t<N
  ·exact h.tms t ht
  ·rw[h.tmo t (Nat.le_of_not_lt ht)];exact Au.top _
 |const v=>
  cases v with
  |agg cs=>exact⟨cs.toList,by simp[Act.eval],Acj cs.toList _⟩
  |_=>exact Au.sc _
 |func f=>exact Au.sc _
 |global g=>exact Au.sc _
theorem F7(h:Di N w0 X0 Y β s a w)(x:Operand):∀id∈Ci (Cp s.tm x),s.hp id≠none:=by
 cases x with
 |tmp t=>
  show ∀id∈Ci (s.tm t),_;by_cases ht:t<N
  ·exact h.wfT t ht
  ·rw[h.tmo t (Nat.le_of_not_lt ht)];intro id B1;cases B1
 |const v=>
  cases v with
  |agg cs=>
   intro id B1;have:Ci (.agg (cs.toList.map .sc))=[]:=Agv cs.toList;simp only[Cp] at B1;rw[this] at B1;cases B1
  |_=>intro id B1;cases B1
 |func f=>intro id B1;cases B1
 |global g=>intro id B1;cases B1
theorem JF{A:Nat->Prop}{v u:Value}(h:Fn w A β (.sc v) u):u=v:=Au.val h
theorem Co(h:Di N w0 X0 Y β s a w){x:Operand}{v:Value}(e:Cp s.tm x=.sc v):a.eval x=v:=by have:=Dr h x;rw[e] at this;exact JF this
def Fg(P:Program)(a:Act)(w:World)(o:Oper)(Y:Nat->Prop)(β:Bt)(s:St)(v:PV)(fz:B2)(nw:List (Nat × B7)):Prop:=
 (∀id∈fz,∃f c,s.hp id=some (.ar f c))/\∃val w',(execOp a.eval o).run P w=.ok (.value val) w'/\(Ca s.hp nw=true->∃β',WO Y β ⟨s.tm,Af s.hp fz⟩ w v nw val w' β')
theorem Ahn{v:PV}{val:Value}(hv:Fn w (D2 s.hp β Y) β v val)(hr:∀id∈Ci v,s.hp id≠none):WO Y β s w v [] val w β:=
 ⟨rfl,rfl,rfl,Ct.refl _ _,fun _ _=>rfl,by simp,by simp,by simp,by simp,by simp,hv,fun id B1=>.inl (hr id B1)⟩
theorem Ck{v:PV}{val:Value}(Dh:(execOp a.eval o).run P w=.ok (.value val) w)(hv:Fn w (D2 s.hp β Y) β v val)(hr:∀id∈Ci v,s.hp id≠none):Fg P a w o Y β s v [] []:=
 ⟨by simp,val,w,Dh,fun _=>⟨β,Ahn (s:=⟨s.tm,Af s.hp []⟩) hv hr⟩⟩
theorem C9{v:Value}(Dh:(execOp a.eval o).run P w=.ok (.value v) w):Fg P a w o Y β s (.sc v) [] []:=Ck Dh (Au.sc v) (by intro id B1;cases B1)
structure Ht(w w':World)(c:Array Value)(e:TypeId):Prop where
 os:w'.os=w.os
 tape:w'.tape=w.tape
 output:w'.output=w.output
 old:∀b,b<w.heap.size->w'.heap[b]?=w.heap[b]?
 size:w'.heap.size=w.heap.size+1
 new:∃fz:Nat × Nat,w'.heap[w.heap.size]?=some (.cells c e fz)/\(fz.1=fz.2\/c.size<=fz.1)
theorem Ht.alloc(w:World)(c:Array Value)(e:TypeId):Ht w (w.alloc (.cells c e)) c e:=
 ⟨rfl,rfl,rfl,fun b hb=>Below.heap_alloc w _ b hb,by show (w.heap.push _).size=_;simp,(0,0),by show (w.heap.push _)[w.heap.size]?=_;simp,.inl rfl⟩
theorem Ht.drew{c:Array Value}{e:TypeId}(h:Ht w w' c e):Ht w w'.drew c e:=⟨h.os,h.tape,h.output,h.old,h.size,h.new⟩
section
variable {c:Array Value}{e:TypeId}
theorem Ht.step(h:Ht w w' c e):Ct (fun _=>False) w w':=
 ⟨by rw[h.size];omega,fun b hb _=>h.old b hb,fun b hb=>Io.same (h.old b hb)⟩
theorem Ht.cell(h:Ht w w' c e)(j:Nat):w'.cell? ⟨w.heap.size,j,none⟩=c[j]?:=by obtain⟨fz,hn,_⟩:=h.new;simp[World.cell?,hn]
theorem Ht.frozen(h:Ht w w' c e){j:Nat}(hj:j<c.size):w'.frozen? ⟨w.heap.size,j,none⟩=false:=by obtain⟨fz,hn,hf⟩:=h.new;simp only[World.frozen?,hn];rcases hf with hf|hf<;>simp<;>omega
theorem N6(w:World)(c:Array Value)(e:TypeId):Afl (w.alloc (.cells c e)) w.heap.size=false:=by
 unfold Afl World.frozen?;have:(w.alloc (.cells c e)).heap[w.heap.size]?=some (.cells c e (0,0)):=by show (w.heap.push _)[w.heap.size]?=_;simp
 simp only[this];simp
theorem Ht.bsz(h:Ht w w' c e):bsz w' w.heap.size=c.size:=by obtain⟨fz,hn,_⟩:=h.new;simp[Pv.bsz,hn]
end
theorem Vh{c:Array Value}{e:TypeId}{d:Nat}{bx:B7}{v:PV}{val:Value}(hg:Ht w w' c e)(hd:s.hp d=none)(hl:D3 (some bx))(Pm:V3 w' (D2 (Db s.hp d (some bx)) (Db β d (some (w.heap.size,0))) Y) (Db β d (some (w.heap.size,0))) d bx)(hcw:∀cells,bx=.st cells->∀x∈cells,∀id'∈At x,s.hp id'≠none)(hv:Fn w' (D2 (Db s.hp d (some bx)) (Db β d (some (w.heap.size,0))) Y) (Db β d (some (w.heap.size,0))) v val)(hvr:∀id∈Ci v,s.hp id≠none\/id=d):WO Y β s w v [(d,bx)] val w' (Db β d (some (w.heap.size,0))) where
 os:=hg.os
 tape:=hg.tape
 output:=hg.output
 ext:=hg.step
 old:=fun id hn=>Al _ _ (by rintro rfl;exact hn hd)
 nlive:=by intro id b hm;simp at hm;obtain⟨rfl,rfl⟩:=hm;exact hl
 nbox:=by intro id b hm;simp at hm;obtain⟨rfl,rfl⟩:=hm;exact Pm
 nblk:=by
  intro id b x y hm hb;simp at hm;obtain⟨rfl,rfl⟩:=hm;rw[An] at hb;simp at hb;have:=hg.size;omega
 ninj:=by intro id b id' b' x y z hm M8 _ _;simp at hm M8;rw[hm.1,M8.1]
 nwf:=by intro id cells hm x hx id' B1;simp at hm;exact .inl (hcw cells hm.2.symm x hx id' B1)
 val:=hv
 vwf:=by
  intro id B1;rcases hvr id B1 with h|rfl
  ·exact .inl h
  ·exact .inr ⟨bx,by simp⟩
theorem Akr{c:Array Value}{e:TypeId}(hg:Ht w w' c e){A A':Nat->Prop}(hA:∀b,b<w.heap.size->A' b->A b){cells:Ae}(h:∀(j:Nat) p,cells[j]?=some p->∃v,c[j]?=some v/\v.oneCell'=true/\Au w A p v):RdT w' A' ⟨w.heap.size,0,none⟩ cells:=by intro j p hj;obtain⟨v,hv,h1,ht⟩:=h j p hj;exact⟨v,by rw[Fo,Ip,hg.cell];exact hv,h1,ht.step (hg.step.weaken (fun _ _ x=>x.elim)) hA⟩
theorem Ajn{d:Nat}{bx:B7}(hwf:s.hp d=none):∀b,b<w.heap.size->D2 (Db s.hp d (some bx)) (Db β d (some (w.heap.size,0))) Y b->D2 s.hp β Y b:=by
 intro b hb hA;rcases hA with⟨id,o,hl,hβ⟩|hY
 ·by_cases e:id=d
  ·subst e;rw[An] at hβ;simp at hβ;omega
  ·rw[Al _ _ e] at hl hβ;exact .inl ⟨id,o,hl,hβ⟩
 ·exact .inr hY
theorem Un{c:Array Value}{e:TypeId}{d:Nat}{cells:Ae}{fz:B2}{v:PV}{val:Value}(JP:∀id∈fz,∃f c,s.hp id=some (.ar f c))(Dh:(execOp a.eval o).run P w=.ok (.value val) w')(hg:Ht w w' c e)(hc:∀(j:Nat) p,cells[j]?=some p->∃u,c[j]?=some u/\u.oneCell'=true/\Au w (D2 (Af s.hp fz) β Y) p u)(hv:(v=.ptr d 0/\val=.pointer (some ⟨w.heap.size,0,none⟩))\/∃es n cap,v=.view d es 0 n/\val=.slice (some ⟨w.heap.size,0,none⟩) n cap/\n<=cap/\cap*es<=c.size/\(es=1\/Afl w' w.heap.size=false)):
  Fg P a w o Y β s v fz [(d,.ar false cells)]:=by
 refine⟨JP,val,w',Dh,fun Ui=>⟨Db β d (some (w.heap.size,0)),?_⟩⟩;have hd:s.hp d=none:=(B3 Ui).1 d (.ar false cells) (by simp);have hd':Af s.hp fz d=none:=E7.2 hd;refine Vh (s:=⟨s.tm,Af s.hp fz⟩) hg hd' trivial ?_ (fun cells hx=>by cases hx) ?_ ?_
 ·refine .inr ⟨w.heap.size,0,An _ _ _,?_,fun _ j _ hj=>?_,(fun x=>by cases x)⟩
  ·exact Akr hg (Ajn (s:=⟨s.tm,Af s.hp fz⟩) hd') hc
  ·rw[hg.bsz] at hj;exact hg.frozen hj
 ·rcases hv with⟨rfl,rfl⟩|⟨es,n,cap,rfl,rfl,hn,DH,Bcy⟩
  ·exact⟨w.heap.size,0,An _ _ _,rfl⟩
  ·exact .inr ⟨w.heap.size,0,0,cap,An _ _ _,rfl,.inl rfl,hn,⟨by rw[hg.bsz];omega,Bcy⟩,by rw[hg.size];omega⟩
 ·intro id B1;rcases hv with⟨rfl,_⟩|⟨es,n,cap,rfl,_⟩<;>(simp[Ci,Cy,At] at B1;exact .inr B1)
theorem WM{c:Array Value}{e:TypeId}{d:Nat}{cells:Ae}(Dh:(execOp a.eval o).run P w=.ok (.value (.pointer (some ⟨w.heap.size,0,none⟩))) w')(hg:Ht w w' c e)(hc:∀(j:Nat) p,cells[j]?=some p->∃u,c[j]?=some u/\Cj w (D2 s.hp β Y) β p u)(hr:∀x∈cells,∀id∈At x,s.hp id≠none):
  Fg P a w o Y β s (.ptr d 0) [] [(d,.st cells)]:=by
 refine⟨by simp,_,w',Dh,fun Ui=>⟨Db β d (some (w.heap.size,0)),?_⟩⟩;have hd:s.hp d=none:=(B3 Ui).1 d (.st cells) (by simp);refine Vh (s:=⟨s.tm,Af s.hp []⟩) hg hd trivial ?_ (fun cs hx x hxm id B1=>?_) ?_ ?_
 ·refine⟨w.heap.size,0,An _ _ _,fun j p hj=>?_,fun j hj=>?_⟩
  ·obtain⟨u,hu,hp⟩:=hc j p hj;refine⟨u,by rw[Ip,hg.cell];exact hu,hp.step (hg.step.weaken (fun _ _ x=>x.elim)) (Ajn (s:=⟨s.tm,Af s.hp []⟩) hd) fun id B1=>Al _ _ ?_⟩
   rintro rfl
   exact hr p (List.mem_of_getElem? hj) id B1 hd
  ·rw[Ip];obtain⟨u,hu,_⟩:=hc j _ (List.getElem?_eq_getElem hj)
   exact hg.frozen (by
    rcases Ik j c.size with h|h
    ·exact h
    ·rw[Array.getElem?_eq_none h] at hu;cases hu)
 ·injection hx with hx;subst hx;exact hr x hxm id B1
 ·exact⟨w.heap.size,0,An _ _ _,rfl⟩
 ·intro id B1;simp[Ci,Cy,At] at B1;exact .inr B1
end
open Go.RowKit
section
variable {R:Type}{r:R}{P:Program}{N:Nat}{w0:World}{X0:J8}{Y:Nat->Prop}{β β':Bt}{s:St}{a:Act}{w w':World}{o:Oper}
theorem N1{t:TypeId}{n:Nat}(h:(P.info? t).map (·.size)=some n)(w:World):(sizeOf t).run P w=.ok n w:=by
 cases hi:P.info? t with
 |none=>rw[hi] at h;cases h
 |some i=>rw[hi] at h;simp at h;simp[sizeOf,typeInfo,hi,h]
theorem At9{t:TypeId}{n:Nat}(h:A9 P t=n)(hn:0<n):(P.info? t).map (·.size)=some n:=by
 unfold A9 at h;cases hi:(P.info? t).map (·.size) with
 |none=>rw[hi] at h;simp at h;omega
 |some i=>rw[hi] at h;simp at h;rw[h]
theorem Q3{t:TypeId}{d:TypeDesc}(h:P.underlying t=some d)(w:World):(isAgg t).run P w=.ok (Ch P t) w:=by unfold isAgg Ch;rw[h];simp only[Sem.run_bind,run_underlying h,Result.andThen_ok];cases d<;>rfl
theorem Aix{t:TypeId}{v:Value}{K:PV->Option R}(h:cvK P t v K=some r):∃p,K p=some r/\Ci p=[]/\∀(w:World)(A:Nat->Prop)(β:Bt),Fn w A β p v:=by
 have sc:∀v:Value,K (.sc v)=some r->∃p,K p=some r/\Ci p=[]/\∀(w:World) (A:Nat->Prop) (β:Bt),Fn w A β p v:=fun v h=>⟨_,h,rfl,fun w A β=>Au.sc v⟩;unfold cvK at h;split at h
 ·rename_i cs;obtain⟨hl,h⟩:=Am h;obtain⟨xs,h,hxl,hx⟩:=Zw h;have hl:=Dc hl;refine⟨_,h,?_,fun w A β=>⟨cs.toList,by simp,?_⟩⟩
  ·show xs.flatMap At=[];rw[List.flatMap_eq_nil_iff];intro c hc;obtain⟨j,hj⟩:=List.mem_iff_getElem?.1 hc;exact Jk (hx j c hj).1
  ·refine Bj.of_at (by rw[hxl,hl]) fun i c u hc hu=>?_;obtain⟨hT,p,hp,_,IL⟩:=hx i c hc;refine (Pd hT).2 (IL w A β u ?_).1;rw[Ip,List.getElem?_map,hu] at hp;simp at hp;subst hp;exact Au.sc u
 ·split at h
  ·exact⟨_,h,rfl,fun w A β=>Au.lnil true _⟩
  ·cases h
 ·exact sc _ h
theorem ER(h:Di N w0 X0 Y β s a w){x:Operand}(Dh:(execOp a.eval o).run P w=.ok (.value (a.eval x)) w){K:PV->Option R}(hk:IE P o.type s.tm x K=some r):
  ∃v,K v=some r/\Fg P a w o Y β s v [] []:=by
 have dflt:K (Cp s.tm x)=some r->∃v,K v=some r/\Fg P a w o Y β s v [] []:=fun hk=>⟨_,hk,Ck Dh (Dr h x) (F7 h x)⟩;cases x with
 |const v=>
  obtain⟨p,hk,hr,hv⟩:=Aix hk;exact⟨p,hk,Ck Dh (hv _ _ _) (by rw[hr];simp)⟩
 |tmp t=>exact dflt hk
 |func f=>exact dflt hk
 |global g=>exact dflt hk
theorem Amc{x:Operand}(ho:o.op=.move x):(execOp a.eval o).run P w=.ok (.value (a.eval x)) w:=by unfold execOp;rw[ho];rfl
theorem Ab0{x:Operand}(ho:o.op=.assign x):(execOp a.eval o).run P w=.ok (.value (a.eval x)) w:=by unfold execOp;rw[ho];rfl
theorem Ah9(h:Di N w0 X0 Y β s a w){c x y:Operand}(ho:o.op=.pick c x y){K:PV->Option R}(hk:(Bm (Cp s.tm c) fun t=>Ay t (K (Cp s.tm x)) (K (Cp s.tm y)))=some r):
  ∃v,K v=some r/\Fg P a w o Y β s v [] []:=by
 obtain⟨b,hb,hk⟩:=Eo hk;have hc:=Co h hb;rcases Qx hk with⟨rfl,hk⟩|⟨rfl,hk⟩
 ·exact⟨_,hk,Ck (by unfold execOp;rw[ho];simp[asBool,hc]) (Dr h x) (F7 h x)⟩
 ·exact⟨_,hk,Ck (by unfold execOp;rw[ho];simp[asBool,hc]) (Dr h y) (F7 h y)⟩
theorem Tn{t:TypeId}{K:Ae->Option R}(h:Iv P t K=some r):∃(v:Value)(cs:Ae),K cs=some r/\T8 P t=some v/\cs.length=(Kc P t).length/\cs.length=v.cells.toList.length/\cs.length=A9 P t /\
  ∀(j:Nat) c,cs[j]?=some c->CJ c/\∃u,v.cells.toList[j]?=some u/\u.oneCell'=true/\∀(w:World) (A:Nat->Prop),Au w A c u:=by
 unfold Iv at h;obtain⟨v,hz,h⟩:=Cw h;obtain⟨hl,h⟩:=Am h;obtain⟨cs,h,Se,hc⟩:=Zw h;simp only[E0] at hl;have QF:=Dc hl.1
 have Ww:(Kc P t).length=A9 P t:=by
  have:=hl.2;simp only[Lj,E0] at this;exact Dc this.2
 refine⟨v,cs,h,hz,Se,by rw[Se,QF],by rw[Se,Ww],fun j c hj=>?_⟩;obtain⟨hT,p,hp,_,IL⟩:=hc j c hj;rw[Ip,List.getElem?_map] at hp;cases hu:v.cells.toList[j]? with
 |none=>rw[hu] at hp;cases hp
 |some u=>
  rw[hu] at hp;simp at hp;subst hp;exact⟨hT,u,rfl,(IL default (fun _=>False) (fun _=>none) u (Au.sc u)).2,fun w A=>(IL w A (fun _=>none) u (Au.sc u)).1⟩
theorem BW{t:TypeId}{v:Value}(h:T8 P t=some v)(w:World):(zeroValue t).run P w=.ok v w:=by
 unfold T8 at h;cases hi:P.info? t with
 |none=>rw[hi] at h;cases h
 |some i=>rw[hi] at h;simp at h;simp[zeroValue,typeInfo,hi,h]
theorem Adl{t:TypeId}(ho:o.op=.alloc t){d:Nat}{K:PV->B2->List (Nat × B7)->Option R}(hk:(Iv P t fun cs=>K (.ptr d 0) [] [(d,Atx P t cs)])=some r):∃v fz nw,K v fz nw=some r/\Fg P a w o Y β s v fz nw:=by
 obtain⟨z,cs,hk,hz,_,hl,_,hc⟩:=Tn hk
 have Dh:(execOp a.eval o).run P w=.ok (.value (.pointer (some ⟨w.heap.size,0,none⟩))) (w.alloc (.cells z.cells t)):=by
  unfold execOp;rw[ho];simp[Instr.alloc,BW hz,newVar,newRow]
 have hg:=Ht.alloc w z.cells t;refine⟨_,_,_,hk,?_⟩;unfold Atx;cases V6 P t
 ·refine WM Dh hg (fun j p hj=>?_) fun x hx id B1=>?_
  ·obtain⟨hT,u,hu,_,hv⟩:=hc j p hj;exact⟨u,by simpa using hu,(Pd hT).2 (hv _ _)⟩
  ·obtain⟨j,hj⟩:=List.mem_iff_getElem?.1 hx;rw[Jk (hc j x hj).1] at B1;cases B1
 ·refine Un (by simp) Dh hg (fun j p hj=>?_) (.inl ⟨rfl,rfl⟩);obtain⟨hT,u,hu,h1,hv⟩:=hc j p hj;exact⟨u,by simpa using hu,h1,hv _ _⟩
end
open Go.RowKit
section
variable {R:Type}{r:R}{P:Program}{N:Nat}{w0:World}{X0:J8}{Y:Nat->Prop}{β β':Bt}{s:St}{a:Act}{w w':World}{o:Oper}{A:Nat->Prop}
theorem Ur{t:TypeId}(h:Lj P t=true):(∃d,P.underlying t=some d)/\(Kc P t).length=A9 P t/\(P.info? t).map (·.size)=some (A9 P t):=by
 simp only[Lj,E0] at h;refine⟨Option.isSome_iff_exists.1 h.1,Dc h.2,?_⟩;unfold A9;cases hi:P.info? t with
 |none=>unfold Program.underlying at h;rw[hi] at h;cases h.1
 |some i=>simp
theorem Q7{v:Value}(h:v.oneCell'=true):v.cells = #[v]:=by cases v<;>first|rfl|cases h
theorem Akc{p:PV}{v:Value}{ts:List CT}{K:Ae->Option R}(hv:Fn w A β p v)(hl:(cellsOf p).length=ts.length)(h:Sj ts (cellsOf p) 0 K=some r):
  ∃cs,K cs=some r/\cs.length=ts.length/\Bj (Cj w A β) cs v.cells.toList/\(∀u∈v.cells.toList,u.oneCell'=true)/\(∀c∈cs,∀id∈At c,id∈Ci p)/\∀c∈cs,(∀x,c ≠ .agg x)/\(∀x,c ≠ .tup x):=by
 obtain⟨cs,h,Se,IM,hc⟩:=Yw h;refine⟨cs,h,Se,?_⟩
 have single:(∀x,p ≠ .agg x)->cellsOf p=[p]:=by
  intro hp;cases p<;>first|rfl|exact absurd rfl (hp _)
 by_cases Hj:∃x,p=.agg x
 ·obtain⟨x,rfl⟩:=Hj;obtain⟨vs,rfl,h2⟩:=hv;have Eh:cs.length=vs.length:=by rw[Se,<-hl];exact h2.len
  have key:∀(i:Nat) c u,cs[i]?=some c->vs[i]?=some u->Cj w A β c u/\u.oneCell'=true:=by
   intro i c u Rd hu;obtain⟨q,hq,_,_,hqv⟩:=hc i c Rd;rw[Ip] at hq;exact hqv w A β u (h2.at_ hq hu)
  refine⟨Bj.of_at Eh fun i c u Rd hu=>(key i c u Rd hu).1,?_,?_,IM⟩
  ·intro u hu;obtain⟨i,hi⟩:=List.mem_iff_getElem?.1 (show u∈vs from hu)
   have Cq:i<vs.length:=by
    rcases Ik i vs.length with h|h
    ·exact h
    ·rw[List.getElem?_eq_none h] at hi;cases hi
   exact (key i _ u (List.getElem?_eq_getElem (by omega)) hi).2
  ·intro c hcm id B1;obtain⟨i,hi⟩:=List.mem_iff_getElem?.1 hcm;obtain⟨q,hq,_,hr,_⟩:=hc i c hi;rw[Ip] at hq;show id∈x.flatMap At;exact List.mem_flatMap.2 ⟨q,List.mem_of_getElem? hq,hr id B1⟩
 ·have hp:∀x,p ≠ .agg x:=fun x e=>Hj ⟨x,e⟩;rw[single hp] at hl hc;have QF:cs.length=1:=by rw[Se,<-hl];rfl
  match cs,QF with
  |[c],_=>
   obtain⟨q,hq,hf,hr,hqv⟩:=hc 0 c rfl;simp at hq;subst hq;have U8:∀x,p ≠ .tup x:=by rintro x rfl;exact hf
   have Tj:Cj w A β p v:=(GO hp).1 ((Sz U8).1 hv);obtain⟨h5,h6⟩:=hqv w A β v Tj;rw[Q7 h6];refine⟨⟨h5,trivial⟩,?_,?_,IM⟩
   ·intro u hu;simp at hu;subst hu;exact h6
   ·intro c' Rd id B1;simp at Rd;subst Rd;have:=hr id B1;cases p<;>first|exact this|exact absurd rfl (hp _)|exact absurd rfl (U8 _)
end
open Go.RowKit
section
variable {R:Type}{r:R}{P:Program}{N:Nat}{w0:World}{X0:J8}{Y:Nat->Prop}{β β':Bt}{s:St}{a:Act}{w w':World}{o:Oper}{A:Nat->Prop}
theorem Bj.get{α β':Type}{R':α->β'->Prop}{zs:List α}{bs:List β'}(h:Bj R' zs bs){i:Nat}{x:α}(hx:zs[i]?=some x):∃y,bs[i]?=some y/\R' x y:=by
 have Cq:i<zs.length:=by
  rcases Ik i zs.length with h|h
  ·exact h
  ·rw[List.getElem?_eq_none h] at hx;cases hx
 have hb:bs[i]?=some (bs[i]'(by rw[<-h.len];exact Cq)):=List.getElem?_eq_getElem _
 exact⟨_,hb,h.at_ hx hb⟩
theorem Ay0{p:PV}{v:Value}{ts:List CT}{K:Ae->Option R}(hv:Fn w A β p v)(hl:(cellsOf p).length=ts.length)(h:Xn ts (cellsOf p) 0 K=some r):
  ∃cs,K cs=some r/\cs.length=ts.length/\Bj (Au w A) cs v.cells.toList/\∀u∈v.cells.toList,u.oneCell'=true:=by
 obtain⟨cs,h,Se,hc⟩:=Zw h;refine⟨cs,h,Se,?_⟩;by_cases Hj:∃x,p=.agg x
 ·obtain⟨x,rfl⟩:=Hj;obtain⟨vs,rfl,h2⟩:=hv;have Eh:cs.length=vs.length:=by rw[Se,<-hl];exact h2.len
  have key:∀(i:Nat) c u,cs[i]?=some c->vs[i]?=some u->Au w A c u/\u.oneCell'=true:=by
   intro i c u Rd hu;obtain⟨_,q,hq,_,hqv⟩:=hc i c Rd;rw[Ip] at hq;exact hqv w A β u (h2.at_ hq hu)
  refine⟨Bj.of_at Eh fun i c u Rd hu=>(key i c u Rd hu).1,?_⟩;intro u hu;obtain⟨i,hi⟩:=List.mem_iff_getElem?.1 (show u∈vs from hu)
  have Cq:i<vs.length:=by
   rcases Ik i vs.length with h|h
   ·exact h
   ·rw[List.getElem?_eq_none h] at hi;cases hi
  exact (key i _ u (List.getElem?_eq_getElem (by omega)) hi).2
 ·have hp:∀x,p ≠ .agg x:=fun x e=>Hj ⟨x,e⟩;have single:cellsOf p=[p]:=by cases p<;>first|rfl|exact absurd rfl (hp _)
  rw[single] at hl hc;have QF:cs.length=1:=by rw[Se,<-hl];rfl
  match cs,QF with
  |[c],_=>
   obtain⟨_,q,hq,hf,hqv⟩:=hc 0 c rfl;simp at hq;subst hq;have U8:∀x,p ≠ .tup x:=by rintro x rfl;exact hf
   have Tj:Cj w A β p v:=(GO hp).1 ((Sz U8).1 hv);obtain⟨h5,h6⟩:=hqv w A β v Tj;rw[Q7 h6];exact⟨⟨h5,trivial⟩,fun u hu=>by simp at hu;subst hu;exact h6⟩
theorem Alt(h:Di N w0 X0 Y β s a w){t:TypeId}{x:Operand}(ho:o.op=.box t x){d:Nat}{K:PV->B2->List (Nat × B7)->Option R}(hk:(Ar (Lj P t&&Nat.beq (cellsOf (Cp s.tm x)).length (Kc P t).length)
      (bif V6 P t then Xn (Kc P t) (cellsOf (Cp s.tm x)) 0 fun cs=>K (.ptr d 0) [] [(d,.ar false cs)]
       else Sj (Kc P t) (cellsOf (Cp s.tm x)) 0 fun cs=>K (.ptr d 0) [] [(d,.st cs)]))=some r):∃v fz nw,K v fz nw=some r/\Fg P a w o Y β s v fz nw:=by
  obtain⟨hl,hk⟩:=Am hk
  simp only[E0] at hl
  have hl:=Dc hl.2
  have Dh:(execOp a.eval o).run P w=.ok (.value (.pointer (some ⟨w.heap.size,0,none⟩))) (w.alloc (.cells (a.eval x).cells t)):=by
    unfold execOp
    rw[ho]
    simp[Instr.box,newVar,newRow]
  have hg:=Ht.alloc w (a.eval x).cells t
  cases ha:V6 P t
  · rw[ha] at hk
    obtain⟨cs,hk,_,h2,_,hr,_⟩:=Akc (Dr h x) hl hk
    refine⟨_,_,_,hk,WM Dh hg (fun j p hj=>?_) fun c hc id B1=>F7 h x id (hr c hc id B1)⟩
    obtain⟨u,hu,hp⟩:=h2.get hj
    exact⟨u,by simpa using hu,hp⟩
  · rw[ha] at hk
    obtain⟨cs,hk,_,h2,h1⟩:=Ay0 (Dr h x) hl hk
    refine⟨_,_,_,hk,Un (by simp) Dh hg (fun j p hj=>?_) (.inl ⟨rfl,rfl⟩)⟩
    obtain⟨u,hu,hp⟩:=h2.get hj
    exact⟨u,by simpa using hu,h1 u (List.mem_of_getElem? hu),hp⟩
theorem Aig{c:PV}(h1:∀x,c ≠ .agg x)(h2:∀x,c ≠ .tup x):Ci c=At c:=by cases c<;>first|rfl|exact absurd rfl (h1 _)|exact absurd rfl (h2 _)
theorem HD{t:TypeId}{ad:Addr}{cs:Ae}{p:PV}(hok:Lj P t=true)(Eh:cs.length=(Kc P t).length)(IM:∀c∈cs,(∀x,c ≠ .agg x)/\(∀x,c ≠ .tup x))(hc:∀(j:Nat) c,cs[j]?=some c->∃v,w.cell? (ad.add j)=some v/\Cj w A β c v)(hp:(Ch P t=true/\p=.agg cs)\/(Ch P t=false/\cs=[p])):∃val,(loadVar t ad).run P w=.ok val w/\Fn w A β p val:=by
 obtain⟨⟨d,hd⟩,hl,hi⟩:=Ur hok;rcases hp with⟨Hj,rfl⟩|⟨Hj,rfl⟩
 ·have hf:∀j,j<A9 P t->w.cell? (ad.add j)=some ((w.cell? (ad.add j)).getD undef):=by
   intro j hj;obtain⟨v,hv,_⟩:=hc j _ (List.getElem?_eq_getElem (by omega));rw[hv];rfl
  refine⟨_,?_,(List.range (A9 P t)).map (fun j=>(w.cell? (ad.add j)).getD undef),rfl,?_⟩
  ·simp only[loadVar,Sem.run_bind,Q3 hd,Hj,Result.andThen_ok,if_true,N1 hi,run_loadCells w ad (A9 P t) _ hf];simp
  ·refine Bj.of_at (by simp;omega) fun i c u Rd hu=>?_
   obtain⟨v,hv,LQ⟩:=hc i c Rd
   have Cq:i<A9 P t:=by
    rcases Ik i cs.length with h|h
    ·omega
    ·rw[List.getElem?_eq_none h] at Rd;cases Rd
   rw[List.getElem?_map,List.getElem?_range Cq] at hu;simp[hv] at hu;subst hu;exact LQ
 ·obtain⟨v,hv,LQ⟩:=hc 0 p rfl;have hn:=IM p (by simp);have h0:ad.add 0=ad:=by simp[Addr.add]
  rw[h0] at hv;refine⟨v,?_,(Sz hn.2).2 ((GO hn.1).2 LQ)⟩;simp only[loadVar,Sem.run_bind,Q3 hd,Hj,Result.andThen_ok];simp[hv]
theorem Aqc{hp:Nat->Option B7}{id:Nat}{c:Ae}(h:rd hp id=some c):hp id=some (.st c)\/∃f,hp id=some (.ar f c):=by
 unfold rd at h;split at h
 ·rename_i e;simp at h;subst h;exact .inl e
 ·rename_i f _ e;simp at h;subst h;exact .inr ⟨_,e⟩
 ·cases h
theorem XT{hp:Nat->Option B7}{id:Nat}{c:Ae}(h:Mh hp id=some c):∃f,hp id=some (.ar f c):=by
 unfold Mh at h;split at h
 ·rename_i e;simp at h;subst h;exact⟨_,e⟩
 ·cases h
theorem SS(h:Di N w0 X0 Y β s a w){id:Nat}{c:Ae}(hr:rd s.hp id=some c){b ob:Nat}(hβ:β id=some (b,ob)){j:Nat}{p:PV}(hj:c[j]?=some p):
  ∃v,w.cell? ⟨b,ob+j,none⟩=some v/\Cj w (D2 s.hp β Y) β p v:=by
 rcases Aqc hr with hb|⟨f,hb⟩
 ·obtain⟨b',o',h1,h2,_⟩:=h.box id _ hb;rw[hβ] at h1;simp at h1;obtain⟨rfl,rfl⟩:=h1;exact h2 j p hj
 ·rcases h.box id _ hb with⟨h1,_⟩|⟨b',o',h1,h2,_⟩
  ·rw[hβ] at h1;cases h1
  ·rw[hβ] at h1;simp at h1;obtain⟨rfl,rfl⟩:=h1
   obtain⟨v,hv,_,ht⟩:=h2 j p hj;rw[Fo] at hv;refine⟨v,hv,?_⟩;cases ht with
   |sc=>exact Au.sc _
   |top=>exact Au.top _
   |ub=>exact Au.ub _
   |lnil=>exact Au.lnil _ _
   |lemp=>exact Au.lemp _ _ _
   |lst es n cells a cap f hs hb hA hn hc h1 hr=>exact Au.lst es n cells a cap f hs hb hA hn hc h1 hr
theorem Nu:∀{ts:List CT}{cells:Ae}{off:Nat}{K:Ae->Option R},Xn ts cells off K=some r->Sj ts cells off K=some r
 |[],_,_,_,h=>h
 |.int k::ts,cells,off,K,h=>by
  obtain⟨n,hp,h⟩:=Fl (show Ba k (cells.getD off .top) _=some r from h);show Ba k _ _=_;rw[hp];simp only[Ba,if_true];exact Nu h
 |.bool::ts,cells,off,K,h=>by
  obtain⟨n,hp,h⟩:=Eo (show Bm (cells.getD off .top) _=some r from h);show Bm _ _=_;rw[hp];exact Nu h
 |.str::ts,cells,off,K,h=>by
  obtain⟨n,hp,h⟩:=Eg (show Bu (cells.getD off .top) _=some r from h);show Bu _ _=_;rw[hp];exact Nu h
 |.sl es::ts,cells,off,K,h=>by
  obtain⟨z,n,c,h,hp⟩:=H4 (show Vn es (cells.getD off .top) _=some r from h);change fcK (.sl es) (cells.getD off .top) (fun c=>Sj ts cells (off+1) fun r=>K (c::r))=some r;unfold fcK;dsimp only;unfold fsK;rcases hp with hp|⟨hp,rfl,rfl,rfl⟩
  ·rw[hp];simp only[Vn,Qq,cond_true];exact Nu h
  ·rw[hp];exact Nu h
 |.any::ts,cells,off,K,h=>by
  have hK:∀v,Xn ts cells (off+1) (fun r=>K (.sc v::r))=some r->Sj ts cells (off+1) (fun r=>K (.sc v::r))=some r:=fun v h=>Nu h;have h:fnK (cells.getD off .top) (fun v=>Xn ts cells (off+1) fun r=>K (.sc v::r))=some r:=h;show fnK (cells.getD off .top) (fun v=>Sj ts cells (off+1) fun r=>K (.sc v::r))=some r;unfold fnK at h ⊢;split at h
  ·rename_i e;exact hK _ h
  ·exact hK _ h
  ·cases h
theorem Au.unz{w:World}{A:Nat->Prop}{z:Bool}{es n:Nat}{c:Ae}{u:Value}(h:Au w A (.lst z es n c) u):Au w A (.lst false es n c) u:=by
 cases h with
 |lnil z es=>exact .lnil false es
 |lemp es a cap=>exact .lemp es a cap
 |lst es n c a cap f h1 h2 h3 h4 h5 h6 h7=>exact .lst es n c a cap f h1 h2 h3 h4 h5 h6 h7
theorem And{w:World}{A:Nat->Prop}{β:Bt}{p:PV}{u:Value}(h:Cj w A β p u):Cj w A β (ZL p) u:=by
 cases p with
 |lst z es n c=>exact Au.unz h
 |_=>exact h
theorem Aho(p:PV):At (ZL p)=At p:=by cases p<;>rfl
theorem WS{w:World}{A:Nat->Prop}{β:Bt}:∀{cs:Ae}{vs:List Value},Bj (Cj w A β) cs vs->Bj (Cj w A β) (cs.map ZL) vs
 |[],[],_=>trivial
 |_::_,_::_,h=>⟨And h.1,WS h.2⟩
 |[],_::_,h=>h.elim
 |_::_,[],h=>h.elim
theorem An5{w:World}{A:Nat->Prop}{β:Bt}{p:PV}{u:Value}(h:Fn w A β p u):Fn w A β (Aij p) u:=by
 cases p with
 |agg cs=>
  obtain⟨vs,h1,h2⟩:=(show Ju w A β (.agg cs) u from h)
  exact⟨vs,h1,WS h2⟩
 |lst z es n c=>exact Au.unz (show Au w A (.lst z es n c) u from h)
 |_=>exact h
theorem An8(p:PV):Ci (Aij p)=Ci p:=by
 cases p with
 |agg cs=>
  show (cs.map ZL).flatMap At=cs.flatMap At
  induction cs with
  |nil=>rfl
  |cons a l ih=>rw[Vv,K8,K8,ih,Aho]
 |_=>rfl
theorem Ayy{nz:Bool}{hp:Nat->Option B7}{t:TypeId}{x:PV}{K:PV->Option R}(h:EV nz P (rd hp) (Mh hp) t x K=some r):
  DJ P (rd hp) t x K=some r\/DJ P (rd hp) t x (fun v=>K (Aij v))=some r:=by
 have h':DJ P (rd hp) t x K=some r\/DJ P (rd hp) t x (fun v=>K (bif nz then v else Aij v))=some r:=by
  unfold EV at h;unfold DJ;split at h
  ·rename_i id off;obtain⟨hb,h⟩:=Am h;rw[hb];show Dj _ _=_\/Dj _ _=_;split at h
   ·rename_i c hc;obtain⟨f,Pm⟩:=XT hc;have:rd hp id=some c:=by unfold rd;rw[Pm]
    rw[this];exact .inr (Nu h)
   ·exact .inl h
  ·exact .inr h
  ·cases h
 cases nz
 ·exact h'
 ·exact .inl (h'.elim id id)
theorem XE(h:Di N w0 X0 Y β s a w){t:TypeId}{x:PV}{u:Value}(hx:Fn w (D2 s.hp β Y) β x u){K:PV->Option R}(hk:DJ P (rd s.hp) t x K=some r):
  ∃v ad val,K v=some r/\u=.pointer (some ad)/\(loadVar t ad).run P w=.ok val w/\Fn w (D2 s.hp β Y) β v val/\∀i∈Ci v,s.hp i≠none:=by
 unfold DJ at hk;split at hk
 ·rename_i id off;obtain⟨hok,hk⟩:=Am hk;obtain⟨c,hr,hk⟩:=Cw hk;obtain⟨cs,hk,hl,IM,hc⟩:=Yw hk;obtain⟨b,ob,hβ,Ed⟩:=hx
  have hcell:∀(j:Nat) q,cs[j]?=some q->∃v,w.cell? ((⟨b,ob+off,none⟩:Addr).add j)=some v/\Cj w (D2 s.hp β Y) β q v:=by
   intro j q hq;obtain⟨p,hp,_,_,IL⟩:=hc j q hq;obtain⟨v,hv,LQ⟩:=SS h hr hβ hp;exact⟨v,by rw[Fo,Ps];exact hv,(IL _ _ _ _ LQ).1⟩
  have CC:∀q∈cs,∀i∈At q,s.hp i≠none:=by
   intro q hq i hi;obtain⟨j,hj⟩:=List.mem_iff_getElem?.1 hq;obtain⟨p,hp,_,hpr,_⟩:=hc j q hj;rcases Aqc hr with hb|⟨f,hb⟩
   ·exact h.wfB id c hb p (List.mem_of_getElem? hp) i (hpr i hi)
   ·obtain⟨v,hv,LQ⟩:=SS h hr hβ hp;exfalso;have D1:=hpr i hi;rcases h.box id _ hb with⟨_,rfl⟩|⟨b',o',h1,h2,_⟩
    ·simp at hp
    ·obtain⟨v',_,_,ht⟩:=h2 _ p hp;cases ht<;>cases D1
  rcases Aax hk with⟨Hj,F2⟩|⟨Hj,q,rfl,F2⟩
  ·obtain⟨val,FF,hv⟩:=HD hok hl IM hcell (.inl ⟨Hj,rfl⟩);refine⟨_,_,val,F2,Ed,FF,hv,fun i hi=>?_⟩;obtain⟨q,hq,hi⟩:=List.mem_flatMap.1 (show i∈cs.flatMap At from hi);exact CC q hq i hi
  ·obtain⟨val,FF,hv⟩:=HD hok hl IM hcell (.inr ⟨Hj,rfl⟩);refine⟨_,_,val,F2,Ed,FF,hv,fun i hi=>CC q (by simp) i ?_⟩;have hn:=IM q (by simp);rw[Aig hn.1 hn.2] at hi;exact hi
 ·rename_i c off;obtain⟨hok,hk⟩:=Am hk;obtain⟨cs,hk,hl,hc⟩:=Zw hk;obtain⟨ad,Ed,hs,hb,hA,hrd⟩:=hx
  have IM:∀q∈cs,(∀x,q ≠ .agg x)/\(∀x,q ≠ .tup x):=by
   intro q hq;obtain⟨j,hj⟩:=List.mem_iff_getElem?.1 hq;exact⟨EY (hc j q hj).1,Aja (hc j q hj).1⟩
  have hcell:∀(j:Nat) q,cs[j]?=some q->∃v,w.cell? ((ad.add off).add j)=some v/\Cj w (D2 s.hp β Y) β q v:=by
   intro j q hq;obtain⟨hT,p,hp,RQ,IL⟩:=hc j q hq;obtain⟨v,hv,_,ht⟩:=hrd (off+j) p hp;exact⟨v,by rw[add_add];exact hv,(Pd hT).2 (IL w (D2 s.hp β Y) β v ((Pd RQ).2 ht)).1⟩
  have CC:∀q∈cs,At q=[]:=by
   intro q hq;obtain⟨j,hj⟩:=List.mem_iff_getElem?.1 hq;exact Jk (hc j q hj).1
  rcases Aax hk with⟨Hj,F2⟩|⟨Hj,q,rfl,F2⟩
  ·obtain⟨val,FF,hv⟩:=HD hok hl IM hcell (.inl ⟨Hj,rfl⟩);refine⟨_,_,val,F2,Ed,FF,hv,fun i hi=>?_⟩;obtain⟨q,hq,hi⟩:=List.mem_flatMap.1 (show i∈cs.flatMap At from hi);rw[CC q hq] at hi;cases hi
  ·obtain⟨val,FF,hv⟩:=HD hok hl IM hcell (.inr ⟨Hj,rfl⟩);refine⟨_,_,val,F2,Ed,FF,hv,fun i hi=>?_⟩;have hn:=IM q (by simp);rw[Aig hn.1 hn.2,CC q (by simp)] at hi;cases hi
 ·cases hk
theorem Aca(h:Di N w0 X0 Y β s a w){t:TypeId}{x:PV}{u:Value}(hx:Fn w (D2 s.hp β Y) β x u){nz:Bool}{K:PV->Option R}(hk:EV nz P (rd s.hp) (Mh s.hp) t x K=some r):
  ∃v ad val,K v=some r/\u=.pointer (some ad)/\(loadVar t ad).run P w=.ok val w/\Fn w (D2 s.hp β Y) β v val/\∀i∈Ci v,s.hp i≠none:=by
 rcases Ayy hk with hk|hk
 ·exact XE h hx hk
 ·obtain⟨v,ad,val,h1,h2,h3,h4,h5⟩:=XE h hx hk;exact⟨Aij v,ad,val,h1,h2,h3,An5 h4,by rw[An8];exact h5⟩
theorem Ahu(h:Di N w0 X0 Y β s a w){t:TypeId}{x:Operand}(ho:o.op=.load t x){nz:Bool}{K:PV->Option R}(hk:EV nz P (rd s.hp) (Mh s.hp) t (Cp s.tm x) K=some r):
  ∃v,K v=some r/\Fg P a w o Y β s v [] []:=by
 obtain⟨v,ad,val,E8,Ed,hl,hv,hr⟩:=Aca h (Dr h x) hk;refine⟨v,E8,Ck ?_ hv hr⟩;unfold execOp;rw[ho];simp[Instr.loadAt,Instr.sureAddr,Ed,hl]
theorem Amg{x:PV}{d:Nat}{K:PV->Option R}(h:Zh x d K=some r):(∃id off,x=.ptr id off/\K (.ptr id (off+d))=some r)\/∃c off,x=.iptr c off/\K (.iptr c (off+d))=some r:=by
 unfold Zh at h;split at h
 ·exact .inl ⟨_,_,rfl,h⟩
 ·exact .inr ⟨_,_,rfl,h⟩
 ·cases h
theorem CY(h:Di N w0 X0 Y β s a w){x:Operand}{d:Nat}{K:PV->Option R}(hk:Zh (Cp s.tm x) d K=some r)(Dh:∀ad:Addr,a.eval x=.pointer (some ad)->(execOp a.eval o).run P w=.ok (.value (.pointer (some (ad.add d)))) w):∃v,K v=some r/\Fg P a w o Y β s v [] []:=by
 have hx:=Dr h x;have SX:=F7 h x;rcases Amg hk with⟨id,off,e,hk⟩|⟨c,off,e,hk⟩
 ·rw[e] at hx SX;obtain⟨b,ob,hβ,Ed⟩:=hx;refine⟨_,hk,Ck (Dh _ Ed) ⟨b,ob,hβ,by rw[Fo,Ps]⟩ SX⟩
 ·rw[e] at hx;obtain⟨ad,Ed,h1,h2,h3,h4⟩:=hx;exact⟨_,hk,Ck (Dh _ Ed) ⟨ad,by rw[add_add],h1,h2,h3,h4⟩ (by intro i hi;cases hi)⟩
theorem QP(h:Di N w0 X0 Y β s a w){x:Operand}(ho:o.op=.nilCheck x){K:PV->Option R}(hk:Zh (Cp s.tm x) 0 K=some r):∃v,K v=some r/\Fg P a w o Y β s v [] []:=by refine CY h hk fun ad Ed=>?_;unfold execOp;rw[ho];simp[Ed,Addr.add]
theorem GE{t:TypeId}{f:Nat}{q:Nat × TypeId}(h:Vf P t f=some q):∃fs g,P.underlying t=some (.struct fs)/\fs[f]?=some g/\q=(g.offset,g.type):=by
 unfold Vf at h;split at h
 ·rename_i fs e;cases hg:fs[f]? with
  |none=>rw[hg] at h;cases h
  |some g=>rw[hg] at h;simp at h;exact⟨fs,g,e,hg,h.symm⟩
 ·cases h
theorem LZ(h:Di N w0 X0 Y β s a w){t:TypeId}{x:Operand}{f:Nat}(ho:o.op=.fieldAddr t x f){K:PV->Option R}(hk:(Dj (Vf P t f) fun q=>Ar (Nat.ble 1 (A9 P q.2)) (Zh (Cp s.tm x) q.1 K))=some r):∃v,K v=some r/\Fg P a w o Y β s v [] []:=by
 obtain⟨q,hq,hk⟩:=Cw hk;obtain⟨hs,hk⟩:=Am hk;obtain⟨fs,g,hu,hg,rfl⟩:=GE hq;have hs:1<=A9 P g.type:=Pf hs;have Tq:=At9 (P:=P) (t:=g.type) rfl (by omega);refine CY h hk fun ad Ed=>?_;unfold execOp;rw[ho];have Hp:¬A9 P g.type=0:=by omega
 simp[Instr.fieldAt,run_underlying hu,hg,Instr.sureAddr,Ed,fieldPlace,N1 Tq,Hp]
end
open Go.RowKit
section
variable {R:Type}{r:R}{P:Program}{N:Nat}{w0:World}{X0:J8}{Y:Nat->Prop}{β β':Bt}{s:St}{a:Act}{w w':World}{o:Oper}{A:Nat->Prop}
theorem PI(h:Di N w0 X0 Y β s a w){t:TypeId}{cs:Ae}{vs:List Value}{off:Nat}{K:PV->Option R}{x:Operand}(hx:Cp s.tm x=.agg cs)(hv:Bj (Cj w (D2 s.hp β Y) β) cs vs)(hk:Ar (Lj P t) (Sj (Kc P t) cs off fun c=>mkV (Ch P t) c K)=some r)(Dh:∀val,(part t ⟨vs⟩ off).run P w=.ok val w->(execOp a.eval o).run P w=.ok (.value val) w):∃v,K v=some r/\Fg P a w o Y β s v [] []:=by
 obtain⟨hok,hk⟩:=Am hk;obtain⟨⟨d,hd⟩,hl,hi⟩:=Ur hok;obtain⟨qs,hk,hql,IM,hq⟩:=Yw hk;have SX:=F7 h x;rw[hx] at SX
 have hcell:∀(j:Nat) q,qs[j]?=some q->∃v,vs[off+j]?=some v/\Cj w (D2 s.hp β Y) β q v:=by
  intro j q hj;obtain⟨p,hp,_,_,IL⟩:=hq j q hj;obtain⟨v,Tj,hc⟩:=hv.get hp;exact⟨v,Tj,(IL _ _ _ _ hc).1⟩
 have CC:∀q∈qs,∀i∈At q,s.hp i≠none:=by
  intro q hqm i hi;obtain⟨j,hj⟩:=List.mem_iff_getElem?.1 hqm;obtain⟨p,hp,_,hpr,_⟩:=hq j q hj;exact SX i (List.mem_flatMap.2 ⟨p,List.mem_of_getElem? hp,hpr i hi⟩)
 rcases Aax hk with⟨Hj,F2⟩|⟨Hj,q,rfl,F2⟩
 ·have ET:A9 P t=0\/off+A9 P t<=vs.length:=by
   rcases Nat.eq_zero_or_pos (A9 P t) with h0|h0
   ·exact .inl h0
   ·obtain⟨v,Tj,_⟩:=hcell (A9 P t-1) _ (List.getElem?_eq_getElem (by omega))
    have:off+(A9 P t-1)<vs.length:=by
     rcases Ik (off+(A9 P t-1)) vs.length with h|h
     ·exact h
     ·rw[List.getElem?_eq_none h] at Tj;cases Tj
    exact .inr (by omega)
  refine⟨_,F2,Ck (Dh (.agg ⟨(vs.drop off).take (A9 P t)⟩) ?_) ⟨(vs.drop off).take (A9 P t),rfl,?_⟩ fun i hi=>?_⟩
  ·simp only[part,Sem.run_bind,Q3 hd,Hj,Result.andThen_ok,if_true,N1 hi];simp[List.extract_eq_take_drop]
  ·refine Bj.of_at ?_ fun i c u hc hu=>?_
   ·simp only[List.length_take,List.length_drop];omega
   ·obtain⟨v,Tj,LQ⟩:=hcell i c hc
    have Cq:i<A9 P t:=by
     rcases Ik i qs.length with h|h
     ·omega
     ·rw[List.getElem?_eq_none h] at hc;cases hc
    rw[List.getElem?_take_of_lt Cq,List.getElem?_drop,Tj] at hu;cases hu;exact LQ
  ·obtain⟨q,hqm,hi⟩:=List.mem_flatMap.1 (show i∈qs.flatMap At from hi);exact CC q hqm i hi
 ·obtain⟨v,Tj,LQ⟩:=hcell 0 q rfl;have hn:=IM q (by simp);refine⟨_,F2,Ck (Dh v ?_) ((Sz hn.2).2 ((GO hn.1).2 LQ)) fun i hi=>?_⟩
  ·simp only[part,Sem.run_bind,Q3 hd,Hj,Result.andThen_ok];rw[ZG] at Tj;simp[Tj]
  ·rw[Aig hn.1 hn.2] at hi;exact CC q (by simp) i hi
theorem Adb(h:Di N w0 X0 Y β s a w){t:TypeId}{x:Operand}{f:Nat}(ho:o.op=.field t x f){K:PV->Option R}(hk:(Dj (Vf P t f) fun q=>Ar (Lj P q.2)<|Ef (Cp s.tm x) fun cs=>Sj (Kc P q.2) cs q.1 fun c=>mkV (Ch P q.2) c K)=some r):∃v,K v=some r/\Fg P a w o Y β s v [] []:=by
 obtain⟨q,hq,hk⟩:=Cw hk;obtain⟨hok,hk⟩:=Am hk;obtain⟨cs,hx,hk⟩:=Jb hk;obtain⟨fs,g,hu,hg,rfl⟩:=GE hq;have hxv:=Dr h x;rw[hx] at hxv;obtain⟨vs,Ed,hv⟩:=hxv;refine PI (t:=g.type) (off:=g.offset) h hx hv (by rw[show Lj P g.type=true from hok];exact hk) fun val hp=>?_
 unfold execOp;rw[ho];simp[Instr.field,run_underlying hu,hg,asAgg,Ed,hp]
theorem TM(h:Di N w0 X0 Y β s a w){x:Operand}{i:Nat}(ho:o.op=.extract x i){K:PV->Option R}(hk:(match Cp s.tm x with | .tup vs=>Dj vs[i]? K|_=>none)=some r):∃v,K v=some r/\Fg P a w o Y β s v [] []:=by
 have hx:=Dr h x;have SX:=F7 h x;split at hk
 ·rename_i ps e;rw[e] at hx SX;obtain⟨p,hp,hk⟩:=Cw hk;obtain⟨vs,Ed,hv⟩:=hx;obtain⟨v,Tj,IL⟩:=hv.get hp
  have A0p:∀y,p ≠ .tup y:=by
   rintro y rfl
   have Bex:Au _ _ (.tup y) v:=IL;cases Bex
  refine⟨p,hk,Ck (val:=v) ?_ ((Sz A0p).2 IL) fun id B1=>SX id ?_⟩
  ·unfold execOp;rw[ho];simp[Instr.extract,Ed,Tj]
  ·refine List.mem_flatMap.2 ⟨p,List.mem_of_getElem? hp,?_⟩;cases p<;>first|exact B1|exact absurd rfl (A0p _)
 ·cases hk
theorem H1{es:Nat}{p:PV}{z:Bool}{n:Nat}{c:Ae}{v:Value}(hp:p=.lst z es n c\/(p=.sc (.slice none 0 0)/\z=true/\n=0/\c=[]))(hv:Fn w A β p v):
  (v=.slice none 0 0/\n=0/\c=[])\/(∃ad cap,v=.slice (some ad) n cap/\z=false/\n<=cap/\ad.spot=none/\ad.block<w.heap.size/\¬A ad.block/\RdT w A ad c)\/∃ad cap,v=.slice (some ad) 0 cap/\z=false/\n=0/\c=[]:=by
 have Tj:Cj w A β p v:=by rcases hp with rfl|⟨rfl,_⟩<;>exact hv
 have ht:=DB hp Tj;cases ht with
 |lnil=>exact .inl ⟨rfl,rfl,rfl⟩
 |lst _ _ _ ad cap f hs hb hA hn hc h1 hr=>exact .inr (.inl ⟨ad,cap,rfl,rfl,hn,hs,hb,hA,fun j q hj=>⟨f j,hc j q hj,h1 j q hj,hr j q hj⟩⟩)
 |lemp _ ad cap=>exact .inr (.inr ⟨ad,cap,rfl,rfl,rfl,rfl⟩)
theorem LY(h:Di N w0 X0 Y β s a w){t:TypeId}{x i:Operand}(ho:o.op=.indexAddr t x i){K:PV->Option R}(hk:(Ei (Cp s.tm i) fun _ n=>Nx P t (Cp s.tm x) n K)=some r):∃v,K v=some r/\Fg P a w o Y β s v [] []:=by
 obtain⟨ik,n,hi,hk⟩:=Ep hk;have hai:=Co h hi;have hx:=Dr h x;have SX:=F7 h x;unfold Nx at hk;split at hk
 ·rename_i len e hu;obtain⟨hz,hk⟩:=Am hk;obtain⟨hb,hk⟩:=Am hk;simp only[E0,Yd] at hb;obtain⟨inf,Uc⟩:=Option.isSome_iff_exists.1 hz;refine CY h hk fun ad Ed=>?_;unfold execOp;rw[ho];simp[Instr.indexAt,asIntOf,hai,Ed,run_underlying hu,Instr.sureAddr,hb.1,hb.2,sizeOf,typeInfo,Uc,A9]
 ·rename_i e hu;obtain⟨hz,hk⟩:=Am hk;obtain⟨inf,Uc⟩:=Option.isSome_iff_exists.1 hz;have Tq:A9 P e=inf.size:=by simp[A9,Uc]
  split at hk
  ·rename_i id es off n' e';rw[e'] at hx SX;obtain⟨BH,hk⟩:=Am hk;have BH:=Dc BH;subst BH;obtain⟨hb,hk⟩:=Am hk;simp only[E0,Yd] at hb;rcases hx with⟨_,_,rfl,_⟩|⟨b,ob,y,cap,hβ,Ed,hy,_⟩
   ·omega
   ·have hy:y=ob+off:=by rcases hy with hy|⟨rfl,_⟩<;>omega
    subst hy;refine⟨_,hk,Ck (val:=.pointer (some ⟨b,ob+(off+n.toNat*A9 P e),none⟩)) ?_ ⟨b,ob,hβ,rfl⟩ SX⟩;unfold execOp;rw[ho];simp[Instr.indexAt,asIntOf,hai,Ed,run_underlying hu,hb.1,hb.2,sizeOf,typeInfo,Uc,Tq,Fo,Ps]
  ·obtain⟨z,n',c,hk,hp⟩:=H4 hk;obtain⟨hb,hk⟩:=Am hk;simp only[E0,Yd] at hb;rcases H1 hp hx with⟨_,rfl,_⟩|⟨ad,cap,Ed,_,_,h1,h2,h3,h4⟩|⟨_,_,_,_,rfl,_⟩
   ·omega
   rotate_left
   ·omega
   ·refine⟨_,hk,Ck (val:=.pointer (some (ad.add (n.toNat*A9 P e)))) ?_ ⟨ad,rfl,h1,h2,h3,h4⟩ (by intro i hi;cases hi)⟩
    unfold execOp;rw[ho];simp[Instr.indexAt,asIntOf,hai,Ed,run_underlying hu,hb.1,hb.2,sizeOf,typeInfo,Uc,Tq]
 ·cases hk
theorem Afc(h:Di N w0 X0 Y β s a w){t:TypeId}{x i:Operand}(ho:o.op=.index t x i){K:PV->Option R}(hk:(Ei (Cp s.tm i) fun _ n=>
   match P.underlying t with
   |some .string=>Bu (Cp s.tm x) fun s=>Ar (decide (0<=n)) (Dj (s.data.toList[n.toNat]?) fun b=>K (.sc (.int .u8 b.toNat)))
   |some (.array len e)=>Ef (Cp s.tm x) fun cs=>Ar (decide (0<=n)&&decide (n<len)&&Lj P e) (Sj (Kc P e) cs (n.toNat*A9 P e) fun c=>mkV (Ch P e) c K)
   |_=>none)=some r):∃v,K v=some r/\Fg P a w o Y β s v [] []:=by
 obtain⟨ik,n,hi,hk⟩:=Ep hk;have hai:=Co h hi;split at hk
 ·rename_i hu;obtain⟨sb,hx,hk⟩:=Eg hk;have Ed:=Co h hx;obtain⟨h0,hk⟩:=Am hk;obtain⟨b,hb,hk⟩:=Cw hk;have h0:=of_decide_eq_true h0;refine⟨_,hk,C9 ?_⟩
  have Cq:n.toNat<sb.size:=by
   rcases Ik n.toNat sb.data.toList.length with h|h
   ·simpa using h
   ·rw[List.getElem?_eq_none h] at hb;cases hb
  have Jz:sb[n.toNat]=b:=by
   have:sb.data.toList[n.toNat]?=some sb[n.toNat]:=by
    rw[List.getElem?_eq_getElem (by simpa using Cq)];rfl
   rw[hb] at this;injection this with this;exact this.symm
  unfold execOp;rw[ho];simp[Instr.index,asIntOf,hai,Ed,run_underlying hu,h0,Cq,Jz]
 ·rename_i len e hu;obtain⟨cs,hx,hk⟩:=Jb hk;obtain⟨hb,hk⟩:=Am hk;simp only[E0,Yd] at hb;have hxv:=Dr h x;rw[hx] at hxv;obtain⟨vs,Ed,hv⟩:=hxv;obtain⟨_,_,Tq⟩:=Ur hb.2;refine PI (t:=e) (off:=n.toNat*A9 P e) h hx hv (by rw[hb.2];exact hk) fun val hp=>?_
  unfold execOp;rw[ho];simp[Instr.index,asIntOf,hai,Ed,run_underlying hu,hb.1.1,hb.1.2,N1 Tq,hp]
 ·cases hk
end
open Go.RowKit
section
variable {R:Type}{r:R}{P:Program}{N:Nat}{w0:World}{X0:J8}{Y:Nat->Prop}{β β':Bt}{s:St}{a:Act}{w w':World}{o:Oper}{A:Nat->Prop}
theorem E1(h:Di N w0 X0 Y β s a w){x:Option Operand}{dflt:Nat}{K:Nat->Option R}(hk:Il (x.map (Cp s.tm)) dflt K=some r):
  ∃l,K l=some r/\((x=none/\l=dflt)\/∃y k,x=some y/\a.eval y=.int k (l:Int)):=by
 cases x with
 |none=>exact⟨dflt,hk,.inl ⟨rfl,rfl⟩⟩
 |some y=>
  obtain⟨k,i,hi,hk⟩:=Ep (show Ei (Cp s.tm y) _=some r from hk);obtain⟨h0,hk⟩:=Am hk;have h0:=of_decide_eq_true h0;exact⟨i.toNat,hk,.inr ⟨y,k,rfl,by rw[Co h hi,Int.toNat_of_nonneg h0]⟩⟩
theorem K6{lo hi:Option Operand}{isS:Bool}{len cap l u:Nat}(hl:(lo=none/\l=0)\/∃y k,lo=some y/\a.eval y=.int k (l:Int))(hu:(hi=none/\u=len)\/∃y k,hi=some y/\a.eval y=.int k (u:Int))(h1:l<=u)(h2:u<=cap):
  (Instr.sliceBounds isS len cap (lo.map a.eval) (hi.map a.eval) none).run P w=.ok (l,u,cap) w:=by
 rcases hl with⟨rfl,rfl⟩|⟨y,k,rfl,hy⟩<;>rcases hu with⟨rfl,rfl⟩|⟨y',k',rfl,hy'⟩
 ·simp[Instr.sliceBounds]
 ·simp[Instr.sliceBounds,Instr.sliceBound,asIntOf,hy',h2]
 ·simp[Instr.sliceBounds,Instr.sliceBound,asIntOf,hy,h1]
 ·simp[Instr.sliceBounds,Instr.sliceBound,asIntOf,hy,hy',h1,h2]
theorem Dk{e:TypeId}(h:(P.info? e).isSome=true)(w:World):(sizeOf e).run P w=.ok (A9 P e) w:=by obtain⟨i,hi⟩:=Option.isSome_iff_exists.1 h;exact N1 (by simp[A9,hi]) w
theorem SQ{b j:Nat}{v:Value}(h:w.cell? ⟨b,j,none⟩=some v):j<bsz w b:=by
 unfold World.cell? at h;unfold bsz;split at h
 ·rename_i c e fz hb;simp only at hb;rw[hb];simp only[Option.isSome_none,Bool.false_eq_true,if_false] at h;rcases Ik j c.size with Cq|hge
  ·exact Cq
  ·rw[Array.getElem?_eq_none hge] at h;cases h
 ·cases h
theorem Ac2(h:Di N w0 X0 Y β s a w){t:TypeId}{x:Operand}{lo hi:Option Operand}(ho:o.op=.slice t x lo hi none){K:PV->Option R}(hk:IR P (rd s.hp) t (Cp s.tm x) (lo.map (Cp s.tm)) (hi.map (Cp s.tm)) K=some r):∃v,K v=some r/\Fg P a w o Y β s v [] []:=by
 have hx:=Dr h x;have SX:=F7 h x;unfold IR at hk;split at hk
 ·rename_i hu;obtain⟨sb,TA,hk⟩:=Eg hk;have Ed:=Co h TA;obtain⟨l,hk,hl⟩:=E1 h hk;obtain⟨u,hk,Lz⟩:=E1 h hk;obtain⟨hb,hk⟩:=Am hk;simp only[E0,Yd] at hb;refine⟨_,hk,C9 ?_⟩;unfold execOp;rw[ho];simp[Instr.sliceAt,Instr.slice,run_underlying hu,Ed,K6 hl Lz hb.1 hb.2]
 ·rename_i e hu;obtain⟨Uc,hk⟩:=Am hk;split at hk
  ·rename_i id es off n e';rw[e'] at hx SX;obtain⟨BH,hk⟩:=Am hk;have BH:=Dc BH;subst BH;obtain⟨l,hk,hl⟩:=E1 h hk;obtain⟨u,hk,Lz⟩:=E1 h hk;obtain⟨hb,hk⟩:=Am hk;simp only[E0,Yd] at hb;rcases hx with⟨hβ,rfl,rfl,ad,Ed⟩|⟨b,ob,y,cap,hβ,Ed,hy,hn,DH,Cq⟩
   ·have hu0:u=0:=by omega
    have hl0:l=0:=by omega
    subst hu0 hl0;refine⟨_,hk,Ck (val:=.slice ad 0 0) ?_ (.inl ⟨hβ,by simp,rfl,ad,rfl⟩) SX⟩;unfold execOp;rw[ho];cases ad<;>simp[Instr.sliceAt,Instr.slice,run_underlying hu,Ed,K6 hl Lz (Cs 0) (Cs 0),Dk Uc]
   ·have Dh:(execOp a.eval o).run P w=.ok (.value (.slice (some (if cap=l then ⟨b,y,none⟩ else ⟨b,y+l*A9 P e,none⟩)) (u-l) (cap-l))) w:=by
     unfold execOp;rw[ho];have hbr:=K6 (P:=P) (w:=w) (isS:=true) hl Lz hb.1 (Nat.le_trans hb.2 hn);simp[Instr.sliceAt,Instr.slice,run_underlying hu,Ed,hbr,Dk Uc,Fo];split<;>rfl
    refine⟨_,hk,Ck Dh (.inr ?_) SX⟩;by_cases hc:cap=l
    ·rw[Cx hc];refine⟨b,ob,y,cap-l,hβ,rfl,?_,by omega,⟨by rw[hc,Nat.sub_self];have:=DH.1;omega,DH.2⟩,Cq⟩
     by_cases h0:l*A9 P e=0
     ·rw[h0,ZG];rcases hy with hy|⟨IA,Uf⟩
      ·exact .inl hy
      ·exact .inr ⟨by omega,Uf⟩
     ·exact .inr ⟨by omega,by omega⟩
    ·rw[Br hc];refine⟨b,ob,y+l*A9 P e,cap-l,hβ,rfl,?_,by omega,?_,Cq⟩
     ·rcases hy with hy|⟨IA,Uf⟩
      ·exact .inl (by omega)
      ·exact .inr ⟨by omega,by omega⟩
     ·have:l*A9 P e+(cap-l)*A9 P e=cap*A9 P e:=by
       rw[<-Nat.add_mul]
       congr 1
       omega
      have:=DH.1;exact⟨by omega,DH.2⟩
  ·obtain⟨z,n,c,hk,hp⟩:=H4 hk;obtain⟨l,hk,hl⟩:=E1 h hk;obtain⟨u,hk,Lz⟩:=E1 h hk;obtain⟨hb,hk⟩:=Am hk;simp only[E0,Yd] at hb;rcases H1 hp hx with⟨Ed,rfl,rfl⟩|⟨ad,cap,Ed,rfl,hn,h1,h2,h3,h4⟩|⟨ad,cap,Ed,rfl,rfl,rfl⟩
   rotate_right
   ·have hu0:u=0:=by omega
    have hl0:l=0:=by omega
    subst hu0 hl0;refine⟨_,hk,Ck (val:=.slice (some (if cap=0 then ad else ad.add (0*A9 P e))) (0-0) (cap-0)) ?_ ?_ (by intro i hi;cases hi)⟩
    ·unfold execOp;rw[ho];have hbr:=K6 (P:=P) (w:=w) (isS:=true) hl Lz (Cs 0) (Nat.zero_le cap);simp[Instr.sliceAt,Instr.slice,run_underlying hu,Ed,hbr,Dk Uc];split<;>rfl
    ·have:((([]:Ae).drop (0*A9 P e)).take ((0-0)*A9 P e))=[]:=by simp
     rw[this];exact Au.lemp _ _ _
   ·have hu0:u=0:=by omega
    have hl0:l=0:=by omega
    subst hu0 hl0;refine⟨_,hk,Ck (val:=.slice none 0 0) ?_ ?_ (by intro i hi;cases hi)⟩
    ·unfold execOp;rw[ho];simp[Instr.sliceAt,Instr.slice,run_underlying hu,Ed,K6 hl Lz (Cs 0) (Cs 0),Dk Uc]
    ·have:((([]:Ae).drop (0*A9 P e)).take ((0-0)*A9 P e))=[]:=by simp
     rw[this];exact Au.lnil z _
   ·have Dh:(execOp a.eval o).run P w=.ok (.value (.slice (some (if cap=l then ad else ad.add (l*A9 P e))) (u-l) (cap-l))) w:=by
     unfold execOp;rw[ho];have hbr:=K6 (P:=P) (w:=w) (isS:=true) hl Lz hb.1 (Nat.le_trans hb.2 hn);simp[Instr.sliceAt,Instr.slice,run_underlying hu,Ed,hbr,Dk Uc];split<;>rfl
    refine⟨_,hk,Ck Dh ?_ (by intro i hi;cases hi)⟩
    by_cases hc:cap=l
    ·rw[Cx hc];have:u-l=0:=by omega
     rw[this];simp only[Nat.zero_mul,List.take_zero];exact Au.lst _ _ [] ad _ (fun _=>undef) h1 h2 h3 (by omega) (by simp) (by simp) (by simp)
    ·rw[Br hc]
     have hcell:∀(j:Nat) q,((c.drop (l*A9 P e)).take ((u-l)*A9 P e))[j]?=some q->c[l*A9 P e+j]?=some q:=by
      intro j q hq;rw[List.getElem?_take] at hq;split at hq
      ·rw[List.getElem?_drop] at hq;exact hq
      ·cases hq
     refine Au.lst _ _ _ (ad.add (l*A9 P e)) _ (fun j=>(w.cell? (ad.add (l*A9 P e+j))).getD undef) (Aqu h1 _) (by rw[F4];exact h2) (by rw[F4];exact h3) (by omega) (fun j q hq=>?_) (fun j q hq=>?_) (fun j q hq=>?_)
     ·obtain⟨v,hv,_⟩:=h4 _ q (hcell j q hq);rw[add_add,hv];rfl
     ·obtain⟨v,hv,h5,_⟩:=h4 _ q (hcell j q hq);rw[hv];exact h5
     ·obtain⟨v,hv,_,ht⟩:=h4 _ q (hcell j q hq);rw[hv];exact ht
 ·rename_i n e hu;obtain⟨Uc,hk⟩:=Am hk;split at hk
  ·rename_i id off e';rw[e'] at hx SX;obtain⟨c,hrc,hk⟩:=Cw hk;obtain⟨Eh,hk⟩:=Am hk;simp only[E0,Yd] at Eh;have BH:=Dc Eh.2
   replace Eh:=Eh.1
   obtain⟨l,hk,hl⟩:=E1 h hk;obtain⟨u,hk,Lz⟩:=E1 h hk;obtain⟨hb,hk⟩:=Am hk;simp only[E0,Yd] at hb;obtain⟨b,ob,hβ,Ed⟩:=hx
   have hbs:ob+off+n*A9 P e<=bsz w b:=by
    obtain⟨v,hv,_⟩:=SS h hrc hβ (j:=off+n*A9 P e-1) (List.getElem?_eq_getElem (by omega));have:=SQ hv;omega
   have Cq:b<w.heap.size:=h.blt id b ob (SX id (by simp[Ci,Cy,At])) hβ
   have Dh:(execOp a.eval o).run P w=.ok (.value (.slice (some (if n=l then ⟨b,ob+off,none⟩ else ⟨b,ob+off+l*A9 P e,none⟩)) (u-l) (n-l))) w:=by
    unfold execOp;rw[ho];have hbr:=K6 (P:=P) (w:=w) (isS:=false) hl Lz hb.1 hb.2;simp[Instr.sliceAt,Instr.sureAddr,run_underlying hu,Ed,hbr,Dk Uc,Fo]
   refine⟨_,hk,Ck Dh (.inr ?_) SX⟩;by_cases hc:n=l
   ·rw[Cx hc];refine⟨b,ob,ob+off,n-l,hβ,rfl,?_,by omega,⟨by rw[hc,Nat.sub_self];omega,.inl BH⟩,Cq⟩
    by_cases h0:l*A9 P e=0
    ·rw[h0,ZG];exact .inl rfl
    ·exact .inr ⟨by omega,by omega⟩
   ·rw[Br hc];refine⟨b,ob,ob+off+l*A9 P e,n-l,hβ,rfl,.inl (by omega),by omega,?_,Cq⟩
    have:l*A9 P e+(n-l)*A9 P e=n*A9 P e:=by
     rw[<-Nat.add_mul]
     congr 1
     omega
    exact⟨by omega,.inl BH⟩
  ·cases hk
 ·cases hk
end
open Go.RowKit
section
variable {R:Type}{r:R}{P:Program}{N:Nat}{w0:World}{X0:J8}{Y:Nat->Prop}{β β':Bt}{s:St}{a:Act}{w w':World}{o:Oper}{A:Nat->Prop}
theorem Amp(h:Di N w0 X0 Y β s a w){c:Call}(ho:o.op=.call c)(hc:c.callee=.builtin .len){K:PV->Option R}(hk:(Ai c.args.toList fun x _=>Ai c.argTypes.toList fun t _=>Al5 P t (Cp s.tm x) fun n=>K (.sc (.int .i64 n)))=some r):∃v,K v=some r/\Fg P a w o Y β s v [] []:=by
 obtain⟨x,xs,TA,hk⟩:=Bn hk;obtain⟨t,ts,hts,hk⟩:=Bn hk;have hx:=Dr h x;have F6:c.args=(x::xs).toArray:=by rw[<-TA]
 have LX:c.argTypes=(t::ts).toArray:=by rw[<-hts]
 have Dh:∀n:Nat,(Builtin.len_ c.argTypes o.type (c.args.map a.eval)).run P w=.ok (.int .i64 n) w->(execOp a.eval o).run P w=.ok (.value (.int .i64 n)) w:=by
  intro n hl;unfold execOp;rw[ho];simp only[resolve,hc,invoke,builtin,Sem.run_bind,Sem.run_pure,Result.andThen_ok,hl]
 unfold Al5 at hk;split at hk
 ·rename_i hu;obtain⟨sb,Bev,hk⟩:=Eg hk;have Ed:=Co h Bev;refine⟨_,hk,C9 (Dh _ ?_)⟩;simp[Builtin.len_,F6,LX,run_underlying hu,Ed,goInt]
 ·rename_i n e hu;refine⟨_,hk,C9 (Dh _ ?_)⟩;simp[Builtin.len_,F6,LX,run_underlying hu,goInt]
 ·rename_i e hu;split at hk
  ·rename_i id es off n e';rw[e'] at hx;obtain⟨_,hk⟩:=Am hk;refine⟨_,hk,C9 (Dh _ ?_)⟩;rcases hx with⟨_,_,rfl,ad,Ed⟩|⟨b,ob,y,cap,_,Ed,_⟩<;>simp[Builtin.len_,F6,LX,run_underlying hu,Ed,goInt]
  ·obtain⟨z,n,cc,hk,hp⟩:=H4 hk;refine⟨_,hk,C9 (Dh _ ?_)⟩;rcases H1 hp hx with⟨Ed,rfl,_⟩|⟨ad,cap,Ed,_⟩|⟨ad,cap,Ed,_,rfl,_⟩<;>simp[Builtin.len_,F6,LX,run_underlying hu,Ed,goInt]
 ·cases hk
theorem Ams(h:Di N w0 X0 Y β s a w){c:Call}(ho:o.op=.call c)(hc:c.callee=.builtin .cap){K:PV->Option R}(hk:(Ai c.args.toList fun x _=>Ai c.argTypes.toList fun t _=>Alx P t (Cp s.tm x) fun n=>K (.sc (.int .i64 n)))=some r):∃v,K v=some r/\Fg P a w o Y β s v [] []:=by
 obtain⟨x,xs,TA,hk⟩:=Bn hk;obtain⟨t,ts,hts,hk⟩:=Bn hk;have hx:=Dr h x;have F6:c.args=(x::xs).toArray:=by rw[<-TA]
 have LX:c.argTypes=(t::ts).toArray:=by rw[<-hts]
 have Dh:∀n:Nat,(Builtin.cap_ c.argTypes o.type (c.args.map a.eval)).run P w=.ok (.int .i64 n) w->(execOp a.eval o).run P w=.ok (.value (.int .i64 n)) w:=by
  intro n hl;unfold execOp;rw[ho];simp only[resolve,hc,invoke,builtin,Sem.run_bind,Sem.run_pure,Result.andThen_ok,hl]
 unfold Alx at hk;split at hk
 ·rename_i e hu;obtain⟨z,n,cc,hk,hp⟩:=H4 hk;obtain⟨hz,hk⟩:=Am hk;refine⟨_,hk,C9 (Dh _ ?_)⟩;rcases H1 hp hx with⟨Ed,rfl,_⟩|⟨ad,cap,Ed,PS,_⟩|⟨ad,cap,Ed,PS,_,_⟩
  ·simp[Builtin.cap_,F6,LX,run_underlying hu,Ed,goInt]
  ·rw[hz] at PS;cases PS
  ·rw[hz] at PS;cases PS
 ·cases hk
theorem Amx(h:Di N w0 X0 Y β s a w){c:Call}(ho:o.op=.call c)(hc:c.callee=.builtin .min){K:PV->Option R}(hk:(Ai c.args.toList fun x r=>Ai r fun y r'=>Ao r' (Aw0 (Cp s.tm x) (Cp s.tm y) K))=some r):∃v,K v=some r/\Fg P a w o Y β s v [] []:=by
 obtain⟨x,xs,TA,hk⟩:=Bn hk;obtain⟨y,ys,rfl,hk⟩:=Bn hk;obtain⟨rfl,hk⟩:=Em hk;obtain⟨k,n,hx,hk⟩:=Ep hk;obtain⟨m,hy,hk⟩:=Fl hk
 have F6:c.args = #[x,y]:=by
  have:c.args=([x,y]:List Operand).toArray:=by rw[<-TA]
  exact this
 refine⟨_,hk,C9 ?_⟩;unfold execOp;rw[ho];simp[resolve,hc,invoke,builtin,F6,Builtin.min_,Builtin.min2,Co h hx,Co h hy]
theorem Ak9(h:Di N w0 X0 Y β s a w){c:Call}(ho:o.op=.call c)(hc:c.callee=.builtin .max){K:PV->Option R}(hk:(Ai c.args.toList fun x r=>Ai r fun y r'=>Ao r' (Axl (Cp s.tm x) (Cp s.tm y) K))=some r):∃v,K v=some r/\Fg P a w o Y β s v [] []:=by
 obtain⟨x,xs,TA,hk⟩:=Bn hk;obtain⟨y,ys,rfl,hk⟩:=Bn hk;obtain⟨rfl,hk⟩:=Em hk;obtain⟨k,n,hx,hk⟩:=Ep hk;obtain⟨m,hy,hk⟩:=Fl hk
 have F6:c.args = #[x,y]:=by
  have:c.args=([x,y]:List Operand).toArray:=by rw[<-TA]
  exact this
 refine⟨_,hk,C9 ?_⟩;unfold execOp;rw[ho];simp[resolve,hc,invoke,builtin,F6,Builtin.max_,Builtin.max2,Co h hx,Co h hy]
theorem Agg(h:Di N w0 X0 Y β s a w){op:UnOp}{t:TypeId}{x:Operand}(ho:o.op=.unOp op t x){K:PV->Option R}(hk:unK op (Cp s.tm x) K=some r):
  ∃v,K v=some r/\Fg P a w o Y β s v [] []:=by
 unfold unK at hk;split at hk
 ·obtain⟨b,hb,hk⟩:=Eo hk;refine⟨_,hk,C9 ?_⟩;unfold execOp;rw[ho];simp[Op.unary,Co h hb]
 ·obtain⟨k,n,hb,hk⟩:=Ep hk;refine⟨_,hk,C9 ?_⟩;unfold execOp;rw[ho];simp[Op.unary,Op.intArith,Co h hb]
 ·obtain⟨k,n,hb,hk⟩:=Ep hk;refine⟨_,hk,C9 ?_⟩;unfold execOp;rw[ho];simp[Op.unary,Op.intBits,Co h hb,A6j]
 ·cases hk
theorem Am0{op:BinOp}{k:IntKind}{m n:Int}{t:TypeId}{x y:Operand}{K:PV->Option R}(hs1:op ≠ .shl)(HY:op ≠ .shr)(hk:RY op k m n K=some r):
  ∃v,K (.sc v)=some r/\(do eqGuard op t x y (.int k m) (.int k n);binOp op t (.int k m) (.int k n)).run P w=.ok v w:=by
 cases op<;>first
  |exact absurd rfl hs1
  |exact absurd rfl HY
  |(obtain⟨hb,hk⟩:=Am hk;have hb:=of_decide_eq_true hb;exact⟨_,hk,by simp[eqGuard,binOp,Op.intDiv,hb]⟩)
  |exact⟨_,hk,by simp[eqGuard,binOp,-BitVec.toNat_and,-BitVec.toNat_or,-BitVec.toNat_xor,-gt_iff_lt,-ge_iff_le]<;>rfl⟩
theorem Anb{op:BinOp}{m n:ByteArray}{t:TypeId}{x y:Operand}{K:PV->Option R}(hk:PP op m n K=some r):
  ∃v,K (.sc v)=some r/\(do eqGuard op t x y (.string m) (.string n);binOp op t (.string m) (.string n)).run P w=.ok v w:=by
 cases op<;>first
  |cases hk
  |(obtain⟨hb,hk⟩:=Am hk;have hb:=of_decide_eq_true hb;exact⟨_,hk,by
    have Jz:¬(((m.size+n.size:Nat):Int)>IntKind.i64.max):=by
     have:IntKind.i64.max=9223372036854775807:=rfl;rw[this];omega
    simp only[eqGuard,binOp,Op.stringOp,Br Jz];rfl⟩)
  |exact⟨_,hk,by simp only[eqGuard,binOp,Op.stringOp,ByteArray.toList_eq];rfl⟩
end
open Go.RowKit
section
variable {R:Type}{r:R}{P:Program}{N:Nat}{w0:World}{X0:J8}{Y:Nat->Prop}{β β':Bt}{s:St}{a:Act}{w w':World}{o:Oper}{A:Nat->Prop}
theorem QC{t:TypeId}(hu:P.underlying t=some .bool)(x y:Bool):(Op.equal t (.bool x) (.bool y)).run P w=.ok (x==y) w:=by
 have h:∀d,(Op.equalIn (d+1) t (.bool x) (.bool y)).run P w=.ok (x==y) w:=fun d=>by simp[Op.equalIn,run_underlying hu]
 exact h 9999
theorem Z5{t e:TypeId}(hu:P.underlying t=some (.slice e))(x:Option Addr)(n c:Nat):(Op.equal t (.slice x n c) (.slice none 0 0)).run P w=.ok x.isNone w:=by
 have h:∀d,(Op.equalIn (d+1) t (.slice x n c) (.slice none 0 0)).run P w=.ok x.isNone w:=fun d=>by
  cases x<;>simp[Op.equalIn,run_underlying hu]
 exact h 9999
theorem GW{t k e:TypeId}(hu:P.underlying t=some (.map k e)):(Op.equal t (.map none) (.map none)).run P w=.ok true w:=by
 have h:∀d,(Op.equalIn (d+1) t (.map none) (.map none)).run P w=.ok true w:=fun d=>by
  simp[Op.equalIn,run_underlying hu]
 exact h 9999
theorem Lm{t:TypeId}(d:Nat){v u:Value}(hv:(∃k m n,P.underlying t=some (.int k)/\v=.int k m/\u=.int k n)\/(∃m n,P.underlying t=some .bool/\v=.bool m/\u=.bool n)\/∃m n,P.underlying t=some .string/\v=.string m/\u=.string n){b:Bool}(hb:∀k m n,v=.int k m->u=.int k n->b=(m==n))(Jz:∀m n,v=.bool m->u=.bool n->b=(m==n))(Bey:∀m n,v=.string m->u=.string n->b=(m==n)):(Op.equalIn (d+1) t v u).run P w=.ok b w:=by
 rcases hv with⟨k,m,n,hu,rfl,rfl⟩|⟨m,n,hu,rfl,rfl⟩|⟨m,n,hu,rfl,rfl⟩
 ·rw[hb k m n rfl rfl];simp[Op.equalIn,run_underlying hu]
 ·rw[Jz m n rfl rfl];simp[Op.equalIn,run_underlying hu]
 ·rw[Bey m n rfl rfl];simp[Op.equalIn,run_underlying hu]
theorem Wk{t:TypeId}{dsc:TypeDesc}(hu:P.underlying t=some dsc)(hd:Ch P t=false){xs:Array Value}{i:Nat}{v:Value}(hv:xs[i]?=some v):(part t xs i).run P w=.ok v w:=by simp only[part,Sem.run_bind,Q3 hu,hd,Result.andThen_ok];simp[hv]
theorem VG(k:IntKind)(n:Int)(K:Int->Option R):Ba k (.sc (.int k n)) K=K n:=by simp[Ba]
theorem Ab2(d : Nat): ∀ (fs : List Field) (i : Nat) (xs ys : Array Value) (ps qs : Ae) (K : Bool -> Option R), Acz P fs i = true -> O3 (fs.map (fty P)) ps qs K = some r ->
    (∀ (j : Nat) p, ps[j]? = some p -> ∃ v, xs[i + j]? = some v /\ Cj w A β p v) -> (∀ (j : Nat) p, qs[j]? = some p -> ∃ v, ys[i + j]? = some v /\ Cj w A β p v) ->
    ∃ b, K b = some r /\ (forIn fs ((none, ()) : Option Bool × Unit) fun (f : Field) (_ : Option Bool × Unit) =>
            if f.name = "_" then pure (ForInStep.yield ((none, ()) : Option Bool × Unit))
            else do
              let x <- part f.type xs f.offset
              let y <- part f.type ys f.offset
              let e <- Op.equalIn (d + 1) f.type x y
              if e = false then pure (ForInStep.done ((some false, ()) : Option Bool × Unit)) else pure (ForInStep.yield ((none, ()) : Option Bool × Unit)) : Sem (Option Bool × Unit)).run P w = .ok (if b then (none, ()) else (some false, ())) w
  | [], i, xs, ys, ps, qs, K, _, hk, _, _ => by
    cases ps with
    | nil => cases qs with
      | nil => exact⟨true, hk, by simp⟩
      | cons q qs => cases hk
    | cons p ps => cases hk
  | f :: fs, i, xs, ys, ps, qs, K, LH, hk, hp, hq => by
    simp only[Acz, E0] at LH
    obtain⟨⟨⟨Uf, Ar7⟩, hty⟩, BX⟩ := LH
    have Uf := Dc Uf
    have QY : f.name ≠ "_" := by simpa using Ar7
    cases ps with
    | nil =>
      simp only[Vv] at hk
      cases A37 : fty P f <;> rw[A37] at hk <;> cases hk
    | cons p ps =>
      cases qs with
      | nil =>
        simp only[Vv] at hk
        cases A37 : fty P f <;> rw[A37] at hk <;> cases hk
      | cons q qs =>
        obtain⟨v, hv, IL⟩ := hp 0 p rfl
        obtain⟨u, hu, hqu⟩ := hq 0 q rfl
        rw[ZG] at hv hu
        have main : ∃ b0 dsc, P.underlying f.type = some dsc /\ Ch P f.type = false /\ (Op.equalIn (d + 1) f.type v u).run P w = .ok b0 w /\ O3 (fs.map (fty P)) ps qs (fun r => K (b0 && r)) = some r := by
          simp only[Vv] at hk
          unfold fty at hk
          split at hk
          · rename_i k M2
            obtain⟨m, VP, E8⟩ := Fl (show Ba k p _ = some r from hk)
            obtain⟨n, TF, F2⟩ := Fl E8
            subst VP TF
            have Tj : v = .int k m := Au.val (w := w) (A := A) IL
            have Lz : u = .int k n := Au.val (w := w) (A := A) hqu
            subst Tj Lz
            refine⟨m == n, _, M2, by simp[Ch, M2], Lm d (.inl ⟨k, m, n, M2, rfl, rfl⟩) ?_ ?_ ?_, F2⟩
            · intro k' m' n' h1 h2; injection h1 with _ h1; injection h2 with _ h2; rw[h1, h2]
            · intro m' n' h1; cases h1
            · intro m' n' h1; cases h1
          · rename_i M2
            obtain⟨m, VP, E8⟩ := Eo (show Bm p _ = some r from hk)
            obtain⟨n, TF, F2⟩ := Eo E8
            subst VP TF
            have Tj : v = .bool m := Au.val (w := w) (A := A) IL
            have Lz : u = .bool n := Au.val (w := w) (A := A) hqu
            subst Tj Lz
            refine⟨m == n, _, M2, by simp[Ch, M2], Lm d (.inr (.inl ⟨m, n, M2, rfl, rfl⟩)) ?_ ?_ ?_, F2⟩
            · intro k' m' n' h1; cases h1
            · intro m' n' h1 h2; injection h1 with h1; injection h2 with h2; rw[h1, h2]
            · intro m' n' h1; cases h1
          · rename_i M2
            obtain⟨m, VP, E8⟩ := Eg (show Bu p _ = some r from hk)
            obtain⟨n, TF, F2⟩ := Eg E8
            subst VP TF
            have Tj : v = .string m := Au.val (w := w) (A := A) IL
            have Lz : u = .string n := Au.val (w := w) (A := A) hqu
            subst Tj Lz
            refine⟨m == n, _, M2, by simp[Ch, M2], Lm d (.inr (.inr ⟨m, n, M2, rfl, rfl⟩)) ?_ ?_ ?_, F2⟩
            · intro k' m' n' h1; cases h1
            · intro m' n' h1; cases h1
            · intro m' n' h1 h2; injection h1 with h1; injection h2 with h2; rw[h1, h2]
          · cases hk
        obtain⟨b0, dsc, M2, Hj, he, hk⟩ := main
        obtain⟨b, hkb, Dh⟩ := Ab2 d fs (i + 1) xs ys ps qs _ BX hk (fun j p' hj => by have := hp (j + 1) p' hj; rwa [Ps, Nat.add_comm 1 j]) (fun j p' hj => by have := hq (j + 1) p' hj; rwa [Ps, Nat.add_comm 1 j])
        refine⟨b0 && b, hkb, ?_⟩
        have hpx : (part f.type xs f.offset).run P w = .ok v w := Wk M2 Hj (by rw[Uf]; exact hv)
        have hpy : (part f.type ys f.offset).run P w = .ok u w := Wk M2 Hj (by rw[Uf]; exact hu)
        cases b0
        · simp[List.forIn_cons, QY, hpx, hpy, he]
        · simp only[YD]
          rw[<- Dh]
          simp[List.forIn_cons, QY, hpx, hpy, he]
theorem MP(d:Nat){t:TypeId}{fs:Array Field}(hu:P.underlying t=some (.struct fs))(Hr:P.stoodInHeld t=false)(LH:Acz P fs.toList 0=true){xs ys:Ae}{vx vy:List Value}(hvx:Bj (Cj w A β) xs vx)(hvy:Bj (Cj w A β) ys vy){K:Bool->Option R}(hk:O3 (fs.toList.map (fty P)) xs ys K=some r):
  ∃b,K b=some r/\(Op.equalIn (d+2) t (.agg ⟨vx⟩) (.agg ⟨vy⟩)).run P w=.ok b w:=by
 obtain⟨b,hkb,Dh⟩:=Ab2 (P:=P) (w:=w) (A:=A) (β:=β) d fs.toList 0 ⟨vx⟩ ⟨vy⟩ xs ys K LH hk (fun j p hj=>by
   obtain⟨v,hv,hc⟩:=hvx.get hj;exact⟨v,by simpa using hv,hc⟩) (fun j p hj=>by
   obtain⟨v,hv,hc⟩:=hvy.get hj;exact⟨v,by simpa using hv,hc⟩)
 refine⟨b,hkb,?_⟩;rw[Array.forIn_toList] at Dh;rw[Op.equalIn];simp[run_underlying hu,Hr];rw[Dh];cases b<;>simp
theorem HA:∀(ts1:List CT){ts2:List CT}{ps qs:Ae}{K:Bool->Option R},O3 (ts1++ts2) ps qs K=some r ->
  O3 ts1 (ps.take ts1.length) (qs.take ts1.length) (fun b=>O3 ts2 (ps.drop ts1.length) (qs.drop ts1.length) fun r'=>K (b&&r'))=some r
 |[],ts2,ps,qs,K,h=>by
  simp only[NS,List.take_zero,Ma,O3,YD];exact h
 |t::ts1,ts2,ps,qs,K,h=>by
  rw[Zzp] at h;cases ps with
  |nil=>cases t<;>cases h
  |cons p ps=>
   cases qs with
   |nil=>cases t<;>cases h
   |cons q qs=>
    simp only[Po,List.take_succ_cons,List.drop_succ_cons];cases t with
    |int k=>
     obtain⟨m,VP,h1⟩:=Fl (show Ba k p _=some r from h);obtain⟨n,TF,h2⟩:=Fl h1;subst VP TF;have:=HA ts1 h2;simp only[<-Bool.and_assoc] at this;exact (VG _ _ _).trans ((VG _ _ _).trans this)
    |bool=>
     obtain⟨m,VP,h1⟩:=Eo (show Bm p _=some r from h);obtain⟨n,TF,h2⟩:=Eo h1;subst VP TF;have:=HA ts1 h2;simp only[<-Bool.and_assoc] at this;exact this
    |str=>
     obtain⟨m,VP,h1⟩:=Eg (show Bu p _=some r from h);obtain⟨n,TF,h2⟩:=Eg h1;subst VP TF;have:=HA ts1 h2;simp only[<-Bool.and_assoc] at this;exact this
    |sl es=>cases h
    |any=>cases h
theorem Ae0:∀(ts:List CT){ps qs:Ae}{K:Bool->Option R},O3 ts ps qs K=some r->ps.length=ts.length/\qs.length=ts.length
 |[],ps,qs,K,h=>by
  cases ps with
  |nil=>cases qs with
   |nil=>exact⟨rfl,rfl⟩
   |cons q qs=>cases h
  |cons p ps=>cases h
 |t::ts,ps,qs,K,h=>by
  cases ps with
  |nil=>cases t<;>cases h
  |cons p ps=>
   cases qs with
   |nil=>cases t<;>cases h
   |cons q qs=>
    have go:∃K',O3 ts ps qs K'=some r:=by
     cases t with
     |int k=>
      obtain⟨m,VP,h1⟩:=Fl (show Ba k p _=some r from h);obtain⟨n,TF,h2⟩:=Fl h1;exact⟨_,h2⟩
     |bool=>
      obtain⟨m,VP,h1⟩:=Eo (show Bm p _=some r from h);obtain⟨n,TF,h2⟩:=Eo h1;exact⟨_,h2⟩
     |str=>
      obtain⟨m,VP,h1⟩:=Eg (show Bu p _=some r from h);obtain⟨n,TF,h2⟩:=Eg h1;exact⟨_,h2⟩
     |sl es=>cases h
     |any=>cases h
    obtain⟨K',h'⟩:=go;have:=Ae0 ts h';exact⟨by simp[this.1],by simp[this.2]⟩
theorem Adw{t:TypeId}{dsc:TypeDesc}(hu:P.underlying t=some dsc)(hd:Ch P t=true)(hi:(P.info? t).isSome=true)(xs:Array Value)(i:Nat):(part t xs i).run P w=.ok (.agg (xs.extract i (i+A9 P t))) w:=by simp only[part,Sem.run_bind,Q3 hu,hd,Result.andThen_ok,if_true,Dk hi];rfl
theorem XK{xs:Array Value}{i n:Nat}{ps:Ae}(hn:n<=ps.length)(hp:∀(j:Nat) p,ps[j]?=some p->∃v,xs[i+j]?=some v/\Cj w A β p v):Bj (Cj w A β) (ps.take n) (xs.extract i (i+n)).toList:=by
 rcases Nat.eq_zero_or_pos n with h0|h0
 ·subst h0;simp[Bj]
 have hl:n-1<ps.length:=by omega
 obtain⟨v,hv,_⟩:=hp (n-1) _ (List.getElem?_eq_getElem hl);have Tq:=(Array.getElem?_eq_some_iff.1 hv).1;refine Bj.of_at (by simp;omega) fun j a b ha hb=>?_
 rw[List.getElem?_take] at ha;split at ha
 ·rename_i hj;obtain⟨v,hv,hc⟩:=hp j a ha;rw[Array.getElem?_toList,Array.getElem?_extract] at hb;split at hb
  ·rw[hv] at hb;cases hb;exact hc
  ·cases hb
 ·cases ha
theorem LS{f:Field}{gs:Array Field}(hu:P.underlying f.type=some (.struct gs)):Aer P f=gs.toList.map (fty P):=by unfold Aer;rw[hu]
theorem Ahb{f:Field}(h:∀gs,P.underlying f.type≠some (.struct gs)):Aer P f=[fty P f]:=by
 unfold Aer;split
 ·rename_i gs hu;exact absurd hu (h gs)
 ·rfl
theorem Aiy(d : Nat): ∀ (fs : List Field) (i : Nat) (xs ys : Array Value) (ps qs : Ae) (K : Bool -> Option R), Rl P fs i = true -> O3 (CF P fs) ps qs K = some r ->
    (∀ (j : Nat) p, ps[j]? = some p -> ∃ v, xs[i + j]? = some v /\ Cj w A β p v) -> (∀ (j : Nat) p, qs[j]? = some p -> ∃ v, ys[i + j]? = some v /\ Cj w A β p v) ->
    ∃ b, K b = some r /\ (forIn fs ((none, ()) : Option Bool × Unit) fun (f : Field) (_ : Option Bool × Unit) =>
            if f.name = "_" then pure (ForInStep.yield ((none, ()) : Option Bool × Unit))
            else do
              let x <- part f.type xs f.offset
              let y <- part f.type ys f.offset
              let e <- Op.equalIn (d + 2) f.type x y
              if e = false then pure (ForInStep.done ((some false, ()) : Option Bool × Unit)) else pure (ForInStep.yield ((none, ()) : Option Bool × Unit)) : Sem (Option Bool × Unit)).run P w = .ok (if b then (none, ()) else (some false, ())) w
  | [], i, xs, ys, ps, qs, K, _, hk, _, _ => by
    cases ps with
    | nil => cases qs with
      | nil => exact⟨true, hk, by simp⟩
      | cons q qs => cases hk
    | cons p ps => cases hk
  | f :: fs, i, xs, ys, ps, qs, K, LH, hk, hp, hq => by
    simp only[Rl, E0] at LH
    obtain⟨⟨Uf, Ar7⟩, hty⟩ := LH
    have Uf := Dc Uf
    have QY : f.name ≠ "_" := by simpa using Ar7
    have main : ∃ b0 v u n, (part f.type xs f.offset).run P w = .ok v w /\ (part f.type ys f.offset).run P w = .ok u w /\ (Op.equalIn (d + 2) f.type v u).run P w = .ok b0 w /\ Rl P fs (i + n) = true /\ O3 (CF P fs) (ps.drop n) (qs.drop n) (fun r' => K (b0 && r')) = some r := by
      have hk := HA (Aer P f) (show O3 (Aer P f ++ CF P fs) ps qs K = some r from hk)
      have Eh := Ae0 _ hk
      rw[List.length_take, List.length_take] at Eh
      have plain : (∀ gs, P.underlying f.type ≠ some (.struct gs)) -> Rl P fs (i + 1) = true -> (match P.underlying f.type with | some (.int _) => true | some .bool => true | some .string => true | _ => false) = true ->
          ∃ b0 v u n, (part f.type xs f.offset).run P w = .ok v w /\ (part f.type ys f.offset).run P w = .ok u w /\ (Op.equalIn (d + 2) f.type v u).run P w = .ok b0 w /\ Rl P fs (i + n) = true /\ O3 (CF P fs) (ps.drop n) (qs.drop n) (fun r' => K (b0 && r')) = some r := by
        intro hs A19 Vm
        rw[Ahb hs] at hk Eh
        simp only[List.length_singleton] at hk Eh
        obtain⟨p, ps, rfl⟩ : ∃ p ps', ps = p :: ps' := by
          cases ps with
          | nil => simp at Eh
          | cons p ps => exact⟨p, ps, rfl⟩
        obtain⟨q, qs, rfl⟩ : ∃ q qs', qs = q :: qs' := by
          cases qs with
          | nil => simp at Eh
          | cons q qs => exact⟨q, qs, rfl⟩
        obtain⟨v, hv, IL⟩ := hp 0 p rfl
        obtain⟨u, hu, hqu⟩ := hq 0 q rfl
        rw[ZG] at hv hu
        simp only[List.take_succ_cons, List.take_zero, List.drop_succ_cons, Ma] at hk ⊢
        have one : ∃ b0 dsc, P.underlying f.type = some dsc /\ Ch P f.type = false /\ (Op.equalIn (d + 2) f.type v u).run P w = .ok b0 w /\ O3 (CF P fs) ps qs (fun r' => K (b0 && r')) = some r := by
          unfold fty at hk
          split at hk
          · rename_i k M2
            obtain⟨m, VP, E8⟩ := Fl (show Ba k p _ = some r from hk)
            obtain⟨n, TF, F2⟩ := Fl E8
            subst VP TF
            have Tj : v = .int k m := Au.val (w := w) (A := A) IL
            have Lz : u = .int k n := Au.val (w := w) (A := A) hqu
            subst Tj Lz
            have e : ∀ b : Bool, (b && true) = b := Bool.and_true
            simp only[O3, e] at F2
            refine⟨m == n, _, M2, by simp[Ch, M2], Lm (d + 1) (.inl ⟨k, m, n, M2, rfl, rfl⟩) ?_ ?_ ?_, F2⟩
            · intro k' m' n' h1 h2; injection h1 with _ h1; injection h2 with _ h2; rw[h1, h2]
            · intro m' n' h1; cases h1
            · intro m' n' h1; cases h1
          · rename_i M2
            obtain⟨m, VP, E8⟩ := Eo (show Bm p _ = some r from hk)
            obtain⟨n, TF, F2⟩ := Eo E8
            subst VP TF
            have Tj : v = .bool m := Au.val (w := w) (A := A) IL
            have Lz : u = .bool n := Au.val (w := w) (A := A) hqu
            subst Tj Lz
            have e : ∀ b : Bool, (b && true) = b := Bool.and_true
            simp only[O3, e] at F2
            refine⟨m == n, _, M2, by simp[Ch, M2], Lm (d + 1) (.inr (.inl ⟨m, n, M2, rfl, rfl⟩)) ?_ ?_ ?_, F2⟩
            · intro k' m' n' h1; cases h1
            · intro m' n' h1 h2; injection h1 with h1; injection h2 with h2; rw[h1, h2]
            · intro m' n' h1; cases h1
          · rename_i M2
            obtain⟨m, VP, E8⟩ := Eg (show Bu p _ = some r from hk)
            obtain⟨n, TF, F2⟩ := Eg E8
            subst VP TF
            have Tj : v = .string m := Au.val (w := w) (A := A) IL
            have Lz : u = .string n := Au.val (w := w) (A := A) hqu
            subst Tj Lz
            have e : ∀ b : Bool, (b && true) = b := Bool.and_true
            simp only[O3, e] at F2
            refine⟨m == n, _, M2, by simp[Ch, M2], Lm (d + 1) (.inr (.inr ⟨m, n, M2, rfl, rfl⟩)) ?_ ?_ ?_, F2⟩
            · intro k' m' n' h1; cases h1
            · intro m' n' h1; cases h1
            · intro m' n' h1 h2; injection h1 with h1; injection h2 with h2; rw[h1, h2]
          · cases hk
        obtain⟨b0, dsc, M2, Hj, he, hk⟩ := one
        exact⟨b0, v, u, 1, Wk M2 Hj (by rw[Uf]; exact hv), Wk M2 Hj (by rw[Uf]; exact hu), he, A19, by simpa using hk⟩
      split at hty
      · rename_i k M2
        exact plain (fun gs e => by rw[M2] at e; cases e) hty (by rw[M2])
      · rename_i M2
        exact plain (fun gs e => by rw[M2] at e; cases e) hty (by rw[M2])
      · rename_i M2
        exact plain (fun gs e => by rw[M2] at e; cases e) hty (by rw[M2])
      · rename_i gs M2
        simp only[E0, Bool.not_eq_true'] at hty
        obtain⟨⟨⟨⟨hfp, Hr⟩, hi⟩, Tq⟩, BX⟩ := hty
        have Tq := Dc Tq
        have Se : (Aer P f).length = gs.size := by rw[LS M2, List.length_map, Array.length_toList]
        rw[Se] at hk Eh
        rw[LS M2] at hk
        have hx := XK (n := gs.size) (by omega) hp
        have hy := XK (n := gs.size) (by omega) hq
        obtain⟨b0, hkb, he⟩ := MP d M2 Hr hfp hx hy hk
        have ha : Ch P f.type = true := by simp[Ch, M2]
        exact⟨b0, _, _, gs.size, by rw[Adw M2 ha hi, Uf, Tq], by rw[Adw M2 ha hi, Uf, Tq], he, BX, hkb⟩
      · cases hty
    obtain⟨b0, v, u, n, hpx, hpy, he, A19, hk⟩ := main
    obtain⟨b, hkb, Dh⟩ := Aiy d fs (i + n) xs ys (ps.drop n) (qs.drop n) _ A19 hk (fun j p' hj => by rw[List.getElem?_drop] at hj; have := hp (n + j) p' hj; rwa [<- Ps] at this) (fun j p' hj => by rw[List.getElem?_drop] at hj; have := hq (n + j) p' hj; rwa [<- Ps] at this)
    refine⟨b0 && b, hkb, ?_⟩
    cases b0
    · simp[List.forIn_cons, QY, hpx, hpy, he]
    · simp only[YD]
      rw[<- Dh]
      simp[List.forIn_cons, QY, hpx, hpy, he]
theorem PJ(d:Nat){t:TypeId}{fs:Array Field}(hu:P.underlying t=some (.struct fs))(Hr:P.stoodInHeld t=false)(LH:Rl P fs.toList 0=true){xs ys:Ae}{vx vy:List Value}(hvx:Bj (Cj w A β) xs vx)(hvy:Bj (Cj w A β) ys vy){K:Bool->Option R}(hk:O3 (CF P fs.toList) xs ys K=some r):
  ∃b,K b=some r/\(Op.equalIn (d+3) t (.agg ⟨vx⟩) (.agg ⟨vy⟩)).run P w=.ok b w:=by
 obtain⟨b,hkb,Dh⟩:=Aiy (P:=P) (w:=w) (A:=A) (β:=β) d fs.toList 0 ⟨vx⟩ ⟨vy⟩ xs ys K LH hk (fun j p hj=>by
   obtain⟨v,hv,hc⟩:=hvx.get hj;exact⟨v,by simpa using hv,hc⟩) (fun j p hj=>by
   obtain⟨v,hv,hc⟩:=hvy.get hj;exact⟨v,by simpa using hv,hc⟩)
 refine⟨b,hkb,?_⟩;rw[Array.forIn_toList] at Dh;rw[Op.equalIn];simp[run_underlying hu,Hr];rw[Dh];cases b<;>simp
theorem VA(h:Di N w0 X0 Y β s a w){t:TypeId}{fs:Array Field}{x y:Operand}{op:BinOp}(hop:op=.eql\/op=.neq)(hu:P.underlying t=some (.struct fs))(LH:Aae P t fs=true){xs ys:Ae}(hx:Cp s.tm x=.agg xs)(hy:Cp s.tm y=.agg ys){K:Bool->Option R}(hk:O3 (CF P fs.toList) xs ys K=some r):
  ∃b,K b=some r/\(do eqGuard op t x y (a.eval x) (a.eval y);binOp op t (a.eval x) (a.eval y)).run P w=.ok (.bool (if op=.eql then b else !b)) w:=by
 have hxv:=Dr h x;have hyv:=Dr h y;rw[hx] at hxv;rw[hy] at hyv;obtain⟨vx,Ed,hvx⟩:=hxv;obtain⟨vy,hay,hvy⟩:=hyv;simp only[Aae,E0,Bool.not_eq_true'] at LH;obtain⟨⟨LH,Hr⟩,heg⟩:=LH;obtain⟨b,hkb,heq⟩:=PJ 9997 hu Hr LH hvx hvy hk;have heq:(Op.equal t (.agg ⟨vx⟩) (.agg ⟨vy⟩)).run P w=.ok b w:=heq;refine⟨b,hkb,?_⟩;rw[Ed,hay];rcases hop with rfl|rfl
 ·simp[eqGuard,binOp,heq,heg]
 ·simp[eqGuard,binOp,heq,heg]
theorem Aeu(h:Di N w0 X0 Y β s a w){op:BinOp}{t ty:TypeId}{x y:Operand}(ho:o.op=.binOp op t x y ty){K:PV->Option R}(hk:AE P op t (Cp s.tm x) (Cp s.tm y) K=some r):∃v,K v=some r/\Fg P a w o Y β s v [] []:=by
 have Dh:∀v,(do eqGuard op t x y (a.eval x) (a.eval y);binOp op t (a.eval x) (a.eval y)).run P w=.ok v w->(execOp a.eval o).run P w=.ok (.value v) w:=by
  intro v hv;unfold execOp;rw[ho];simp only[Sem.run_bind] at hv ⊢;rw[hv];rfl
 unfold AE at hk;split at hk
 ·rename_i fs hu;split at hk
  ·obtain⟨LH,hk⟩:=Am hk;obtain⟨xs,hx,hk⟩:=Jb hk;obtain⟨ys,hy,hk⟩:=Jb hk;obtain⟨b,hk,hr⟩:=VA h (.inl rfl) hu LH hx hy hk;exact⟨_,hk,C9 (Dh _ (by rw[hr];rfl))⟩
  ·obtain⟨LH,hk⟩:=Am hk;obtain⟨xs,hx,hk⟩:=Jb hk;obtain⟨ys,hy,hk⟩:=Jb hk;obtain⟨b,hk,hr⟩:=VA h (.inr rfl) hu LH hx hy hk;exact⟨_,hk,C9 (Dh _ (by rw[hr];rfl))⟩
  ·cases hk
 ·unfold Aq0 at hk;split at hk
  ·rename_i k hu;split at hk
   ·obtain⟨m,hx,hk⟩:=Fl hk;obtain⟨k2,n,hy,hk⟩:=Ep hk;obtain⟨hb,hk⟩:=Am hk;have hb:=of_decide_eq_true hb;refine⟨_,hk,C9 (Dh _ ?_)⟩;have:¬n<0:=by omega
    simp[eqGuard,binOp,Op.shift,Co h hx,Co h hy,this]
   ·obtain⟨m,hx,hk⟩:=Fl hk;obtain⟨k2,n,hy,hk⟩:=Ep hk;obtain⟨hb,hk⟩:=Am hk;have hb:=of_decide_eq_true hb;refine⟨_,hk,C9 (Dh _ ?_)⟩;have:¬n<0:=by omega
    simp[eqGuard,binOp,Op.shift,Co h hx,Co h hy,this]
   ·rename_i hs1 HY;obtain⟨m,hx,hk⟩:=Fl hk;obtain⟨n,hy,hk⟩:=Fl hk;obtain⟨v,hk,hr⟩:=Am0 (P:=P) (w:=w) (t:=t) (x:=x) (y:=y) hs1 HY hk;exact⟨_,hk,C9 (Dh _ (by rw[Co h hx,Co h hy];exact hr))⟩
  ·rename_i hu;obtain⟨m,hx,hk⟩:=Eg hk;obtain⟨n,hy,hk⟩:=Eg hk;obtain⟨v,hk,hr⟩:=Anb (P:=P) (w:=w) (t:=t) (x:=x) (y:=y) hk;exact⟨_,hk,C9 (Dh _ (by rw[Co h hx,Co h hy];exact hr))⟩
  ·rename_i hu;split at hk
   ·obtain⟨m,hx,hk⟩:=Eo hk;obtain⟨n,hy,hk⟩:=Eo hk;refine⟨_,hk,C9 (Dh _ ?_)⟩;simp[eqGuard,binOp,Co h hx,Co h hy,QC hu]
   ·obtain⟨m,hx,hk⟩:=Eo hk;obtain⟨n,hy,hk⟩:=Eo hk;refine⟨_,hk,C9 (Dh _ ?_)⟩;simp[eqGuard,binOp,Co h hx,Co h hy,QC hu]
   ·cases hk
  ·rename_i e hu;have hx:=Dr h x
   have nilQ:∀{e:Bool} {K':PV->Option R},SL e (Cp s.tm x) K'=some r->∃q ad n c,K' q=some r/\a.eval x=.slice ad n c/\(q=.sc (.bool (if ad.isNone then e else !e))\/q=.ub):=by
    intro e K' hq;unfold SL at hq;split at hq
    ·rename_i e';exact⟨_,none,0,0,hq,Co h e',.inl rfl⟩
    ·rename_i z es n c e';rcases H1 (.inl e') hx with⟨Ed,rfl,_⟩|⟨ad,cap,Ed,rfl,_⟩|⟨ad,cap,Ed,rfl,rfl,_⟩
     ·rcases Qx hq with⟨_,hq⟩|⟨_,hq⟩
      ·exact⟨_,none,0,0,hq,Ed,.inl rfl⟩
      ·rcases Qx hq with⟨hb,_⟩|⟨_,hq⟩
       ·exact absurd (of_decide_eq_true hb) (by omega)
       ·exact⟨_,none,0,0,hq,Ed,.inr rfl⟩
     ·rcases Qx hq with⟨hz,_⟩|⟨_,hq⟩
      ·cases hz
      ·rcases Qx hq with⟨_,hq⟩|⟨_,hq⟩
       ·exact⟨_,some ad,n,cap,hq,Ed,.inl rfl⟩
       ·exact⟨_,some ad,n,cap,hq,Ed,.inr rfl⟩
     ·rcases Qx hq with⟨hz,_⟩|⟨_,hq⟩
      ·cases hz
      ·rcases Qx hq with⟨hb,_⟩|⟨_,hq⟩
       ·exact absurd (of_decide_eq_true hb) (by omega)
       ·exact⟨_,some ad,0,cap,hq,Ed,.inr rfl⟩
    ·rename_i id es off n e';rw[e'] at hx;rcases hx with⟨_,_,rfl,ad,Ed⟩|⟨b,ob,y',cap,_,Ed,_⟩
     ·rcases Qx hq with⟨hb,_⟩|⟨_,hq⟩
      ·exact absurd (of_decide_eq_true hb) (by omega)
      ·exact⟨_,ad,0,0,hq,Ed,.inr rfl⟩
     ·rcases Qx hq with⟨_,hq⟩|⟨_,hq⟩
      ·exact⟨_,_,n,cap,hq,Ed,.inl rfl⟩
      ·exact⟨_,_,n,cap,hq,Ed,.inr rfl⟩
    ·cases hq
   split at hk
   ·rename_i hy;obtain⟨q,ad,n,c,hk,Ed,hb⟩:=nilQ hk;rcases hb with rfl|rfl
    ·refine⟨_,hk,C9 (Dh _ ?_)⟩;cases ad<;>simp[eqGuard,binOp,Ed,Co h hy,Z5 hu]
    ·refine⟨_,hk,Ck (val:=.bool ad.isNone) (Dh _ ?_) (Au.ub _) (by intro i hi;cases hi)⟩
     simp[eqGuard,binOp,Ed,Co h hy,Z5 hu]
   ·rename_i hy;obtain⟨q,ad,n,c,hk,Ed,hb⟩:=nilQ hk;rcases hb with rfl|rfl
    ·refine⟨_,hk,C9 (Dh _ ?_)⟩;cases ad<;>simp[eqGuard,binOp,Ed,Co h hy,Z5 hu]
    ·refine⟨_,hk,Ck (val:=.bool !ad.isNone) (Dh _ ?_) (Au.ub _) (by intro i hi;cases hi)⟩
     simp[eqGuard,binOp,Ed,Co h hy,Z5 hu]
   ·cases hk
  ·rename_i kt vt hu;split at hk
   ·rename_i hx hy;refine⟨_,hk,C9 (Dh _ ?_)⟩;simp[eqGuard,binOp,Co h hx,Co h hy,GW hu]
   ·rename_i hx hy;refine⟨_,hk,C9 (Dh _ ?_)⟩;simp[eqGuard,binOp,Co h hx,Co h hy,GW hu]
   ·cases hk
  ·cases hk
end
open Go.RowKit
section
variable {R:Type}{r:R}{P:Program}{N:Nat}{w0:World}{X0:J8}{Y:Nat->Prop}{β β':Bt}{s:St}{a:Act}{w w':World}{o:Oper}{A:Nat->Prop}
theorem KJ:∀{c:Ae}{ns:Aj},AH c=some ns->c=ns.map (fun n=>.sc (.int .i32 n))
 |[],ns,h=>by simp[AH] at h;subst h;rfl
 |p::c,ns,h=>by
  unfold AH at h;split at h
  ·rename_i e;cases e
  ·rename_i n r e;cases e;cases hr:AH c with
   |none=>rw[hr] at h;cases h
   |some l'=>
    rw[hr] at h;simp at h;subst h;rw[KJ hr];rfl
  ·cases h
theorem Yg:∀{c:Ae}{l:List UInt8},bytesOf c=some l->∃ns:Aj,c=ns.map (fun n=>.sc (.int .u8 n))/\l=ns.map fun n=>n.toNat.toUInt8
 |[],l,h=>⟨[],rfl,by simp[bytesOf] at h;subst h;rfl⟩
 |p::c,l,h=>by
  unfold bytesOf at h;split at h
  ·rename_i e;cases e
  ·rename_i n r e;cases e;cases hr:bytesOf c with
   |none=>rw[hr] at h;cases h
   |some l'=>
    rw[hr] at h;simp at h;obtain⟨ns,rfl,rfl⟩:=Yg hr;exact⟨n::ns,rfl,h.symm⟩
  ·cases h
theorem Wu:∀(ns:Aj)(b:ByteArray),ns.foldl (fun r n=>r.push (UInt8.ofNat n.toNat)) b=⟨b.data++(ns.map fun n=>n.toNat.toUInt8).toArray⟩
 |[],b=>by simp
 |n::ns,b=>by
  simp only[List.foldl_cons];rw[Wu ns];simp[ByteArray.push]
theorem OG(h:Di N w0 X0 Y β s a w){es:Nat}{x:Operand}{K:Nat->Ae->Option R}(hk:Adk (Mh s.hp) es (Cp s.tm x) K=some r):
  ∃n c,K n c=some r/\(((∃ad,a.eval x=.slice ad 0 0)/\n=0/\c=[])\/∃ad cap,a.eval x=.slice (some ad) n cap/\n<=cap/\(c=[]\/ad.block<w.heap.size)/\RdT w (D2 s.hp β Y) ad c):=by
 have hx:=Dr h x;have SX:=F7 h x;unfold Adk at hk;split at hk
 ·rename_i id es' off n e;rw[e] at hx SX;cases hb:Nat.beq es' es
  ·rw[hb] at hk;cases hk
  ·rw[hb] at hk;obtain⟨c,hc,hk⟩:=Cw (show Dj _ _=some r from hk);obtain⟨hl,hk⟩:=Am hk;have hl:=of_decide_eq_true hl;obtain⟨f,Al3⟩:=XT hc;refine⟨_,_,hk,?_⟩;rcases hx with⟨_,rfl,rfl,ad,Ed⟩|⟨b,ob,y,cap,hβ,Ed,hy,hn,_,Cq⟩
   ·exact .inl ⟨⟨ad,Ed⟩,rfl,by simp⟩
   ·refine .inr ⟨_,cap,Ed,hn,.inr Cq,fun j p hj=>?_⟩
    have Ad6:0<n*es:=by
     rcases Nat.eq_zero_or_pos (n*es) with h0|h0
     ·rw[h0] at hj;simp at hj
     ·exact h0
    have IA:n≠0:=by rintro rfl;simp at Ad6
    have hy:y=ob+off:=by rcases hy with hy|⟨h0,_⟩<;>omega
    subst hy;rw[List.getElem?_take] at hj;split at hj
    ·rw[List.getElem?_drop] at hj;rcases h.box id _ Al3 with⟨h1,_⟩|⟨b',o',h1,h2,_⟩
     ·rw[hβ] at h1;cases h1
     ·rw[hβ] at h1;simp at h1;obtain⟨rfl,rfl⟩:=h1
      obtain⟨v,hv,h3,ht⟩:=h2 (off+j) p hj;rw[Fo] at hv;exact⟨v,by rw[Fo,Ps];exact hv,h3,ht⟩
    ·cases hj
 ·obtain⟨z,n,c,hk,hp⟩:=H4 hk;refine⟨n,c,hk,?_⟩;rcases H1 hp hx with h1|⟨ad,cap,Ed,_,hn,h1,h2,_,h4⟩|⟨ad,cap,Ed,_,rfl,rfl⟩
  ·exact .inl ⟨⟨none,h1.1⟩,h1.2⟩
  ·exact .inr ⟨ad,cap,Ed,hn,.inr h2,h4⟩
  ·exact .inr ⟨ad,cap,Ed,Nat.zero_le _,.inl rfl,fun j c hj=>by simp at hj⟩
theorem Alb(b:ByteArray)(j:Nat)(p:PV)(h:(Dq b)[j]?=some p):∃x,b.data[j]?=some x/\p=.sc (.int .u8 x.toNat):=by
 unfold Dq at h;rw[List.getElem?_map] at h;cases hx:b.data.toList[j]? with
 |none=>rw[hx] at h;cases h
 |some x=>
  rw[hx] at h;simp at h;exact⟨x,by simpa using hx,h.symm⟩
theorem Aip(h:Di N w0 X0 Y β s a w){src dst:TypeId}{x:Operand}(ho:o.op=.convert src dst x){d:Nat}{K:PV->List (Nat × B7)->Option R}(hk:RN P (Mh s.hp) d src dst (Cp s.tm x) K=some r):∃v nw,K v nw=some r/\Fg P a w o Y β s v [] nw:=by
 have Dh:∀v w',(convert src dst (a.eval x)).run P w=.ok v w'->(execOp a.eval o).run P w=.ok (.value v) w':=by
  intro v w' hv;unfold execOp;rw[ho];simp[hv]
 unfold RN at hk;split at hk
 ·rename_i k hu;obtain⟨hs,hk⟩:=Am hk;obtain⟨k',n,hx,hk⟩:=Ep hk;exact⟨_,_,hk,C9 (Dh _ _ (by rw[Co h hx];obtain⟨ds,hds⟩:=Option.isSome_iff_exists.1 hs;cases ds<;>simp[convert,run_underlying hds,run_underlying hu,Conv.intToInt]))⟩
 ·rename_i hu;split at hk
  ·rename_i hs;obtain⟨b,hx,hk⟩:=Eg hk;exact⟨_,_,hk,C9 (Dh _ _ (by rw[Co h hx];simp[convert,run_underlying hs,run_underlying hu]))⟩
  ·rename_i e hs;split at hk
   ·rename_i he;obtain⟨n,c,hk,hc⟩:=OG h hk;obtain⟨hl,hk⟩:=Am hk;have hl:=of_decide_eq_true hl;obtain⟨l,hb,hk⟩:=Cw hk;obtain⟨ns,rfl,rfl⟩:=Yg hb;refine⟨_,_,hk,C9 (Dh _ _ ?_)⟩;rcases hc with⟨⟨ad,Ed⟩,rfl,hn⟩|⟨ad,cap,Ed,_,_,hrd⟩
    ·have:ns=[]:=by simpa using hn
     subst this;rw[Ed,run_convert_bytes_string w src dst e ad 0 0 hs he hu];cases ad<;>rfl
    ·rw[Ed,run_convert_bytes_string w src dst e _ _ _ hs he hu]
     have hld:(loadCells ad n).run P w=.ok (ns.map (Value.int .u8)).toArray w:=by
      have:=run_loadCells_list (P:=P) w ad (ns.map (Value.int .u8)) (fun j v hj=>by
       rw[List.getElem?_map] at hj;cases hn:ns[j]? with
       |none=>rw[hn] at hj;cases hj
       |some m=>
        rw[hn] at hj;simp at hj;subst hj;obtain⟨v,hv,_,ht⟩:=hrd j (.sc (.int .u8 m)) (by rw[List.getElem?_map,hn];rfl)
        rw[ht.val] at hv;exact hv)
      simp only[List.length_map] at this hl;rw[hl] at this;exact this
     rw[run_bytesToString w ad n cap ns hld,Wu];simp
   ·rename_i he;obtain⟨n,c,hk,hc⟩:=OG h hk;obtain⟨hl,hk⟩:=Am hk;have hl:=of_decide_eq_true hl;obtain⟨ns,hb,F2⟩:=Cw hk;have LI:=KJ hb;clear hk;subst LI;refine⟨_,_,F2,C9 (Dh _ _ ?_)⟩;rcases hc with⟨⟨ad,Ed⟩,IY,hn⟩|⟨ad,cap,Ed,_,_,hrd⟩
    ·have:ns=[]:=by simpa using hn
     subst this;rw[Ed,run_convert_runes_string w src dst e ad _ _ hs he hu];cases ad with
     |none=>rfl
     |some p=>
      have IA:n=0:=by simpa using IY
      subst IA;exact run_runesToString w p 0 0 [] (by simpa using run_loadCells_list (P:=P) w p [] (by simp))
    ·rw[Ed,run_convert_runes_string w src dst e _ _ _ hs he hu]
     have hld:(loadCells ad n).run P w=.ok (ns.map (Value.int .i32)).toArray w:=by
      have:=run_loadCells_list (P:=P) w ad (ns.map (Value.int .i32)) (fun j v hj=>by
       rw[List.getElem?_map] at hj;cases hn:ns[j]? with
       |none=>rw[hn] at hj;cases hj
       |some m=>
        rw[hn] at hj;simp at hj;subst hj;obtain⟨v,hv,_,ht⟩:=hrd j (.sc (.int .i32 m)) (by rw[List.getElem?_map,hn];rfl)
        rw[ht.val] at hv;exact hv)
      simp only[List.length_map] at this hl;rw[hl] at this;exact this
     exact run_runesToString w ad n cap ns hld
   ·cases hk
  ·cases hk
 ·rename_i e hu;split at hk
  ·rename_i he hs;obtain⟨b,hx,hk⟩:=Eg hk;obtain⟨Tq,hk⟩:=Am hk;have hr:=run_bytes_of_string (P:=P) w src dst e b hs hu he;rw[<-Co h hx] at hr
   have DH:b.size<=grownCap w b.size 0 e:=by
    unfold grownCap;simp[Question.cut]
   have Aep:(bytesRow b (grownCap w b.size 0 e)).size=grownCap w b.size 0 e:=by
    simp only[bytesRow,Array.size_append,Array.size_map,Array.size_replicate];have:b.data.size=b.size:=rfl;omega
   refine⟨_,_,hk,Un (c:=bytesRow b (grownCap w b.size 0 e)) (e:=e) (by simp) (Dh _ _ hr) ?_ (fun j p hj=>?_) (.inr ⟨1,b.size,grownCap w b.size 0 e,rfl,rfl,DH,by rw[Aep];omega,.inl rfl⟩)⟩
   ·exact⟨rfl,rfl,rfl,fun i hi=>Below.heap_alloc w.drew _ i hi,by show (w.heap.push _).size=_;simp,_,by show (w.heap.push _)[w.heap.size]?=_;simp;rfl,.inr (Cs _)⟩
   ·obtain⟨y,hy,rfl⟩:=Alb b j p hj;refine⟨.int .u8 y.toNat,?_,rfl,Au.sc _⟩
    have Cq:j<b.data.size:=by
     rcases Ik j b.data.size with h|h
     ·exact h
     ·rw[Array.getElem?_eq_none h] at hy;cases hy
    simp only[bytesRow];rw[Array.getElem?_append_left (by simpa using Cq),Array.getElem?_map,hy];rfl
  ·cases hk
 ·cases hk
end
open Go.RowKit
section
variable {R:Type}{r:R}{P:Program}{N:Nat}{w0:World}{X0:J8}{Y:Nat->Prop}{β β':Bt}{s:St}{a:Act}{w w':World}{o:Oper}{A:Nat->Prop}
theorem FX:∀{n:Nat}{l:Ae}{j:Nat}{c:PV},(Si n l)[j]?=some c->j<n*l.length/\l[j % l.length]?=some c
 |0,l,j,c,h=>by simp[Si] at h
 |n+1,l,j,c,h=>by
  have e:Si (n+1) l=l++Si n l:=by simp[Si,List.replicate_succ]
  rw[e] at h;by_cases hj:j<l.length
  ·rw[List.getElem?_append_left hj] at h;refine⟨by rw[Nat.add_mul];omega,?_⟩
   rw[Nat.mod_eq_of_lt hj];exact h
  ·rw[List.getElem?_append_right (by omega)] at h;obtain⟨h1,h2⟩:=FX h;refine⟨by rw[Nat.add_mul];omega,?_⟩
   rw[Nat.mod_eq_sub_mod (by omega)];exact h2
theorem Ae7(n:Nat)(l:Ae):(Si n l).length=n*l.length:=by
 induction n with
 |zero=>simp[Si]
 |succ n ih=>
  have e:Si (n+1) l=l++Si n l:=by simp[Si,List.replicate_succ]
  rw[e,Vo,ih,Nat.add_mul];omega
theorem Ady{z:Array Value}{n j:Nat}(hj:j<n){v:Value}(hv:z[j % z.size]?=some v):(madeCells z n)[j]?=some v:=by unfold madeCells;rw[Array.getElem?_map,Array.getElem?_range,Cx hj];simp only[Option.map_some];rw[getElem!_def,hv]
theorem Ah4(h:Di N w0 X0 Y β s a w){t:TypeId}{x y:Operand}(ho:o.op=.makeSlice t x y){d:Nat}{K:PV->B2->List (Nat × B7)->Option R}(hk:(match P.underlying t with
   |some (.slice e)=>Ei (Cp s.tm x) fun _ n=>Ei (Cp s.tm y) fun _ m=>
     Ar (decide (0<=n)&&decide (n<=m)&&decide (m*((P.info? e).map (·.bytes)).getD 0<=1099511627776)&&decide (m<=1099511627776))
      (Iv P e fun z=>K (.view d (A9 P e) 0 n.toNat) [] [(d,.ar false (Si n.toNat z))])
   |_=>none)=some r):∃v fz nw,K v fz nw=some r/\Fg P a w o Y β s v fz nw:=by
 split at hk
 ·rename_i e hu;obtain⟨k1,n,hx,hk⟩:=Ep hk;obtain⟨k2,m,hy,hk⟩:=Ep hk;obtain⟨hb,hk⟩:=Am hk;simp only[E0,Yd] at hb;obtain⟨⟨⟨h0,TS⟩,Zt⟩,hm⟩:=hb;obtain⟨z,cs,hk,hz,hct,hl,Tq,hc⟩:=Tn hk
  have hzc:∃i,P.info? e=some i/\i.zero=some z:=by
   unfold T8 at hz;cases hi:P.info? e with
   |none=>rw[hi] at hz;cases hz
   |some i=>rw[hi] at hz;exact⟨i,rfl,hz⟩
  obtain⟨i,hi,hzi⟩:=hzc;have A7x:A9 P e=i.size:=by simp[A9,hi]
  simp only[hi,Option.map_some,Option.getD_some] at Zt;have hr:=run_make (P:=P) w t e i z hu hi hzi k1 k2 n m h0 TS (by rw[Int.mul_comm];omega) (by omega)
  have Dh:(execOp a.eval o).run P w=.ok (.value (.slice (some ⟨w.heap.size,0,none⟩) n.toNat m.toNat)) (w.alloc (.cells (madeCells z.cells (m.toNat*i.size)) e)):=by
   unfold execOp;rw[ho];simp[Co h hx,Co h hy,hr]
  have hzl:z.cells.size=A9 P e:=by
   have:z.cells.toList.length=z.cells.size:=by simp
   omega
  refine⟨_,_,_,hk,Un (c:=madeCells z.cells (m.toNat*i.size)) (e:=e) (by simp) Dh (Ht.alloc w _ e) (fun j p hj=>?_) (.inr ⟨A9 P e,n.toNat,m.toNat,rfl,rfl,by omega,by rw[size_madeCells,A7x];exact Cs _,.inr (N6 w _ e)⟩)⟩
  obtain⟨h1,h2⟩:=FX hj;obtain⟨hT,u,Lz,h1',hv⟩:=hc _ p h2;refine⟨u,Ady ?_ ?_,h1',hv _ _⟩
  ·have:n.toNat*cs.length<=m.toNat*i.size:=by
    rw[Tq,A7x];exact Nat.mul_le_mul_right _ (by omega)
   omega
  ·rw[hzl,<-Tq]
   simpa using Lz
 ·cases hk
theorem Ank{p:PV}{v:Value}(hp:okP p=true)(hv:Fn w A β p v):Bj (Cj w A β) (cellsOf p) v.cells.toList:=by
 have one:v.oneCell'=true->Cj w A β p v->(∀x,p ≠ .agg x)->Bj (Cj w A β) (cellsOf p) v.cells.toList:=by
  intro h1 h2 h3;have:cellsOf p=[p]:=by cases p<;>first|rfl|exact absurd rfl (h3 _)
  rw[this,Q7 h1];exact⟨h2,trivial⟩
 unfold okP at hp;split at hp
 ·obtain⟨vs,rfl,h2⟩:=hv;exact h2
 ·refine one ?_ hv (by simp);have Tj:Au w A _ v:=hv;cases Tj<;>rfl
 ·refine one ?_ hv (by simp);rcases hv with⟨_,_,_,_,rfl⟩|⟨_,_,_,_,_,rfl,_⟩<;>rfl
 ·have:=JF hv;subst this;exact one rfl hv (by simp)
 ·have:=JF hv;subst this;exact one rfl hv (by simp)
 ·have:=JF hv;subst this;exact one rfl hv (by simp)
 ·have:=JF hv;subst this;exact one rfl hv (by simp)
 ·cases hp
theorem Ai0:∀(vs:List Value)(k off:Nat)(cells:Array Value),off+k+vs.length<=cells.size ->
  ((vs.zipIdx k).foldl (fun cs (q:Value × Nat)=>cs.setIfInBounds (off+q.2) q.1) cells).toList=cells.toList.take (off+k)++vs++cells.toList.drop (off+k+vs.length)
 |[],k,off,cells,_=>by simp
 |v::vs,k,off,cells,h=>by
  simp only[List.zipIdx_cons,List.foldl_cons,Po] at h ⊢;rw[Ai0 vs (k+1) off _ (by simp;omega)]
  have Cq:off+k<cells.toList.length:=by simp;omega
  simp only[Array.toList_setIfInBounds];rw[show off+(k+1)=off+k+1 from by omega,List.take_succ_eq_append_getElem (by simpa using Cq)];rw[List.getElem_set_self,List.take_set_of_le (Cs _),List.drop_set_of_lt (by omega)];simp only[Zzv,Zzp,NL];rw[show off+k+1+vs.length=off+k+(vs.length+1) from by omega]
theorem SN(h:Di N w0 X0 Y β s a w){Is:Nat->Option (Nat × Nat)}:∀{parts:List (Nat × Operand)} {pc:Ae}{vc:Array Value}{K:Ae->Option R},
  Zs Is (parts.map fun q=>(q.1,Cp s.tm q.2)) pc K=some r->Bj (Cj w (D2 s.hp β Y) β) pc vc.toList->(∀c∈pc,∀id∈At c,s.hp id≠none) ->
  ∃pc' vc',K pc'=some r/\Instr.fill Is vc (parts.map fun q=>(q.1,a.eval q.2))=some vc'/\Bj (Cj w (D2 s.hp β Y) β) pc' vc'.toList/\pc'.length=pc.length/\∀c∈pc',∀id∈At c,s.hp id≠none
 |[],pc,vc,K,hk,hv,hr=>⟨pc,vc,hk,rfl,hv,rfl,hr⟩
 |(i,x)::parts,pc,vc,K,hk,hv,hr=>by
  simp only[Vv] at hk;unfold Zs at hk;obtain⟨⟨off,size⟩,Vm,hk⟩:=Cw hk;obtain⟨hb,hk⟩:=Am hk;simp only[E0] at hb;obtain⟨⟨hok,Tq⟩,ET⟩:=hb;have Tq:(cellsOf (Cp s.tm x)).length=size:=Dc Tq;have ET:off+size<=pc.length:=Pf ET;have hxc:=Ank hok (Dr h x);have hxl:=hxc.len;have hvl:=hv.len;have X5:vc.toList.length=vc.size:=by simp
  have LI:(a.eval x).cells.toList.length=(a.eval x).cells.size:=by simp
  have Adx:=Ai0 (a.eval x).cells.toList 0 off vc (by omega);simp only[ZG] at Adx
  have A97:((a.eval x).cells.zipIdx.foldl (fun cs (q:Value × Nat)=>cs.setIfInBounds (off+q.2) q.1) vc).toList=vc.toList.take off++(a.eval x).cells.toList++vc.toList.drop (off+(a.eval x).cells.toList.length):=by
   rw[<-Adx,<-Array.foldl_toList];simp
  obtain⟨pc',vc',hk,hf,h2,hl,hr'⟩:=SN h (pc:=B5 pc (cellsOf (Cp s.tm x)) off) (vc:=(a.eval x).cells.zipIdx.foldl (fun cs (q:Value × Nat)=>cs.setIfInBounds (off+q.2) q.1) vc) hk (by
    rw[A97,<-hxl];exact (((hv.take off).app hxc).app (hv.drop _))) (by
    intro c hc id B1;unfold B5 at hc;rcases Bx.1 hc with hc|hc
    ·rcases Bx.1 hc with hc|hc
     ·exact hr c (List.mem_of_mem_take hc) id B1
     ·refine F7 h x id ?_;cases hp:Cp s.tm x with
      |agg cs=>rw[hp] at hc;exact List.mem_flatMap.2 ⟨c,hc,B1⟩
      |tup cs=>rw[hp] at hc;simp[cellsOf] at hc;subst hc;cases B1
      |_=>rw[hp] at hc;simp[cellsOf] at hc;subst hc;exact B1
    ·exact hr c (List.mem_of_mem_drop hc) id B1)
  refine⟨pc',vc',hk,?_,h2,?_,hr'⟩
  ·simp only[Vv,Instr.fill,Vm];rw[Br (by simp;omega)]
   exact hf
  ·rw[hl];simp[B5];omega
theorem Afg{t:TypeId}{z:Value}{cs:Ae}(hl:cs.length=z.cells.toList.length)(hc:∀(j:Nat) c,cs[j]?=some c->CJ c/\∃u,z.cells.toList[j]?=some u/\u.oneCell'=true/\∀(w:World)(A:Nat->Prop),Au w A c u)(_ht:T8 P t=some z):
  Bj (Cj w A β) cs z.cells.toList/\∀c∈cs,At c=[]:=by
 refine⟨Bj.of_at hl fun i c u hci hu=>?_,fun c hcm=>?_⟩
 ·obtain⟨hT,u',Lz,_,hv⟩:=hc i c hci;rw[hu] at Lz;cases Lz;exact (Pd hT).2 (hv _ _)
 ·obtain⟨j,hj⟩:=List.mem_iff_getElem?.1 hcm;exact Jk (hc j c hj).1
theorem QE:∀{fs:List Field},(fs.all fun f=>PB P f.type)=true->fs.mapM (fun f=>(P.info? f.type).map fun i=>(f.offset,i.size))=some (fs.map fun f=>(f.offset,A9 P f.type))
 |[],_=>rfl
 |f::fs,h=>by
  simp only[List.all_cons,E0] at h;obtain⟨i,hi⟩:=Option.isSome_iff_exists.1 h.1;simp[List.mapM_cons,hi,QE h.2,A9]
theorem DG{p q:Nat->Option (Nat × Nat)}(h:∀i,p i=q i)(cells:Array Value)(parts:List (Nat × Value)):Instr.fill p cells parts=Instr.fill q cells parts:=by have:p=q:=funext h;rw[this]
theorem Ae8(h:Di N w0 X0 Y β s a w){t:TypeId}{ps:Array (Nat × Operand)}(ho:o.op=.build t ps){K:PV->Option R}(hk:(Ar (U7 P t&&Ch P t)<|Iv P t fun z=>Zs (Vt P t) (ps.toList.map fun q=>(q.1,Cp s.tm q.2)) z fun cs=>Sj (Kc P t) cs 0 fun cs'=>K (.agg cs'))=some r):∃v,K v=some r/\Fg P a w o Y β s v [] []:=by
 obtain⟨Vm,hk⟩:=Am hk;simp only[E0] at Vm;obtain⟨Vm,Hj⟩:=Vm;obtain⟨z,cs,hk,hz,hct,hl,Tq,hc⟩:=Tn hk;obtain⟨hzr,PS⟩:=Afg (w:=w) (A:=D2 s.hp β Y) (β:=β) hl hc hz;obtain⟨pc',vc',hk,hf,h2,N2,hr'⟩:=SN h hk hzr (fun c hcm id B1=>by rw[PS c hcm] at B1;cases B1)
 obtain⟨qs,hk,hql,IM,hq⟩:=Yw hk
 have A28:P.built t (ps.toList.map fun q=>(q.1,a.eval q.2))=some vc':=by
  have hzi:∃i,P.info? t=some i/\i.zero=some z:=by
   unfold T8 at hz;cases hi:P.info? t with
   |none=>rw[hi] at hz;cases hz
   |some i=>rw[hi] at hz;exact⟨i,rfl,hz⟩
  obtain⟨i,hi,hzi⟩:=hzi;unfold U7 at Vm;unfold Program.built;split at Vm
  ·rename_i fs hu
   have hf':Instr.fill (((fs.toList.map fun f=>(f.offset,A9 P f.type)).toArray)[·]?) z.cells (ps.toList.map fun q=>(q.1,a.eval q.2))=some vc':=by
    rw[<-hf];refine DG (fun j=>?_) _ _;simp[Vt,hu]
   simp only[hi,hu,hzi,QE Vm];exact hf'
  ·rename_i n e hu;obtain⟨ie,hie⟩:=Option.isSome_iff_exists.1 Vm
   have hf':Instr.fill (fun j=>some (j*ie.size,ie.size)) z.cells (ps.toList.map fun q=>(q.1,a.eval q.2))=some vc':=by
    rw[<-hf];refine DG (fun j=>?_) _ _;simp[Vt,hu,A9,hie]
   simp only[hi,hu,hzi,hie];exact hf'
  ·rename_i e hu;simp[Ch,hu] at Hj
  ·cases Vm
 refine⟨_,hk,Ck (val:=.agg vc') ?_ ⟨vc'.toList,rfl,?_⟩ ?_⟩
 ·unfold execOp;rw[ho];have:=run_build (P:=P) w t (ps.map fun q=>(q.1,a.eval q.2)) vc' (by simpa using A28);simp[this]
 ·refine Bj.of_at (by have:=h2.len;omega) fun j c u hcj hu=>?_
  obtain⟨p,hp,_,_,IL⟩:=hq j c hcj;rw[Ip] at hp;exact (IL _ _ _ _ (h2.at_ hp hu)).1
 ·intro id B1;obtain⟨c,hcm,B1⟩:=List.mem_flatMap.1 (show id∈qs.flatMap At from B1);obtain⟨j,hj⟩:=List.mem_iff_getElem?.1 hcm;obtain⟨p,hp,_,hpr,_⟩:=hq j c hj;rw[Ip] at hp;exact hr' p (List.mem_of_getElem? hp) id (hpr id B1)
end
open Go.RowKit
section
variable {R:Type}{r:R}{P:Program}{N:Nat}{w0:World}{X0:J8}{Y:Nat->Prop}{β β':Bt}{s:St}{a:Act}{w w':World}{o:Oper}{A:Nat->Prop}
theorem Af7(h:Di N w0 X0 Y β s a w){fz:B2}(JP:∀id∈fz,∃f c,s.hp id=some (.ar f c)){id:Nat}(hm:id∈fz){f:Bool}{c:Ae}(hb:s.hp id=some (.ar f c)){b ob:Nat}(hβ:β id=some (b,ob)):
  ¬D2 (Af s.hp fz) β Y b/\RdT w (D2 (Af s.hp fz) β Y) ⟨b,ob,none⟩ c/\b<w.heap.size:=by
 have hf:=h.freeze JP;have he:Af s.hp fz id=some (.ar true c):=by rw[Cg,Cx hm,hb];rfl
 rcases hf.box id _ he with⟨h1,_⟩|⟨b',o',h1,h2,_,h4⟩
 ·rw[hβ] at h1;cases h1
 ·rw[hβ] at h1;simp at h1;obtain⟨rfl,rfl⟩:=h1;exact⟨h4 rfl,h2,h.blt id b ob (by rw[hb];simp) hβ⟩
theorem Aoa(h:Di N w0 X0 Y β s a w){fz:B2}(JP:∀id∈fz,∃f c,s.hp id=some (.ar f c)){id es off n:Nat}(hm:id∈fz){f:Bool}{c:Ae}(hb:s.hp id=some (.ar f c)){v:Value}(hv:Cj w (D2 s.hp β Y) β (.view id es off n) v):Au w (D2 (Af s.hp fz) β Y) (.lst false es n ((c.drop off).take (n*es))) v:=by
 rcases hv with⟨_,rfl,rfl,ad,rfl⟩|⟨b,ob,y,cap,hβ,rfl,hy,hn,_,Cq⟩
 ·simp only[Nat.zero_mul,List.take_zero];cases ad with
  |none=>exact Au.lnil false es
  |some p=>exact Au.lemp es p 0
 ·obtain⟨h1,h2,_⟩:=Af7 h JP hm hb hβ;by_cases IA:n*es=0
  ·rw[IA,List.take_zero];exact Au.lst es n [] ⟨b,y,none⟩ cap (fun _=>undef) rfl Cq h1 hn (by simp) (by simp) (by simp)
  ·have hy:y=ob+off:=by
    rcases hy with hy|⟨h0,_⟩
    ·exact hy
    ·rw[h0] at IA;simp at IA
   subst hy
   have hcell:∀(j:Nat) q,((c.drop off).take (n*es))[j]?=some q->c[off+j]?=some q:=by
    intro j q hq;rw[List.getElem?_take] at hq;split at hq
    ·rw[List.getElem?_drop] at hq;exact hq
    ·cases hq
   refine Au.lst es n _ ⟨b,ob+off,none⟩ cap (fun j=>(w.cell? ⟨b,ob+off+j,none⟩).getD undef) rfl Cq h1 hn (fun j q hq=>?_) (fun j q hq=>?_) (fun j q hq=>?_)
   ·obtain⟨v,hv,_⟩:=h2 _ q (hcell j q hq);rw[Fo,<-Ps] at hv;rw[Fo,hv];rfl
   ·obtain⟨v,hv,h3,_⟩:=h2 _ q (hcell j q hq);rw[Fo,<-Ps] at hv;rw[hv];exact h3
   ·obtain⟨v,hv,_,ht⟩:=h2 _ q (hcell j q hq);rw[Fo,<-Ps] at hv;rw[hv];exact ht
theorem Au.zf{A:Nat->Prop}{z:Bool}{es n:Nat}{c:Ae}{v:Value}(h:Au w A (.lst z es n c) v):Au w A (.lst false es n c) v:=by
 cases h with
 |lnil=>exact .lnil _ _
 |lemp=>exact .lemp _ _ _
 |lst _ _ _ a cap f hs hb hA hn hc h1 hr=>exact .lst _ _ _ a cap f hs hb hA hn hc h1 hr
theorem RR(h:Di N w0 X0 Y β s a w){t:CT}{p:PV}{K:PV->B2->Option R}(hk:Su (Mh s.hp) t p K=some r):
  ∃c m,K c m=some r/\CJ c/\UC p/\(∀id∈m,∃f cc,s.hp id=some (.ar f cc))/\∀fz:B2,(∀id∈m,id∈fz)->(∀id∈fz,∃f cc,s.hp id=some (.ar f cc))->∀v,Cj w (D2 s.hp β Y) β p v->Au w (D2 (Af s.hp fz) β Y) c v/\v.oneCell'=true:=by
 have tree:∀t',(IB t' p fun c=>K c [])=some r->∃c m,K c m=some r/\CJ c/\UC p/\(∀id∈m,∃f cc,s.hp id=some (.ar f cc))/\∀fz:B2,(∀id∈m,id∈fz)->(∀id∈fz,∃f cc,s.hp id=some (.ar f cc))->∀v,Cj w (D2 s.hp β Y) β p v->Au w (D2 (Af s.hp fz) β Y) c v/\v.oneCell'=true:=by
  intro t' hk;obtain⟨c,hk,hT,RQ,hv⟩:=Qs hk;refine⟨c,[],hk,hT,Wg RQ,by simp,fun fz _ JP v IL=>?_⟩;obtain⟨h1,h2⟩:=hv _ _ _ _ IL;exact⟨h1.step (Ct.refl _ _) (fun b _ hb=>hb.imp Vj id),h2⟩
 cases t with
 |sl es=>
  unfold Su at hk;dsimp only at hk;split at hk
  ·rename_i id es' off n;cases hb:Nat.beq es' es
   ·rw[hb] at hk;cases hk
   ·rw[hb] at hk;have:=Dc hb;subst this;obtain⟨c,hc,hk⟩:=Cw (show Dj _ _=some r from hk);obtain⟨_,hk⟩:=Am hk;obtain⟨f,Pm⟩:=XT hc;refine⟨_,[id],hk,trivial,trivial,?_,fun fz hm JP v hv=>⟨Aoa h JP (hm id (by simp)) Pm hv,?_⟩⟩
    ·intro i hi;simp at hi;subst hi;exact⟨f,c,Pm⟩
    ·rcases hv with⟨_,_,_,_,rfl⟩|⟨_,_,_,_,_,rfl,_⟩<;>rfl
  ·obtain⟨z,n,c,hk,hp⟩:=H4 hk;refine⟨_,[],hk,trivial,?_,by simp,fun fz _ JP v IL=>?_⟩
   ·rcases hp with rfl|⟨rfl,_⟩<;>trivial
   ·have ht:=DB hp IL;refine⟨Au.zf (ht.step (Ct.refl _ _) (fun b _ hb=>hb.imp Vj id)),?_⟩;cases ht<;>rfl
 |int k=>exact tree (.int k) hk
 |bool=>exact tree .bool hk
 |str=>exact tree .str hk
 |any=>exact tree .any hk
theorem Vg(h:Di N w0 X0 Y β s a w):∀{ts:List CT}{ps:Ae}{K:Ae->B2->Option R},Rr (Mh s.hp) ts ps K=some r ->
  ∃cs m,K cs m=some r/\cs.length=ts.length/\ps.length=ts.length/\(∀c∈cs,CJ c)/\(∀p∈ps,UC p)/\(∀id∈m,∃f cc,s.hp id=some (.ar f cc)) /\
   ∀fz:B2,(∀id∈m,id∈fz)->(∀id∈fz,∃f cc,s.hp id=some (.ar f cc))->∀vs,Bj (Cj w (D2 s.hp β Y) β) ps vs->Bj (Au w (D2 (Af s.hp fz) β Y)) cs vs/\∀v∈vs,v.oneCell'=true
 |[],[],K,hk=>⟨[],[],hk,rfl,rfl,by simp,by simp,by simp,fun fz _ _ vs hv=>by
   cases vs with
   |nil=>exact⟨trivial,by simp⟩
   |cons v vs=>exact hv.elim⟩
 |[],_::_,K,hk=>by cases hk
 |_::_,[],K,hk=>by cases hk
 |t::ts,p::ps,K,hk=>by
  unfold Rr at hk;obtain⟨c,m,hk,hT,hF,hm,hv⟩:=RR h hk;obtain⟨cs,ms,hk,hl,N2,hTs,hFs,OZ,X5⟩:=Vg h hk;refine⟨c::cs,m++ms,hk,by simp[hl],by simp[N2],?_,?_,?_,fun fz hfm JP vs h2=>?_⟩
  ·intro x hx;rcases List.mem_cons.1 hx with rfl|hx
   ·exact hT
   ·exact hTs x hx
  ·intro x hx;rcases List.mem_cons.1 hx with rfl|hx
   ·exact hF
   ·exact hFs x hx
  ·intro x hx;rcases Bx.1 hx with hx|hx
   ·exact hm x hx
   ·exact OZ x hx
  ·cases vs with
   |nil=>exact h2.elim
   |cons v vs=>
    obtain⟨h3,h4⟩:=hv fz (fun i hi=>hfm i (by simp[hi])) JP v h2.1;obtain⟨h5,h6⟩:=X5 fz (fun i hi=>hfm i (by simp[hi])) JP vs h2.2;refine⟨⟨h3,h5⟩,?_⟩;intro x hx;rcases List.mem_cons.1 hx with rfl|hx
    ·exact h4
    ·exact h6 x hx
theorem Ami{R':PV->Value->Prop}{cs:Ae}{z:Array Value}(h:Bj R' cs z.toList)(n:Nat):Bj R' (Si n cs) (madeCells z (n*cs.length)).toList:=by
 have hzl:z.size=cs.length:=by have:=h.len;simp at this;exact this.symm
 refine Bj.of_at ?_ fun j c v hc hv=>?_
 ·rw[Ae7];simp[size_madeCells]
 ·obtain⟨h1,h2⟩:=FX hc
  have Cq:j % cs.length<cs.length:=by
   rcases Ik (j % cs.length) cs.length with h|h
   ·exact h
   ·rw[List.getElem?_eq_none h] at h2;cases h2
  obtain⟨u,hu,hcu⟩:=h.get h2;have:(madeCells z (n*cs.length))[j]?=some u:=Ady h1 (by rw[hzl];simpa using hu)
  have Tj:(madeCells z (n*cs.length))[j]?=some v:=by simpa using hv
  rw[this] at Tj;cases Tj;exact hcu
theorem XA{A':Nat->Prop}:∀{ps cs:Ae}{vs:List Value},Bj (Cj w (D2 s.hp β Y) β) ps vs->Bj (Au w A') cs vs->Bj (Au w A') (Afb true ps cs) vs
 |[],_,_,_,h=>h
 |_::_,[],_,_,h=>h
 |p::ps,c::cs,[],_,h=>h.elim
 |p::ps,c::cs,v::vs,hp,h=>by
  refine⟨?_,XA hp.2 h.2⟩;split
  ·have h1:Au w (D2 s.hp β Y) (.lst true _ 0 []) v:=hp.1;cases h1;exact .lnil true _
  ·exact h.1
theorem KA(h:Di N w0 X0 Y β s a w){nz:Bool}{t:TypeId}{n:Nat}{ps:Array (Nat × Operand)}(ho:o.op=.buildSlice t n ps){d:Nat}{K:PV->B2->List (Nat × B7)->Option R}(hk:(match P.underlying t with
   |some (.slice e)=>Ar (U7 P t&&Nat.ble (n*A9 P e) 16777216) (Iv P e fun z=>Zs (Vt P t) (ps.toList.map fun q=>(q.1,Cp s.tm q.2)) (Si n z) fun cs=>
     Rr (Mh s.hp) (List.replicate n (Kc P e)).flatten cs fun cs' m=>K (.view d (A9 P e) 0 n) m [(d,.ar false (bif nz then Afb true cs cs' else cs'))])
   |_=>none)=some r):∃v fz nw,K v fz nw=some r/\Fg P a w o Y β s v fz nw:=by
 split at hk
 ·rename_i e hu;obtain⟨hb,hk⟩:=Am hk;simp only[E0] at hb;have ET:n*A9 P e<=16777216:=Pf hb.2;have Uc:(P.info? e).isSome=true:=by have:=hb.1;unfold U7 at this;rw[hu] at this;exact this
  obtain⟨z,cs,hk,hz,hct,hl,Tq,hc⟩:=Tn hk;obtain⟨hzr,PS⟩:=Afg (w:=w) (A:=D2 s.hp β Y) (β:=β) hl hc hz;have Bd5:=Ami hzr n
  obtain⟨pc',vc',hk,hf,h2,N2,hr'⟩:=SN h hk Bd5 (fun c hcm id B1=>by
   obtain⟨j,hj⟩:=List.mem_iff_getElem?.1 hcm;obtain⟨_,hg⟩:=FX hj;rw[PS c (List.mem_of_getElem? hg)] at B1;cases B1)
  obtain⟨qs,m,hk,hql,Vm,hqT,_,hm,hqv⟩:=Vg h hk;obtain⟨h3,h3'⟩:=hqv m (fun _ hi=>hi) hm _ h2
  have h3:Bj (Au w (D2 (Af s.hp m) β Y)) (bif nz then Afb true pc' qs else qs) vc'.toList:=by
   cases nz
   ·exact h3
   ·exact XA h2 h3
  have hf':Instr.fill (fun i=>some (i*A9 P e,A9 P e)) (madeCells z.cells (n*cs.length)) (ps.toList.map fun q=>(q.1,a.eval q.2))=some vc':=by
   rw[<-hf];refine DG (fun i=>?_) _ _;simp[Vt,hu]
  have hvl:vc'.size=n*A9 P e:=by
   have h4:=h2.len;rw[N2,Ae7] at h4;simp at h4;rw[<-h4,Tq]
  have Dh:(execOp a.eval o).run P w=.ok (.value (.slice (some ⟨w.heap.size,0,none⟩) n n)) (w.alloc (.cells vc' e)):=by
   unfold execOp;rw[ho];have A9g:¬(n*A9 P e>2 ^ 24):=by omega
   rw[Tq] at hf';by_cases IA:n*A9 P e=0
   ·simp only[Instr.buildSlice,Sem.run_bind,run_underlying hu,Result.andThen_ok,Dk Uc,Br A9g,IA];rw[IA] at hf';have e0:madeCells z.cells 0=(Array.range 0).map (fun _=>default):=by simp[madeCells]
    rw[e0] at hf';simp[hf',newRow]
   ·simp only[Instr.buildSlice,Sem.run_bind,run_underlying hu,Result.andThen_ok,Dk Uc,Br A9g,Br IA,BW hz];unfold madeCells at hf';simp[hf',newRow]
  refine⟨_,_,_,hk,Un (c:=vc') (e:=e) hm Dh (Ht.alloc w vc' e) (fun j p hj=>?_) (.inr ⟨A9 P e,n,n,rfl,rfl,Cs _,by rw[hvl];exact Cs _,.inr (N6 w vc' e)⟩)⟩
  obtain⟨u,Lz,hp⟩:=h3.get hj;exact⟨u,by simpa using Lz,h3' u (List.mem_of_getElem? Lz),hp⟩
 ·cases hk
theorem Aay(h:Di N w0 X0 Y β s a w){t:TypeId}{x k:Operand}{ok:Bool}(ho:o.op=.lookup t x k ok){K:PV->Option R}(hk:(match P.underlying t with
   |some (.map kt vt)=>Ar (match P.underlying kt with|some .string=>true|_=>false) (
    match Cp s.tm x with
    |.sc (.map none)=>Bu (Cp s.tm k) fun _=>Dj (T8 P vt) fun z=>cvK P vt z fun v=>Ar (match v with | .tup _=>false|_=>true) (K (bif ok then .tup [v,.sc (.bool false)] else v))
    |_=>none)
   |_=>none)=some r):∃v,K v=some r/\Fg P a w o Y β s v [] []:=by
 split at hk
 ·rename_i kt vt hu;obtain⟨hkt,hk⟩:=Am hk
  have hkt:P.underlying kt=some .string:=by
   split at hkt
   ·assumption
   ·cases hkt
  split at hk
  ·rename_i hx;obtain⟨b,hkk,hk⟩:=Eg hk;obtain⟨z,hz,hk⟩:=Cw hk;obtain⟨v,hk,hr,hv⟩:=Aix hk;obtain⟨hnt,hk⟩:=Am hk
   have hnt:∀cs,v ≠ .tup cs:=by
    rintro cs rfl
    cases hnt
   have hzr:∀w:World,(zeroValue vt).run P w=.ok z w:=by
    intro w;unfold T8 at hz;cases hi:P.info? vt with
    |none=>rw[hi] at hz;cases hz
    |some i=>
     rw[hi] at hz;simp[zeroValue,typeInfo,hi,show i.zero=some z from hz]
   have Dh:(execOp a.eval o).run P w=.ok (.value (if ok then .tuple #[z,.bool false] else z)) w:=by
    unfold execOp;rw[ho];have hck:∀c (n:Nat),(Instr.checkKey c (n+1) kt (.string b)).run P w=.ok () w:=fun c n=>by simp[Instr.checkKey,run_underlying hkt]
    have TB:∀c,(Instr.checkKey c 10000 kt (.string b)).run P w=.ok () w:=fun c=>hck c 9999;cases ok<;>simp[Instr.lookup,run_underlying hu,Co h hx,Co h hkk,TB,Instr.findKey,Instr.findNow,run_underlying hkt,hzr]
   refine⟨_,hk,Ck Dh ?_ ?_⟩
   ·cases ok
    ·exact hv _ _ _
    ·refine⟨[z,.bool false],rfl,(Sz hnt).1 (hv _ _ _),?_,trivial⟩;exact Au.sc _
   ·cases ok
    ·intro id B1;simp only[cond_false] at B1;rw[hr] at B1;cases B1
    ·intro id B1;have:Ci (.tup [v,.sc (.bool false)])=Cy v++[]:=by simp[Ci,Cy,At]
     simp only[cond_true] at B1;rw[this,List.append_nil] at B1;have e:Cy v=Ci v:=by cases v<;>first|rfl|exact absurd rfl (hnt _)
     rw[e,hr] at B1;cases B1
  ·cases hk
 ·cases hk
end
end
end
end Go.Proofs.YtamoegpkglhedaaGreatDoor.Pv
