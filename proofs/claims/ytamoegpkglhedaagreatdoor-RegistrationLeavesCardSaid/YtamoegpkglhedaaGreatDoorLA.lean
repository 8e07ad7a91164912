/-
  The proof of RegistrationLeaves, part 1.
-/
import Derived.Orders
import Derived.LoopN
import Derived.Below
import Derived.Laws.Cover4
import Derived.Lib.ValidU
import Derived.Lib.Bytealg
import Derived.IntWalk
import Derived.WalkKit
import Derived.WalkLawsBesides
import Derived.Laws.IdiomStrings
import Derived.Laws.MakeOwn
import Derived.Laws.Tables
set_option linter.unusedSimpArgs false
set_option linter.unusedVariables false
namespace Go.Proofs.YtamoegpkglhedaaGreatDoor.Pv
set_option maxRecDepth 1000000
noncomputable section
theorem Hn:type_of% @Bool.not_true:=@Bool.not_true
theorem Km:type_of% @Bool.not_false:=@Bool.not_false
theorem J6:type_of% @Nat.mul_one:=@Nat.mul_one
theorem Ig:type_of% @Nat.zero_add:=@Nat.zero_add
theorem Ou:type_of% @List.drop_zero.{0}:=@List.drop_zero
theorem Ji:type_of% @List.take_of_length_le.{0}:=@List.take_of_length_le
theorem Xk:type_of% @List.length_append.{0}:=@List.length_append
theorem LP:type_of% @List.length_nil.{0}:=@List.length_nil
theorem On:type_of% @List.length_cons.{0}:=@List.length_cons
theorem Jg:type_of% @Int.toNat_natCast:=@Int.toNat_natCast
theorem Bl:type_of% @if_neg.{1}:=@if_neg
theorem Cy:type_of% @if_pos.{1}:=@if_pos
theorem WU:type_of% @Bool.true_and:=@Bool.true_and
theorem Zzp:type_of% @List.cons_append.{0}:=@List.cons_append
theorem NK:type_of% @List.nil_append.{0}:=@List.nil_append
theorem YI:type_of% @Nat.add_zero:=@Nat.add_zero
theorem RH:type_of% @Bool.false_and:=@Bool.false_and
theorem Zzv:type_of% @List.append_assoc.{0}:=@List.append_assoc
theorem U7:type_of% @List.map_cons.{0,0}:=@List.map_cons
theorem Er:type_of% @Bool.and_eq_true:=@Bool.and_eq_true
theorem Xi:type_of% @decide_eq_true_eq:=@decide_eq_true_eq
theorem C6:type_of% @Nat.eq_of_beq_eq_true:=@Nat.eq_of_beq_eq_true
theorem Bn:type_of% @List.mem_append.{0}:=@List.mem_append
theorem Kb:type_of% @List.flatMap_cons.{0,0}:=@List.flatMap_cons
theorem Th:type_of% @List.mem_singleton_self.{0}:=@List.mem_singleton_self
theorem Gb:type_of% @Nat.lt_of_lt_of_le:=@Nat.lt_of_lt_of_le
theorem Uf:type_of% @List.mem_cons_of_mem.{0}:=@List.mem_cons_of_mem
theorem Oj:type_of% @Nat.le_of_ble_eq_true:=@Nat.le_of_ble_eq_true
theorem Id:type_of% @Nat.lt_or_ge:=@Nat.lt_or_ge
theorem Sc:type_of% @List.mem_singleton.{0}:=@List.mem_singleton
theorem Cn:type_of% @Nat.le_refl:=@Nat.le_refl
theorem Pi:type_of% @Nat.add_assoc:=@Nat.add_assoc
theorem Qi:type_of% @Nat.beq_refl:=@Nat.beq_refl
theorem CG:type_of% @List.mem_cons_self.{0}:=@List.mem_cons_self
inductive PV where
 |sc (v:Value)
 |lst (z:Bool) (es n:Nat) (cells:List PV)
 |own (es n:Nat) (cells:List PV)
 |view (id es off n:Nat)
 |ptr (id off:Nat)
 |iptr (cells:List PV) (off:Nat)
 |pbox (cells:List PV)
 |agg (cells:List PV)
 |tup (vs:List PV)
 |top
 |ub
abbrev Ad:=List PV
abbrev Aj:=List Int
abbrev Bz:=List Nat
inductive B2 where
 |st (cells:Ad)
 |ar (fz:Bool) (cells:Ad)
 |mv
structure St where
 tm:Nat->PV
 hp:Nat->Option B2
structure A1 where
 vals:Ad
 outs:List Ad
structure Gw where
 shr:FuncId->Bool
 mvd:FuncId->Nat->Bool
 lnd:FuncId->Nat->Bool
 kz:FuncId->Bool
 ext:FuncId->Option (Ad->Option A1)
 nz:Nat->Bool
def Gw.core(C:Gw):Gw:={ C with ext:=fun _=>none }
def C7{α:Type}(f:Nat->α)(i:Nat)(v:α):Nat->α:=fun j=>bif Nat.beq j i then v else f j
def rd(hp:Nat->Option B2)(id:Nat):Option Ad:=
 match hp id with
 |some (.st c)=>some c
 |some (.ar _ c)=>some c
 |_=>none
def Mm(hp:Nat->Option B2)(id:Nat):Option Ad:=
 match hp id with
 |some (.ar _ c)=>some c
 |_=>none
inductive CT where
 |int (k:IntKind)
 |bool
 |str
 |sl (es:Nat)
 |any
def A7(P:Program)(t:TypeId):Nat:=((P.info? t).map (·.size)).getD 0
def Cj(P:Program)(t:TypeId):Bool:=
 match P.underlying t with
 |some (.struct _)=>true
 |some (.array _ _)=>true
 |_=>false
def A1c(P:Program):Nat->TypeId->List CT
 |0,_=>[]
 |d+1,t=>
  match P.underlying t with
  |some (.int k)=>[.int k]
  |some .bool=>[.bool]
  |some .string=>[.str]
  |some (.slice e)=>[.sl (A7 P e)]
  |some (.struct fs)=>fs.toList.flatMap fun f=>A1c P d f.type
  |some (.array n e)=>(List.replicate n (A1c P d e)).flatten
  |_=>[.any]
abbrev J7(P:Program)(t:TypeId):List CT:=A1c P 9 t
def K6(P:Program)(t:TypeId):Bool:=(P.underlying t).isSome&&Nat.beq (J7 P t).length (A7 P t)
abbrev D3(k:IntKind)(a b:Int):Int:=k.wrap (BitVec.ofInt k.bits a &&& BitVec.ofInt k.bits b).toNat
abbrev CQ(k:IntKind)(a b:Int):Int:=k.wrap (BitVec.ofInt k.bits a ||| BitVec.ofInt k.bits b).toNat
abbrev D7(k:IntKind)(a b:Int):Int:=k.wrap (BitVec.ofInt k.bits a ^^^ BitVec.ofInt k.bits b).toNat
abbrev Zx(k:IntKind)(a b:Int):Int:=k.wrap (BitVec.ofInt k.bits a &&& ~~~BitVec.ofInt k.bits b).toNat
abbrev Fb(k:IntKind)(a b:Int):Int:=k.wrap (a*2 ^ (min b.toNat k.bits))
abbrev Gl(k:IntKind)(a b:Int):Int:=a.fdiv (2 ^ (min b.toNat k.bits))
abbrev A7t(k:IntKind)(n:Int):Int:=k.wrap (BitVec.ofInt k.bits (if k.signed then -1 else k.max) ^^^ BitVec.ofInt k.bits n).toNat
section
variable {R:Type}
def Bc(k:IntKind)(p:PV)(K:Int->Option R):Option R:=
 match p with
 |.sc (.int k' n)=>if k'=k then K n else none
 |_=>none
def Bu(p:PV)(K:Bool->Option R):Option R:=
 match p with
 |.sc (.bool b)=>K b
 |_=>none
def Bv(p:PV)(K:ByteArray->Option R):Option R:=
 match p with
 |.sc (.string s)=>K s
 |_=>none
def Xd(es:Nat)(p:PV)(K:Bool->Nat->Ad->Option R):Option R:=
 match p with
 |.lst z es' n c=>bif Nat.beq es' es then K z n c else none
 |.sc (.slice none 0 0)=>K true 0 []
 |_=>none
def fsK(es:Nat)(p:PV)(K:PV->Option R):Option R:=
 match p with
 |.view id es' off n=>bif Nat.beq es' es then K (.view id es off n) else none
 |p=>Xd es p fun z n c=>K (.lst z es n c)
def Lg(es:Nat)(p:PV)(K:Nat->Ad->Option R):Option R:=
 match p with
 |.own es' n c=>bif Nat.beq es' es then K n c else none
 |_=>none
def Ar(b:Bool)(K:Option R):Option R:=bif b then K else none
abbrev Aa{α:Type}(x:α)(K:α->Option R):Option R:=K x
def KV(b:Bool)(x y:Option R):Option R:=bif b then x else y
abbrev Bbe(x:Nat)(K:Nat->Option R):Option R:=K x
def Aor(x:List Bz)(K:List Bz->Option R):Option R:=K x
def Ax(b:Bool)(x y:Option R):Option R:=bif b then x else y
def Ds{α:Type}(o:Option α)(K:α->Option R):Option R:=
 match o with
 |some a=>K a
 |none=>none
def Ai{α:Type}(l:List α)(K:α->List α->Option R):Option R:=
 match l with
 |a::r=>K a r
 |[]=>none
def Ap{α:Type}(l:List α)(K:Option R):Option R:=
 match l with
 |[]=>K
 |_::_=>none
def Ep(p:PV)(K:Ad->Option R):Option R:=
 match p with
 |.agg c=>K c
 |_=>none
def BI(p:PV)(K:Ad->Option R):Option R:=
 match p with
 |.pbox c=>K c
 |_=>none
def Bm(r:Option A1)(K:Ad->List Ad->Option R):Option R:=
 match r with
 |some ⟨v,o⟩=>K v o
 |none=>none
def fnK(p:PV)(K:Value->Option R):Option R:=
 match p with
 |.sc (.func f a b)=>K (.func f a b)
 |.sc (.map none)=>K (.map none)
 |_=>none
def fvK(p:PV)(K:FuncId->Option R):Option R:=
 match p with
 |.sc (.func (.func f) a b)=>bif a.isEmpty&&b.isEmpty then K f else none
 |_=>none
def IJ(t:CT)(p:PV)(K:PV->Option R):Option R:=
 match t with
 |.int k=>Bc k p fun n=>K (.sc (.int k n))
 |.bool=>Bu p fun b=>K (.sc (.bool b))
 |.str=>Bv p fun s=>K (.sc (.string s))
 |.sl es=>Xd es p fun z n c=>K (.lst z es n c)
 |.any=>fnK p fun v=>K (.sc v)
def fcK(t:CT)(p:PV)(K:PV->Option R):Option R:=
 match t with
 |.sl es=>fsK es p K
 |t=>IJ t p K
def Wn:List CT->Ad->Nat->(Ad->Option R)->Option R
 |[],_,_,K=>K []
 |t::ts,cells,off,K=>IJ t (cells.getD off .top) fun c=>Wn ts cells (off+1) fun r=>K (c::r)
def R5:List CT->Ad->Nat->(Ad->Option R)->Option R
 |[],_,_,K=>K []
 |t::ts,cells,off,K=>fcK t (cells.getD off .top) fun c=>R5 ts cells (off+1) fun r=>K (c::r)
def mkV(agg:Bool)(cells:Ad)(K:PV->Option R):Option R:=
 bif agg then K (.agg cells) else Ai cells fun c r=>Ap r (K c)
def cellsOf:PV->Ad
 |.agg c=>c
 |p=>[p]
def cvK(P:Program)(t:TypeId)(v:Value)(K:PV->Option R):Option R:=
 match v with
 |.agg cs=>Ar (Nat.beq cs.toList.length (J7 P t).length) (Wn (J7 P t) (cs.toList.map .sc) 0 fun c=>K (.agg c))
 |.slice none 0 0=>
  match P.underlying t with
  |some (.slice e)=>K (.lst true (A7 P e) 0 [])
  |_=>none
 |v=>K (.sc v)
end
def Ck(tm:Nat->PV):Operand->PV
 |.tmp t=>tm t
 |.const (.agg cs)=>.agg (cs.toList.map .sc)
 |.const v=>.sc v
 |.func f=>.sc (.func (.func f) #[] #[])
 |.global g=>.sc (.pointer (some ⟨g,0,none⟩))
section
variable {R:Type}
def Ea(p:PV)(K:IntKind->Int->Option R):Option R:=
 match p with
 |.sc (.int k n)=>K k n
 |_=>none
def Adf(rdf:Nat->Option Ad)(es:Nat)(p:PV)(K:Nat->Ad->Option R):Option R:=
 match p with
 |.view id es' off n=>bif Nat.beq es' es then Ds (rdf id) fun c=>Ar (decide (off+n*es<=c.length)) (K n ((c.drop off).take (n*es))) else none
 |p=>Xd es p fun _ n c=>K n c
def R6(rdf:Nat->Option Ad)(t:CT)(p:PV)(K:PV->Bz->Option R):Option R:=
 match t with
 |.sl es=>
  match p with
  |.view id es' off n=>bif Nat.beq es' es then Ds (rdf id) fun c=>Ar (decide (off+n*es<=c.length)) (K (.lst false es n ((c.drop off).take (n*es))) [id]) else none
  |p=>Xd es p fun _ n c=>K (.lst false es n c) []
 |t=>IJ t p fun c=>K c []
def Rn(rdf:Nat->Option Ad):List CT->Ad->(Ad->Bz->Option R)->Option R
 |[],[],K=>K [] []
 |t::ts,p::ps,K=>R6 rdf t p fun c m=>Rn rdf ts ps fun cs ms=>K (c::cs) (m++ms)
 |_,_,_=>none
def Ach(k:Bool):Ad->Ad->Ad
  |p::ps,c::cs=>
    (match k,p with
     |true,.lst true es 0 []=>.lst true es 0 []
     |_,_=>c)::Ach k ps cs
  |_,cs=>cs
def Af9(P:Program)(rdf:Nat->Option Ad)(t:TypeId)(p:PV)(K:PV->Bz->Option R):Option R:=
 bif Cj P t then Ep p fun ps=>Rn rdf (J7 P t) ps fun cs m=>K (.agg cs) m
 else Rn rdf (J7 P t) [p] fun cs m=>Ai cs fun c r=>Ap r (K c m)
def OQ(P:Program)(rdf:Nat->Option Ad):List TypeId->Ad->(Ad->Bz->Option R)->Option R
 |[],[],K=>K [] []
 |t::ts,p::ps,K=>Af9 P rdf t p fun v m=>OQ P rdf ts ps fun vs ms=>K (v::vs) (m++ms)
 |_,_,_=>none
def Are(shr:Bool)(id:Nat)(t:CT)(p:PV)(K:PV->List (Nat × B2)->Option R):Option R:=
 match t with
 |.sl es=>bif shr then Xd es p fun _ n c=>K (.lst false es n c) [] else Lg es p fun n c=>K (.view id es 0 n) [(id,.ar false c)]
 |t=>IJ t p fun c=>K c []
def Uc(shr:Bool)(N:Nat):Nat->List CT->Ad->(Ad->List (Nat × B2)->Option R)->Option R
 |_,[],ps,K=>Ap ps (K [] [])
 |id,t::ts,ps,K=>Ai ps fun p ps=>Are shr id t p fun c b=>Uc shr N (id+N) ts ps fun cs bs=>K (c::cs) (b++bs)
def FP(P:Program)(t:TypeId):Option TypeId:=
 match P.underlying t with
 |some (.pointer e)=>some e
 |_=>none
def Ade(P:Program)(t:TypeId):Nat:=
 match FP P t with
 |some e=>1+(J7 P e).length
 |none=>(J7 P t).length
def Ak0(P:Program)(shr:Bool)(N:Nat)(id:Nat)(t:TypeId)(p:PV)(K:PV->List (Nat × B2)->Option R):Option R:=
 match FP P t with
 |some e=>BI p fun ps=>Uc shr N (id+N) (J7 P e) ps fun cs bs=>K (.ptr id 0) ((id,.st cs)::bs)
 |none=>
 bif Cj P t then Ep p fun ps=>Uc shr N id (J7 P t) ps fun cs bs=>K (.agg cs) bs
 else Uc shr N id (J7 P t) [p] fun cs bs=>Ai cs fun c r=>Ap r (K c bs)
def KG(P:Program)(shr:Bool)(N:Nat):Nat->List TypeId->Ad->(Ad->List (Nat × B2)->Option R)->Option R
 |_,[],ps,K=>Ap ps (K [] [])
 |id,t::ts,ps,K=>Ai ps fun p ps=>Ak0 P shr N id t p fun v bs=>KG P shr N (id+N*Ade P t) ts ps fun vs bs'=>K (v::vs) (bs++bs')
def Rh(P:Program)(t:TypeId):List TypeId:=
 match P.underlying t with
 |some (.tuple ts)=>ts.toList
 |_=>[t]
def Ra(vs:Ad)(t:Bool):PV:=bif t then .tup vs else vs.headD .top
def Sy(P:Program)(t:TypeId):Bool:=
 match P.underlying t with
 |some (.tuple _)=>true
 |_=>false
def As7(op:BinOp)(a b:Int)(K:Bool->Option R):Option R:=
 match op with
 |.eql=>K (a==b)
 |.neq=>K (a != b)
 |.lss=>K (decide (a<b))
 |.leq=>K (decide (a<=b))
 |.gtr=>K (decide (a>b))
 |.geq=>K (decide (a>=b))
 |_=>none
def QZ(op:BinOp)(k:IntKind)(a b:Int)(K:PV->Option R):Option R:=
 match op with
 |.add=>Aa ((k.wrap (a+b))) fun n=>K (.sc (.int k n))
 |.sub=>Aa ((k.wrap (a-b))) fun n=>K (.sc (.int k n))
 |.mul=>Aa ((k.wrap (a*b))) fun n=>K (.sc (.int k n))
 |.quo=>Ar (decide (b≠0)) (Aa ((k.wrap (a.tdiv b))) fun n=>K (.sc (.int k n)))
 |.rem=>Ar (decide (b≠0)) (Aa ((a.tmod b)) fun n=>K (.sc (.int k n)))
 |.and=>Aa (D3 k a b) fun n=>K (.sc (.int k n))
 |.or=>Aa (CQ k a b) fun n=>K (.sc (.int k n))
 |.xor=>Aa (D7 k a b) fun n=>K (.sc (.int k n))
 |.andNot=>Aa (Zx k a b) fun n=>K (.sc (.int k n))
 |op=>As7 op a b fun r=>K (.sc (.bool r))
def QO(op:BinOp)(x y:ByteArray)(K:PV->Option R):Option R:=
 match op with
 |.add=>Ar (decide (x.size+y.size<=9223372036854775807)) (Aa (x++y) fun s=>K (.sc (.string s)))
 |.eql=>K (.sc (.bool (x.data.toList==y.data.toList)))
 |.neq=>K (.sc (.bool !(x.data.toList==y.data.toList)))
 |.lss=>K (.sc (.bool (Op.bytesLess x.data.toList y.data.toList)))
 |.leq=>K (.sc (.bool (Op.bytesLess x.data.toList y.data.toList||x.data.toList==y.data.toList)))
 |.gtr=>K (.sc (.bool !(Op.bytesLess x.data.toList y.data.toList||x.data.toList==y.data.toList)))
 |.geq=>K (.sc (.bool !(Op.bytesLess x.data.toList y.data.toList)))
 |_=>none
def QK(e:Bool)(p:PV)(K:PV->Option R):Option R:=
 match p with
 |.sc (.slice none 0 0)=>K (.sc (.bool e))
 |.lst z _ n _=>Ax z (K (.sc (.bool e))) (Ax (decide (0<n)) (K (.sc (.bool !e))) (K .ub))
 |.view _ _ _ n=>Ax (decide (0<n)) (K (.sc (.bool !e))) (K .ub)
 |_=>none
def Abt(P:Program):List Field->Nat->Bool
 |[],_=>true
 |f::r,i=>Nat.beq f.offset i&&(f.name != "_")&&(match P.underlying f.type with|some (.int _)=>true|some .bool=>true|some .string=>true|_=>false)&&Abt P r (i+1)
def Rl(P:Program):List Field->Nat->Bool
  |[],_=>true
  |f::r,i=>Nat.beq f.offset i&&(f.name != "_") &&
    (match P.underlying f.type with
     |some (.int _)=>Rl P r (i+1)
     |some .bool=>Rl P r (i+1)
     |some .string=>Rl P r (i+1)
     |some (.struct gs)=>Abt P gs.toList 0 && !P.stoodInHeld f.type&&(P.info? f.type).isSome&&Nat.beq (A7 P f.type) gs.size&&Rl P r (i+gs.size)
     |_=>false)
def XG(P:Program)(t:TypeId)(fs:Array Field):Bool:=Rl P fs.toList 0 && !P.stoodInHeld t && !P.eqGuardType P.depth t
def fty(P:Program)(f:Field):CT:=
 match P.underlying f.type with
 |some (.int k)=>.int k
 |some .bool=>.bool
 |some .string=>.str
 |_=>.any
def Abf(P:Program)(f:Field):List CT:=
 match P.underlying f.type with
 |some (.struct gs)=>gs.toList.map (fty P)
 |_=>[fty P f]
def BJ(P:Program):List Field->List CT
 |[]=>[]
 |f::r=>Abf P f++BJ P r
def Oa:List CT->Ad->Ad->(Bool->Option R)->Option R
 |[],[],[],K=>K true
 |.int k::ts,p::ps,q::qs,K=>Bc k p fun a=>Bc k q fun b=>Oa ts ps qs fun r=>K ((a==b)&&r)
 |.bool::ts,p::ps,q::qs,K=>Bu p fun a=>Bu q fun b=>Oa ts ps qs fun r=>K ((a==b)&&r)
 |.str::ts,p::ps,q::qs,K=>Bv p fun a=>Bv q fun b=>Oa ts ps qs fun r=>K ((a==b)&&r)
 |_,_,_,_=>none
def Aqq(P:Program)(op:BinOp)(t:TypeId)(x y:PV)(K:PV->Option R):Option R:=
 match P.underlying t with
 |some (.int k)=>
  match op with
  |.shl=>Bc k x fun a=>Ea y fun _ b=>Ar (decide (0<=b)) (Aa (Fb k a b) fun n=>K (.sc (.int k n)))
  |.shr=>Bc k x fun a=>Ea y fun _ b=>Ar (decide (0<=b)) (Aa (Gl k a b) fun n=>K (.sc (.int k n)))
  |op=>Bc k x fun a=>Bc k y fun b=>QZ op k a b K
 |some .string=>Bv x fun a=>Bv y fun b=>QO op a b K
 |some .bool=>
  match op with
  |.eql=>Bu x fun a=>Bu y fun b=>K (.sc (.bool (a==b)))
  |.neq=>Bu x fun a=>Bu y fun b=>K (.sc (.bool !(a==b)))
  |_=>none
 |some (.slice _)=>
  match op,y with
  |.eql,.sc (.slice none 0 0)=>QK true x K
  |.neq,.sc (.slice none 0 0)=>QK false x K
  |_,_=>none
 |some (.map _ _)=>
  match op,x,y with
  |.eql,.sc (.map none),.sc (.map none)=>K (.sc (.bool true))
  |.neq,.sc (.map none),.sc (.map none)=>K (.sc (.bool false))
  |_,_,_=>none
 |_=>none
def Zq(P:Program)(op:BinOp)(t:TypeId)(x y:PV)(K:PV->Option R):Option R:=
 match P.underlying t with
 |some (.struct fs)=>
  match op with
  |.eql=>Ar (XG P t fs) (Ep x fun xs=>Ep y fun ys=>Oa (BJ P fs.toList) xs ys fun b=>K (.sc (.bool b)))
  |.neq=>Ar (XG P t fs) (Ep x fun xs=>Ep y fun ys=>Oa (BJ P fs.toList) xs ys fun b=>K (.sc (.bool !b)))
  |_=>none
 |_=>Aqq P op t x y K
def unK(op:UnOp)(x:PV)(K:PV->Option R):Option R:=
 match op with
 |.not=>Bu x fun b=>K (.sc (.bool !b))
 |.neg=>Ea x fun k n=>Aa (k.wrap (0-n)) fun n=>K (.sc (.int k n))
 |.xor=>Ea x fun k n=>Aa (A7t k n) fun n=>K (.sc (.int k n))
 |_=>none
def bytesOf:Ad->Option (List UInt8)
 |[]=>some []
 |.sc (.int .u8 n)::r=>(bytesOf r).map (n.toNat.toUInt8 :: ·)
 |_::_=>none
def Ze:Ad->Option Aj
 |[]=>some []
 |.sc (.int .i32 n)::r=>(Ze r).map (n :: ·)
 |_::_=>none
def Dl(s:ByteArray):Ad:=s.data.toList.map fun b=>.sc (.int .u8 b.toNat)
def PI(P:Program)(rdf:Nat->Option Ad)(d:Nat)(src dst:TypeId)(x:PV)(K:PV->List (Nat × B2)->Option R):Option R:=
 match P.underlying dst with
 |some (.int k)=>Ar (P.underlying src).isSome (Ea x fun _ n=>Aa (k.wrap n) fun n=>K (.sc (.int k n)) [])
 |some .string=>
  match P.underlying src with
  |some .string=>Bv x fun s=>K (.sc (.string s)) []
  |some (.slice e)=>
   match P.underlying e with
   |some (.int .u8)=>Adf rdf 1 x fun n c=>Ar (decide (c.length=n)) (Ds (bytesOf c) fun b=>K (.sc (.string ⟨b.toArray⟩)) [])
   |some (.int .i32)=>Adf rdf 1 x fun n c=>Ar (decide (c.length=n)) (Ds (Ze c) fun ns=>Aa (runesBytes ns) fun s=>K (.sc (.string s)) [])
   |_=>none
  |_=>none
 |some (.slice e)=>
  match P.underlying e,P.underlying src with
  |some (.int .u8),some .string=>Bv x fun s=>Ar (decide (s.size<=1099511627776)) (K (.view d 1 0 s.size) [(d,.ar false (Dl s))])
  |_,_=>none
 |_=>none
def Ie(p:Option PV)(dflt:Nat)(K:Nat->Option R):Option R:=
 match p with
 |none=>K dflt
 |some p=>Ea p fun _ i=>Ar (decide (0<=i)) (K i.toNat)
def IL(P:Program)(rdf:Nat->Option Ad)(t:TypeId)(x:PV)(lo hi:Option PV)(K:PV->Option R):Option R:=
 match P.underlying t with
 |some .string=>Bv x fun s=>Ie lo 0 fun l=>Ie hi s.size fun h=>Ar (decide (l<=h)&&decide (h<=s.size)) (Aa (s.extract l h) fun s=>K (.sc (.string s)))
 |some (.slice e)=>Ar (P.info? e).isSome (
  match x with
  |.view id es off n=>Ar (Nat.beq es (A7 P e)) (Ie lo 0 fun l=>Ie hi n fun h=>Ar (decide (l<=h)&&decide (h<=n)) (Aa (off+l*es) fun o=>Aa (h-l) fun n=>K (.view id es o n)))
  |x=>Xd (A7 P e) x fun z n c=>Ie lo 0 fun l=>Ie hi n fun h=>Ar (decide (l<=h)&&decide (h<=n)) (Aa (h-l) fun n=>Aa ((c.drop (l*A7 P e)).take (n*A7 P e)) fun c=>K (.lst z (A7 P e) n c)))
 |some (.array n e)=>Ar (P.info? e).isSome (
  match x with
  |.ptr id off=>Ds (rdf id) fun c=>Ar (decide (1<=n*A7 P e)&&decide (off+n*A7 P e<=c.length)&&Nat.beq (A7 P e) 1)<|Ie lo 0 fun l=>Ie hi n fun h=>Ar (decide (l<=h)&&decide (h<=n)) (Aa (off+l*A7 P e) fun o=>Aa (h-l) fun n=>K (.view id (A7 P e) o n))
  |_=>none)
 |_=>none
def Zz(P:Program)(d:Nat)(t:TypeId)(x:PV)(lo hi mx:Option PV)(K:PV->List (Nat × B2)->Option R):Option R:=
 match P.underlying t with
 |some (.slice e)=>Ar ((P.info? e).isSome&&hi.isSome) (
  match x with
  |.view _ es _ n=>Ar (Nat.beq es (A7 P e)) (Ie lo 0 fun l=>Ie hi n fun h=>Ie mx n fun m=>Ar (Nat.beq l m&&Nat.beq h m&&decide (m<=n)) (K (.view d (A7 P e) 0 0) [(d,.ar false [])]))
  |x=>Xd (A7 P e) x fun _ n _=>Ie lo 0 fun l=>Ie hi n fun h=>Ie mx n fun m=>Ar (Nat.beq l m&&Nat.beq h m&&decide (m<=n)) (K (.view d (A7 P e) 0 0) [(d,.ar false [])]))
 |_=>none
def Zb(x:PV)(d:Nat)(K:PV->Option R):Option R:=
 match x with
 |.ptr id off=>K (.ptr id (off+d))
 |.iptr c off=>K (.iptr c (off+d))
 |_=>none
def QR(P:Program)(e:TypeId):Bool:=(P.info? e).isSome
def Uj(P:Program)(t:TypeId)(f:Nat):Option (Nat × TypeId):=
 match P.underlying t with
 |some (.struct fs)=>(fs[f]?).map fun g=>(g.offset,g.type)
 |_=>none
def Nq(P:Program)(t:TypeId)(x:PV)(i:Int)(K:PV->Option R):Option R:=
 match P.underlying t with
 |some (.array n e)=>Ar (QR P e) (Ar (decide (0<=i)&&decide (i<n)) (Zb x (i.toNat*A7 P e) K))
 |some (.slice e)=>Ar (QR P e) (
  match x with
  |.view id es off n=>Ar (Nat.beq es (A7 P e)) (Ar (decide (0<=i)&&decide (i<n)) (K (.ptr id (off+i.toNat*es))))
  |x=>Xd (A7 P e) x fun _ n c=>Ar (decide (0<=i)&&decide (i<n)) (K (.iptr c (i.toNat*A7 P e))))
 |_=>none
def BM(P:Program)(rdf:Nat->Option Ad)(t:TypeId)(x:PV)(K:PV->Option R):Option R:=
 match x with
 |.ptr id off=>Ar (K6 P t) (Ds (rdf id) fun c=>R5 (J7 P t) c off fun cs=>mkV (Cj P t) cs K)
 |.iptr c off=>Ar (K6 P t) (Wn (J7 P t) c off fun cs=>mkV (Cj P t) cs K)
 |_=>none
def WY:PV->PV
 |.lst _ es n c=>.lst false es n c
 |p=>p
def Afa:PV->PV
 |.agg cs=>.agg (cs.map WY)
 |p=>WY p
def EO(nz:Bool)(P:Program)(rdf rdaf:Nat->Option Ad)(t:TypeId)(x:PV)(K:PV->Option R):Option R:=
 match x with
 |.ptr id off=>Ar (K6 P t) (
  match rdaf id with
  |some c=>Wn (J7 P t) c off fun cs=>mkV (Cj P t) cs fun v=>K (bif nz then v else Afa v)
  |none=>Ds (rdf id) fun c=>R5 (J7 P t) c off fun cs=>mkV (Cj P t) cs K)
 |.iptr c off=>Ar (K6 P t) (Wn (J7 P t) c off fun cs=>mkV (Cj P t) cs fun v=>K (bif nz then v else Afa v))
 |_=>none
def B1(cells new:Ad)(off:Nat):Ad:=cells.take off++new++cells.drop (off+new.length)
def okP:PV->Bool
 |.agg _=>true
 |.lst _ _ _ _=>true
 |.view _ _ _ _=>true
 |.sc (.int _ _)=>true
 |.sc (.bool _)=>true
 |.sc (.string _)=>true
 |.sc (.slice none 0 0)=>true
 |_=>false
def Yf(Ii:Nat->Option (Nat × Nat)):List (Nat × PV)->Ad->(Ad->Option R)->Option R
 |[],cells,K=>K cells
 |(i,p)::r,cells,K=>Ds (Ii i) fun q=>Ar (okP p&&Nat.beq (cellsOf p).length q.2&&Nat.ble (q.1+q.2) cells.length) (Aa (B1 cells (cellsOf p) q.1) fun cells=>Yf Ii r cells K)
def U8(P:Program)(t:TypeId)(i:Nat):Option (Nat × Nat):=
 match P.underlying t with
 |some (.struct fs)=>(fs[i]?).map fun f=>(f.offset,A7 P f.type)
 |some (.array _ e)=>some (i*A7 P e,A7 P e)
 |some (.slice e)=>some (i*A7 P e,A7 P e)
 |_=>none
def Uh(P:Program)(t:TypeId):Bool:=
 match P.underlying t with
 |some (.struct fs)=>fs.toList.all fun f=>QR P f.type
 |some (.array _ e)=>QR P e
 |some (.slice e)=>QR P e
 |_=>false
def Tw(P:Program)(t:TypeId):Option Value:=(P.info? t).bind (·.zero)
def Ip(P:Program)(t:TypeId)(K:Ad->Option R):Option R:=
 Ds (Tw P t) fun v=>Ar (Nat.beq v.cells.toList.length (J7 P t).length&&K6 P t) (Wn (J7 P t) (v.cells.toList.map .sc) 0 K)
def Vp(P:Program)(t:TypeId):Bool:=
 match P.underlying t with
 |some (.array _ _)=>true
 |_=>false
def Ao4(P:Program)(t:TypeId)(cells:Ad):B2:=bif Vp P t then .ar false cells else .st cells
def R1(n:Nat)(l:Ad):Ad:=(List.replicate n l).flatten
def As9(a b:PV)(K:PV->Option R):Option R:=Ea a fun k x=>Bc k b fun y=>Aa (if y<x then y else x) fun n=>K (.sc (.int k n))
def Awc(a b:PV)(K:PV->Option R):Option R:=Ea a fun k x=>Bc k b fun y=>Aa (if x<y then y else x) fun n=>K (.sc (.int k n))
def Alf(P:Program)(t:TypeId)(x:PV)(K:Nat->Option R):Option R:=
 match P.underlying t with
 |some .string=>Bv x fun s=>K s.size
 |some (.array n _)=>K n
 |some (.slice e)=>
  match x with
  |.view _ es _ n=>Ar (Nat.beq es (A7 P e)) (K n)
  |x=>Xd (A7 P e) x fun _ n _=>K n
 |_=>none
end
abbrev Aq:=FuncId->Ad->Option A1
section
variable {R:Type}
def Ly(P:Program)(ts:List TypeId):Bool:=ts.any fun t=>(FP P t).isSome||(J7 P t).any fun c=>match c with | .sl _=>true|_=>false
def GY(P:Program)(t:TypeId)(tm:Nat->PV)(x:Operand)(K:PV->Option R):Option R:=
 match x with
 |.const v=>cvK P t v K
 |x=>K (Ck tm x)
def XI(P:Program)(e:TypeId):Bool:=
 match P.info? e with
 |some i=>(match i.zero with|some z=>Nat.beq z.cells.size i.size|none=>false)
 |none=>false
def Af4(P:Program)(rdaf:Nat->Option Ad)(es:Nat)(t:TypeId)(x:PV)(K:Nat->Ad->Option R):Option R:=
 match P.underlying t with
 |some .string=>Ar (Nat.beq es 1) (Bv x fun b=>K b.size (Dl b))
 |some (.slice _)=>Adf rdaf es x K
 |_=>none
abbrev Age(P:Program)(s:St)(es:Nat)(t:TypeId)(x:PV)(K:Nat->Ad->Option R):Option R:=Af4 P (Mm s.hp) es t x K
def EB(c:Call):Bool:=
 match c.args.toList with
 |.const (.slice none 0 0)::_=>true
 |_=>false
def Zm(P:Program)(rdaf:Nat->Option Ad)(d:Nat)(t tx:TypeId)(x:PV)(K:PV->List (Nat × B2)->Option R):Option R:=
 match P.underlying t with
 |some (.slice e)=>Ar (XI P e) <|
  Af4 P rdaf (A7 P e) tx x fun m new=>
   Ar (decide (new.length=m*A7 P e)&&decide (m*((P.info? e).map (·.bytes)).getD 0<=1099511627776)&&decide (m<=1099511627776)) (K (.view d (A7 P e) 0 m) [(d,.ar false new)])
 |_=>none
def Mi(k:Bool):List Operand->Ad->Ad
  |x::xs,p::ps=>
    (match x,p with
     |.const (.slice none 0 0),.lst z es 0 []=>.lst (k||z) es 0 []
     |_,p=>p)::Mi k xs ps
  |_,ps=>ps
def Amk(P:Program)(t:TypeId)(x:PV)(K:Nat->Option R):Option R:=
 match P.underlying t with
 |some (.slice e)=>Xd (A7 P e) x fun z _ _=>Ar z (K 0)
 |_=>none
def NX(P:Program)(f:FuncId)(c:Call):List TypeId:=
 match P.funcs[f]? with
 |some fn=>fn.params.toList
 |none=>c.argTypes.toList
def OZ(C:Gw)(P:Program)(N:Nat)(call:Aq)(tm:Nat->PV)(rdaf:Nat->Option Ad)(o:Oper)(c:Call)(f:FuncId)(K:PV->Bz->List (Nat × B2)->Option R):Option R:=
 OQ P rdaf (NX P f c) (c.args.toList.map (Ck tm)) fun vs m=>
  Bm (call f (Mi (C.kz f) c.args.toList vs)) fun rv ro=>Ap ro (Ar (Nat.blt 0 N)<|KG P (C.shr f) N (o.dst.getD 0) (Rh P o.type) rv fun ws bs=>
   Ar (bif Sy P o.type then !Nat.beq ws.length 1 else Nat.beq ws.length 1)<|K (Ra ws (Sy P o.type)) (bif Ly P (Rh P o.type) then m else []) bs)
def MQ(C:Gw)(P:Program)(N:Nat)(call:Aq)(tm:Nat->PV)(rdf rdaf:Nat->Option Ad)(o:Oper)(K:PV->Bz->List (Nat × B2)->Option R):Option R:=
  match o.op with
  |.move x=>GY P o.type tm x fun p=>K p [] []
  |.assign x=>GY P o.type tm x fun p=>K p [] []
  |.pick c a b=>Bu (Ck tm c) fun t=>Ax t (K (Ck tm a) [] []) (K (Ck tm b) [] [])
  |.alloc t=>Ds o.dst fun d=>Ip P t fun cs=>K (.ptr d 0) [] [(d,Ao4 P t cs)]
  |.box t x=>Ds o.dst fun d=>Ar (K6 P t&&Nat.beq (cellsOf (Ck tm x)).length (J7 P t).length)
      (bif Vp P t then Wn (J7 P t) (cellsOf (Ck tm x)) 0 fun cs=>K (.ptr d 0) [] [(d,.ar false cs)]
       else R5 (J7 P t) (cellsOf (Ck tm x)) 0 fun cs=>K (.ptr d 0) [] [(d,.st cs)])
  |.build t ps=>Ar (Uh P t&&Cj P t)<|Ip P t fun z=>Yf (U8 P t) (ps.toList.map fun q=>(q.1,Ck tm q.2)) z fun cs=>R5 (J7 P t) cs 0 fun cs'=>K (.agg cs') [] []
  |.buildSlice t n ps=>Ds o.dst fun d=>
      match P.underlying t with
      |some (.slice e)=>Ar (Uh P t&&Nat.ble (n*A7 P e) 16777216) (Ip P e fun z=>Yf (U8 P t) (ps.toList.map fun q=>(q.1,Ck tm q.2)) (R1 n z) fun cs=>
          Rn rdaf (List.replicate n (J7 P e)).flatten cs fun cs' m=>K (.view d (A7 P e) 0 n) m [(d,.ar false (bif C.nz N then Ach true cs cs' else cs'))])
      |_=>none
  |.load t a=>EO (C.nz N) P rdf rdaf t (Ck tm a) fun v=>K v [] []
  |.nilCheck x=>Zb (Ck tm x) 0 fun p=>K p [] []
  |.binOp op t x y _=>
      Zq P op t (Ck tm x) (Ck tm y) fun v=>K v [] []
  |.unOp op _ x=>unK op (Ck tm x) fun v=>K v [] []
  |.convert src dst x=>PI P rdaf (o.dst.getD 0) src dst (Ck tm x) fun v b=>Ds o.dst fun _=>K v [] b
  |.makeSlice t l c=>Ds o.dst fun d=>
      match P.underlying t with
      |some (.slice e)=>Ea (Ck tm l) fun _ n=>Ea (Ck tm c) fun _ m=>
          Ar (decide (0<=n)&&decide (n<=m)&&decide (m*((P.info? e).map (·.bytes)).getD 0<=1099511627776)&&decide (m<=1099511627776))
            (Ip P e fun z=>K (.view d (A7 P e) 0 n.toNat) [] [(d,.ar false (R1 n.toNat z))])
      |_=>none
  |.slice t x lo hi mx=>
      match mx with
      |none=>IL P rdf t (Ck tm x) (lo.map (Ck tm)) (hi.map (Ck tm)) fun v=>K v [] []
      |some m=>Ds o.dst fun d=>Zz P d t (Ck tm x) (lo.map (Ck tm)) (hi.map (Ck tm)) (some (Ck tm m)) fun v nw=>K v [] nw
  |.fieldAddr t x f=>Ds (Uj P t f) fun q=>Ar (Nat.ble 1 (A7 P q.2)) (Zb (Ck tm x) q.1 fun p=>K p [] [])
  |.field t x f=>Ds (Uj P t f) fun q=>Ar (K6 P q.2)<|Ep (Ck tm x) fun cs=>R5 (J7 P q.2) cs q.1 fun c=>mkV (Cj P q.2) c fun v=>K v [] []
  |.indexAddr t x i=>Ea (Ck tm i) fun _ n=>Nq P t (Ck tm x) n fun p=>K p [] []
  |.index t x i=>Ea (Ck tm i) fun _ n=>
      match P.underlying t with
      |some .string=>Bv (Ck tm x) fun s=>Ar (decide (0<=n)) (Ds (s.data.toList[n.toNat]?) fun b=>K (.sc (.int .u8 b.toNat)) [] [])
      |some (.array len e)=>Ep (Ck tm x) fun cs=>Ar (decide (0<=n)&&decide (n<len)&&K6 P e) (R5 (J7 P e) cs (n.toNat*A7 P e) fun c=>mkV (Cj P e) c fun v=>K v [] [])
      |_=>none
  |.lookup t x k ok=>
      match P.underlying t with
      |some (.map kt vt)=>Ar (match P.underlying kt with|some .string=>true|_=>false) (
        match Ck tm x with
        |.sc (.map none)=>Bv (Ck tm k) fun _=>Ds (Tw P vt) fun z=>cvK P vt z fun v=>Ar (match v with | .tup _=>false|_=>true) (K (bif ok then .tup [v,.sc (.bool false)] else v) [] [])
        |_=>none)
      |_=>none
  |.extract x i=>
      match Ck tm x with
      |.tup vs=>Ds vs[i]? fun p=>K p [] []
      |_=>none
  |.call c=>
      match c.callee with
      |.builtin .len=>Ai c.args.toList fun x _=>Ai c.argTypes.toList fun t _=>Alf P t (Ck tm x) fun n=>K (.sc (.int .i64 n)) [] []
      |.builtin .cap=>Ai c.args.toList fun x _=>Ai c.argTypes.toList fun t _=>Amk P t (Ck tm x) fun n=>K (.sc (.int .i64 n)) [] []
      |.builtin .min=>Ai c.args.toList fun x r=>Ai r fun y r'=>Ap r' (As9 (Ck tm x) (Ck tm y) fun v=>K v [] [])
      |.builtin .max=>Ai c.args.toList fun x r=>Ai r fun y r'=>Ap r' (Awc (Ck tm x) (Ck tm y) fun v=>K v [] [])
      |.builtin .append=>Ar (EB c) (Ds o.dst fun d=>Ai c.args.toList fun _ r=>Ai r fun x r'=>Ap r' (Ai c.argTypes.toList fun t u=>Ai u fun tx _=>Zm P rdaf d t tx (Ck tm x) fun v nw=>K v [] nw))
      |.value (.func f)=>OZ C P N call tm rdaf o c f K
      |.value (.tmp t)=>fvK (tm t) fun f=>OZ C P N call tm rdaf o c f K
      |_=>none
  |_=>none
def Ws(C:Gw)(P:Program)(o:Op):Bool:=
 match o with
 |.store .. =>true
 |.call c=>
  match c.callee with
  |.builtin .append=> !EB c
  |.builtin .copy=>true
  |.builtin _=>false
  |.value (.func f)=>((NX P f c).any fun t=>(FP P t).isSome)||((NX P f c).zipIdx.any fun q=>C.mvd f q.2||C.lnd f q.2)
  |_=>false
 |_=>false
def Yp(b:B2):B2:=
 match b with
 |.ar _ c=>.ar true c
 |b=>b
def Af(hp:Nat->Option B2)(ids:Bz):Nat->Option B2:=fun i=>bif ids.any (Nat.beq i) then (hp i).map Yp else hp i
def Au(hp:Nat->Option B2):List (Nat × B2)->Nat->Option B2
 |[]=>hp
 |(i,b)::r=>Au (C7 hp i (some b)) r
def B6(hp:Nat->Option B2):List (Nat × B2)->Bool
 |[]=>true
 |(i,_)::r=>(hp i).isNone && !(r.any fun q=>Nat.beq q.1 i)&&B6 hp r
def C4(tm:Nat->PV)(d:Option Tmp)(v:PV):Nat->PV:=
 match d with
 |some i=>C7 tm i v
 |none=>tm
def Hp(N:Nat)(d:Option Tmp):Bool:=
 match d with
 |some i=>Nat.blt i N
 |none=>true
def HG(N:Nat)(s:St)(d:Option Tmp)(v:PV)(fz:Bz)(nw:List (Nat × B2))(K:St->Option R):Option R:=
 Ar (Hp N d&&B6 s.hp nw) (K ⟨C4 s.tm d v,Au (Af s.hp fz) nw⟩)
def IB(P:Program)(s:St)(t:TypeId)(a x:PV)(K:St->Option R):Option R:=
 match a with
 |.ptr id off=>
  match s.hp id with
  |some (.st c)=>Ar (K6 P t&&Nat.beq (cellsOf x).length (J7 P t).length&&decide (off+(J7 P t).length<=c.length)) (R5 (J7 P t) (cellsOf x) 0 fun cs=>Aa (B1 c cs off) fun c=>K ⟨s.tm,C7 s.hp id (some (.st c))⟩)
  |some (.ar false c)=>Ar (K6 P t&&decide (off+(J7 P t).length<=c.length)) (Rn (Mm s.hp) (J7 P t) (cellsOf x) fun cs m=>Ar (!m.any (Nat.beq id)) (Aa (B1 c cs off) fun c=>K ⟨s.tm,C7 (Af s.hp m) id (some (.ar false c))⟩))
  |_=>none
 |_=>none
def MA(P:Program)(t:TypeId):Bool:=
 match P.underlying t with
 |some (.int _)=>true
 |_=>false
def GE(P:Program)(N:Nat)(s:St)(d:Nat)(e:TypeId)(b x:PV)(K:St->Option R):Option R:=
 Ea x fun _ n=>Xd (A7 P e) b fun z _ _=>
  Ar (z&&Nat.blt d N&&(s.hp d).isNone&&decide (0<=n)&&decide (n.toNat*((P.info? e).map (·.bytes)).getD 0<=1099511627776)&&decide (n<=1099511627776))
   (K ⟨C7 s.tm d (.view d (A7 P e) 0 n.toNat),C7 s.hp d (some (.ar false []))⟩)
def Zv(P:Program)(N:Nat)(s:St)(d:Nat)(t tx:TypeId)(b x:PV)(K:St->Option R):Option R:=
 match P.underlying t with
 |some (.slice e)=>Ar (XI P e) <|
  bif MA P tx then GE P N s d e b x K else
  Age P s (A7 P e) tx x fun m new=>
  match b with
  |.view id es off n=>
   match s.hp id with
   |some (.ar false c)=>
    Ar (Nat.beq es (A7 P e)&&Nat.beq off 0&&Nat.blt d N&&(s.hp d).isNone&&decide (n*es<=c.length)&&decide (new.length=m*es)
     && decide ((n+m)*((P.info? e).map (·.bytes)).getD 0<=1099511627776)&&decide (n+m<=1099511627776))
     (Aa (n+m) fun n'=>Aa (c.take (n*es)++new) fun c=>K ⟨C7 s.tm d (.view d es 0 n'),C7 (C7 s.hp id (some .mv)) d (some (.ar false c))⟩)
   |_=>none
  |b=>Xd (A7 P e) b fun z _ _=>
    Ar (z&&Nat.blt d N&&(s.hp d).isNone&&decide (new.length=m*A7 P e)&&decide (m*((P.info? e).map (·.bytes)).getD 0<=1099511627776)&&decide (m<=1099511627776))
     (K ⟨C7 s.tm d (.view d (A7 P e) 0 m),C7 s.hp d (some (.ar false new))⟩)
 |_=>none
def TT(P:Program)(N:Nat)(s:St)(d:Option Tmp)(t tx:TypeId)(b x:PV)(K:St->Option R):Option R:=
 match P.underlying t with
 |some (.slice e)=>Ar (QR P e&&Hp N d) <|
  Age P s (A7 P e) tx x fun m new=>
  match b with
  |.view id es off n=>
   match s.hp id with
   |some (.ar false c)=>Ar (Nat.beq es (A7 P e)&&decide (off+n*es<=c.length)&&decide (new.length=m*es))
     (Aa (min m n) fun k=>Aa (B1 c (new.take (k*es)) off) fun c=>K ⟨C4 s.tm d (.sc (.int .i64 k)),C7 s.hp id (some (.ar false c))⟩)
   |_=>none
  |_=>none
 |_=>none
def Aji(mv:Bool)(hp:Nat->Option B2)(t:CT)(p:PV)(K:PV->Bz->Bz->Option R):Option R:=
 match t with
 |.sl es=>
  bif mv then
   match p with
   |.view id es' off n=>
    match hp id with
    |some (.ar false c)=>
     bif Nat.beq es' es&&Nat.beq off 0 then Ar (decide (n*es<=c.length)) (K (.own es n (c.take (n*es))) [] [id])
     else R6 (Mm hp) (.sl es) (.view id es' off n) fun c m=>K c m []
    |_=>R6 (Mm hp) (.sl es) (.view id es' off n) fun c m=>K c m []
   |p=>Xd es p fun z n c=>bif z then K (.own es 0 []) [] [] else K (.lst false es n c) [] []
  else R6 (Mm hp) (.sl es) p fun c m=>K c m []
 |t=>IJ t p fun c=>K c [] []
def JI(mv:Bool)(hp:Nat->Option B2):List CT->Ad->(Ad->Bz->Bz->Option R)->Option R
 |[],[],K=>K [] [] []
 |t::ts,p::ps,K=>Aji mv hp t p fun c m x=>JI mv hp ts ps fun cs ms xs=>K (c::cs) (m++ms) (x++xs)
 |_,_,_=>none
inductive H8 where
 |var (id off:Nat) (cts:List CT) (ws:Ad)
 |row (id:Nat)
 |none
def H8.ids:H8->Bz
 |.var id _ _ _=>[id]
 |.row id=>[id]
 |.none=>[]
def A3l(P:Program)(t:TypeId):Option TypeId:=
 match P.underlying t with
 |some (.slice e)=>some e
 |_=>none
def An6(hp:Nat->Option B2)(es:Nat)(p:PV)(K:PV->List H8->Option R):Option R:=
 match p with
 |.view id es' off n=>
  match hp id with
  |some (.ar false c)=>Ar (Nat.beq es' es&&Nat.beq off 0) (K (.tup [.own es n c]) [.row id])
  |_=>none
 |p=>Xd es p fun z _ _=>Ar z (K (.tup [.own es 0 []]) [.none])
def HA(C:Gw)(P:Program)(f:FuncId)(hp:Nat->Option B2)(i:Nat)(t:TypeId)(p:PV)(K:PV->Bz->Bz->List H8->Option R):Option R:=
 match FP P t with
 |some e=>
  match p with
  |.ptr id off=>
   match hp id with
   |some (.st c)=>Ar (K6 P e&&decide (off+(J7 P e).length<=c.length)) (JI (C.mvd f i) hp (J7 P e) ((c.drop off).take (J7 P e).length) fun cs m x=>K (.pbox cs) m x [.var id off (J7 P e) cs])
   |_=>none
  |_=>none
 |none=>
  bif C.lnd f i then Ds (A3l P t) fun e=>An6 hp (A7 P e) p fun v l=>K v [] [] l
  else bif Cj P t then Ep p fun ps=>JI (C.mvd f i) hp (J7 P t) ps fun cs m x=>K (.agg cs) m x []
  else JI (C.mvd f i) hp (J7 P t) [p] fun cs m x=>Ai cs fun c r=>Ap r (K c m x [])
def TA(C:Gw)(P:Program)(f:FuncId)(hp:Nat->Option B2):Nat->List TypeId->Ad->(Ad->Bz->Bz->List H8->Option R)->Option R
 |_,[],[],K=>K [] [] [] []
 |i,t::ts,p::ps,K=>HA C P f hp i t p fun v m x l=>TA C P f hp (i+1) ts ps fun vs ms xs ls=>K (v::vs) (m++ms) (x++xs) (l++ls)
 |_,_,_,_=>none
def Xx(hp:Nat->Option B2)(ids:Bz):Nat->Option B2:=fun i=>bif ids.any (Nat.beq i) then (hp i).map (fun _=>B2.mv) else hp i
def nid(N t:Nat):Nat:=N*(1000+t)
def Acm(N:Nat)(hp:Nat->Option B2):Nat->Nat->Nat
 |0,t=>t
 |k+1,t=>bif (hp (nid N t)).isNone then t else Acm N hp k (t+1)
def Alt(N t:Nat)(ct:CT)(was p:PV)(K:Nat->PV->List (Nat × B2)->Option R):Option R:=
 match ct with
 |.sl es=>
  match was with
  |.own _ _ _=>Lg es p fun n c=>K (t+1) (.view (nid N t) es 0 n) [(nid N t,.ar false c)]
  |_=>Xd es p fun _ n c=>K t (.lst false es n c) []
 |ct=>IJ ct p fun c=>K t c []
def UU(N:Nat):Nat->List CT->Ad->Ad->(Nat->Ad->List (Nat × B2)->Option R)->Option R
 |t,[],[],ps,K=>Ap ps (K t [] [])
 |t,ct::cts,w::ws,ps,K=>Ai ps fun p ps=>Alt N t ct w p fun t' c b=>UU N t' cts ws ps fun t'' cs bs=>K t'' (c::cs) (b++bs)
 |_,_,_,_,_=>none
def CZ(N:Nat):Nat->List H8->List Ad->(Nat->Option B2)->((Nat->Option B2)->List (Nat × B2)->Option R)->Option R
 |_,[],ro,hp,K=>Ap ro (K hp [])
 |t,.var id off cts ws::l,ro,hp,K=>Ai ro fun cs ro=>UU N t cts ws cs fun t' cs' bs=>
   match hp id with
   |some (.st c)=>Aa (B1 c cs' off) fun c=>CZ N t' l ro (C7 hp id (some (.st c))) fun Dr bs'=>K Dr (bs++bs')
   |_=>none
 |t,.row id::l,ro,hp,K=>Ai ro fun cs ro=>CZ N t l ro (C7 hp id (some (.ar false cs))) K
 |t,.none::l,ro,hp,K=>Ai ro fun _ ro=>CZ N t l ro hp K
def Em:Bz->Bool
 |[]=>true
 |a::r=> !(r.any (Nat.beq a))&&Em r
def HZ(C:Gw)(P:Program)(N:Nat)(call:Aq)(s:St)(o:Oper)(f:FuncId)(c:Call)(K:St->Option R):Option R:=
 TA C P f s.hp 0 (NX P f c) (c.args.toList.map (Ck s.tm)) fun vs m x l=>
  Ar (Em (l.flatMap H8.ids++x)&&m.all (fun i=> !((l.flatMap H8.ids++x).any (Nat.beq i)))&&Nat.blt 0 N&&Hp N o.dst) <|
  Bm (call f (Mi (C.kz f) c.args.toList vs)) fun rv ro=>
   KG P (C.shr f) N (o.dst.getD N) (Rh P o.type) rv fun ws bs=>
    Ar (bif Sy P o.type then !Nat.beq ws.length 1 else Nat.beq ws.length 1) <|
    Bbe (Acm N s.hp 100 0) fun t0=>CZ N t0 l ro (Xx (Af s.hp m) x) fun Dr bs'=>
     Ar (B6 Dr (bs++bs')) (K ⟨C4 s.tm o.dst (Ra ws (Sy P o.type)),Au Dr (bs++bs')⟩)
def XA(C:Gw)(P:Program)(N:Nat)(call:Aq)(s:St)(o:Oper)(K:St->Option R):Option R:=
 match o.op with
 |.store t a x=>Ar (o.dst.isNone) (IB P s t (Ck s.tm a) (Ck s.tm x) K)
 |.call c=>
  match c.callee with
  |.builtin .append=>Ds o.dst fun d=>Ai c.args.toList fun b r=>Ai r fun x r'=>Ap r' (Ai c.argTypes.toList fun t u=>Ai u fun tx _=>Zv P N s d t tx (Ck s.tm b) (Ck s.tm x) K)
  |.builtin .copy=>Ai c.args.toList fun b r=>Ai r fun x r'=>Ap r' (Ai c.argTypes.toList fun t u=>Ai u fun tx _=>TT P N s o.dst t tx (Ck s.tm b) (Ck s.tm x) K)
  |.value (.func f)=>HZ C P N call s o f c K
  |_=>none
 |_=>none
def Adu(C:Gw)(P:Program)(N:Nat)(call:Aq)(o:Oper)(s:St)(K:St->Option R):Option R:=
 bif Ws C P o.op then XA C P N call s o K
 else MQ C P N call s.tm (rd s.hp) (Mm s.hp) o fun v fz nw=>HG N s o.dst v fz nw K
def El(C:Gw)(P:Program)(N:Nat)(call:Aq)(ops:Array Oper)(o:Oper)(s:St)(K:St->Option R):Option R:=
 match o.guard with
 |none=>Adu C P N call o s K
 |some (j,want)=>
  match (ops[j]?).bind (·.dst) with
  |none=>none
  |some d=>
   match s.tm d with
   |.sc (.bool b)=>
    Ax b (bif want then Adu C P N call o ⟨C7 s.tm d (.sc (.bool true)),s.hp⟩ K else Ar (Hp N o.dst) (K ⟨C4 (C7 s.tm d (.sc (.bool true))) o.dst (.sc undef),s.hp⟩))
     (bif want then Ar (Hp N o.dst) (K ⟨C4 (C7 s.tm d (.sc (.bool false))) o.dst (.sc undef),s.hp⟩) else Adu C P N call o ⟨C7 s.tm d (.sc (.bool false)),s.hp⟩ K)
   |.sc (.tuple _)=>Ar (Hp N o.dst) (K ⟨C4 s.tm o.dst (.sc undef),s.hp⟩)
   |_=>none
def Pn(C:Gw)(P:Program)(N:Nat)(call:Aq)(ops:Array Oper):List Oper->St->(St->Option R)->Option R
 |[],s,K=>K s
 |o::r,s,K=>El C P N call ops o s fun s'=>Pn C P N call ops r s' K
def V8(x y:Option R):Option R:=open Classical in if x=y then x else none
def PB(ops:Array Oper)(o:Oper)(s:St)(F:St->Option R):Option R:=
 match o.guard with
 |none=>F s
 |some (j,_)=>
  match (ops[j]?).bind (·.dst) with
  |none=>F s
  |some d=>
   match s.tm d with
   |.ub=>V8 (F ⟨C7 s.tm d (.sc (.bool true)),s.hp⟩) (F ⟨C7 s.tm d (.sc (.bool false)),s.hp⟩)
   |_=>F s
def HD(C:Gw)(P:Program)(N:Nat)(call:Aq)(ops:Array Oper):List Oper->St->(St->Option R)->Option R
 |[],s,K=>K s
 |o::r,s,K=>PB ops o s fun s1=>El C P N call ops o s1 fun s'=>HD C P N call ops r s' K
end
def Ao5(o:Oper):Bz:=o.op.operands.toList.filterMap fun x=>match x with | .tmp t=>some t|_=>none
def looks(ops:Array Oper)(o:Oper):Bz:=
 Ao5 o++(match o.guard with|some (g,_)=>((ops[g]?).bind (·.dst)).toList|none=>[])
def Jk(P:Program)(o:Op):Bool:=
 match o with
 |.slice t .. =>match P.underlying t with|some (.array _ _)=>true|_=>false
 |.buildSlice t _ _=>match P.underlying t with|some (.slice e)=>Ly P [e]|_=>true
 |.convert _ dst _=>match P.underlying dst with|some .string=>true|_=>false
 |.alloc _ | .box .. | .makeSlice .. =>false
 |.move _ | .assign _ | .pick .. | .build .. | .binOp .. | .unOp .. | .fieldAddr .. | .field .. | .index .. | .indexAddr .. | .extract .. | .nilCheck _=>false
 |.call c=>match c.callee with | .builtin .len=>false | .builtin .min=>false | .builtin .max=>false|_=>true
 |_=>true
def MR(C:Gw)(P:Program)(ops:Array Oper)(x y:Oper):Bool:=
 (match x.dst with|some d=>(looks ops y).any (Nat.beq d)||(match y.dst with|some e=>Nat.beq d e|none=>false)|none=>false) ||
 (match y.dst with|some e=>(looks ops x).any (Nat.beq e)|none=>false) ||
 (Ws C P x.op&&Jk P y.op)||(Ws C P y.op&&Jk P x.op)
def Jd(ops:List Oper):Bz->Bz
 |acc=>match ops with
  |[]=>acc
  |o::r=>Jd r (acc++[o.after.toList.foldl (fun s e=>bif Region.binds .any e then s ||| 2 ^ e.on ||| acc.getD e.on 0 else s) 0])
def MD(C:Gw)(P:Program)(ops:Array Oper)(bs:Bz):List Oper->Nat->Bool
 |[],_=>true
 |o::r,i=>(ops.toList.zipIdx.all fun q=> !Nat.blt q.2 i || !MR C P ops q.1 o||(bs.getD i 0).testBit q.2)&&MD C P ops bs r (i+1)
def PE(C:Gw)(P:Program)(ops:Array Oper):Bool:=
 ops.toList.zipIdx.all (fun q=>q.1.after.toList.all fun e=> !Region.binds .any e||Nat.blt e.on q.2)&&MD C P ops (Jd ops.toList []) ops.toList 0
def As:PV->Bz
 |.view id _ _ _=>[id]
 |.ptr id _=>[id]
 |_=>[]
def Ct:PV->Bz
 |.agg cs=>cs.flatMap As
 |p=>As p
def Cc:PV->Bz
 |.tup ps=>ps.flatMap Ct
 |p=>Ct p
def Yk(P:Program)(o:Op):Bool:=
 match o with
 |.load .. =>true
 |.convert _ dst _=>(match P.underlying dst with|some .string=>true|_=>false)
 |_=>false
def LT(o:Op):Bool:=
 match o with
 |.call c=>(match c.callee with | .builtin .append=> !EB c|_=>false)
 |_=>false
def Aow(ops:Array Oper)(x y:Oper):Bool:=
 (match x.dst with|some d=>(looks ops y).any (Nat.beq d)||(match y.dst with|some e=>Nat.beq d e|none=>false)|none=>false) ||
 (match y.dst with|some e=>(looks ops x).any (Nat.beq e)|none=>false)
def Vc(C:Gw)(P:Program)(x y:Oper):Bool:=(Ws C P x.op&&Jk P y.op)||(Ws C P y.op&&Jk P x.op)
def M8(C:Gw)(P:Program)(x y:Oper):Bool:=(Ws C P x.op&&Yk P y.op)||(Ws C P y.op&&Yk P x.op)
def Art(C:Gw)(P:Program)(ops:Array Oper)(x y:Oper):Bool:=Aow ops x y||(Vc C P x y && !M8 C P x y)
def DW(C:Gw)(P:Program)(ops:Array Oper)(bs:Bz):List Oper->Nat->Bool
 |[],_=>true
 |o::r,i=>(ops.toList.zipIdx.all fun q=> !Nat.blt q.2 i || !Art C P ops q.1 o||(bs.getD i 0).testBit q.2)&&DW C P ops bs r (i+1)
def GW(C:Gw)(P:Program)(ops:Array Oper):Bool:=
 ops.toList.zipIdx.all (fun q=>q.1.after.toList.all fun e=> !Region.binds .any e||Nat.blt e.on q.2)&&DW C P ops (Jd ops.toList []) ops.toList 0
def Pp(C:Gw)(P:Program)(s:St)(o:Oper):Bz:=
 let l:=o.op.operands.toList.flatMap fun y=>Cc (Ck s.tm y)
 bif Ws C P o.op && !LT o.op then l++l.flatMap (fun i=>match s.hp i with|some (.st c)=>c.flatMap As|_=>[])
 else bif Yk P o.op||LT o.op then l else []
def Als(a b:Bz):Bool:=a.all fun i=> !b.any (Nat.beq i)
def EW(C:Gw)(P:Program)(ops:Array Oper)(bs:Bz)(i:Nat)(o:Oper):Bz:=
 (ops.toList.zipIdx.filter fun q=>M8 C P q.1 o && !(Nat.blt q.2 i&&(bs.getD i 0).testBit q.2) && !(Nat.blt i q.2&&(bs.getD q.2 0).testBit i)).map (·.2)
def DN(C:Gw)(P:Program)(ops:Array Oper)(bs:Bz):List Bz:=ops.toList.zipIdx.map fun q=>EW C P ops bs q.2 q.1
def LL(C:Gw)(P:Program)(sm:List Bz)(s:St)(i:Nat)(o:Oper):Bz:=
 match sm.getD i [] with
 |[]=>[]
 |_::_=>Pp C P s o
def RX(C:Gw)(P:Program)(sm:List Bz)(s:St)(i:Nat)(o:Oper)(q:Nat × Oper × Bz):Bool:=
 !((sm.getD i []).any (Nat.beq q.1))||Als q.2.2 (LL C P sm s i o)
def I9{R:Type}(C:Gw)(P:Program)(N:Nat)(call:Aq)(ops:Array Oper)(sm:List Bz):List (Nat × Oper × Bz)->Bz->St->(St->Option R)->Option R
 |_,[],s,K=>K s
 |dn,i::l,s,K=>Ds ops[i]? fun o=>Ar (dn.all (RX C P sm s i o)&&(LL C P sm s i o).all (fun k=>(s.hp k).isSome)) (El C P N call ops o s fun s'=>I9 C P N call ops sm ((i,o,LL C P sm s i o)::dn) l s' K)
def Anu(m i:Nat):Nat:=m ||| 2 ^ i
def Bcz(m i:Nat):Nat:=bif m.testBit i then m ^^^ 2 ^ i else m
def Ai8(ops:Array Oper):List Oper->Nat->Nat
 |[],m=>m
 |o::r,m=>
  let m1:=Ai8 ops r m
  let m2:=match o.dst with|some d=>Bcz m1 d|none=>m1
  (looks ops o).foldl Anu m2
def Kx:Code->Nat->(Nat->Nat)->Nat->Nat
 |.skip,ln,_,_=>ln
 |.region _ ops _,ln,_,_=>Ai8 ops ops.toList ln
 |.seq a b,ln,lx,lr=>Kx a (Kx b ln lx lr) lx lr
 |.cond c a b,ln,lx,lr=>let m:=Kx a ln lx lr ||| Kx b ln lx lr;match c with | .tmp d=>Anu m d|_=>m
 |.block id c,ln,lx,lr=>Kx c ln (fun j=>bif Nat.beq j id then ln else lx j) lr
 |.loop c,_,lx,lr=>Kx c (Kx c 0 lx lr) lx lr
 |.exit id,_,lx,_=>lx id
 |.ret,_,_,lr=>lr
 |_,_,_,_=>0
def Aau(ops:List Oper):Bz:=(ops.filterMap fun o=>o.guard.map (·.1)).eraseDups
def H3:Code->Nat
 |.region _ _ _=>1
 |.seq a b=>H3 a+H3 b
 |.cond _ a b=>H3 a+H3 b
 |.block _ c=>H3 c
 |.loop c=>H3 c
 |_=>0
def Xf:Code->Nat
 |.skip=>1
 |.region _ ops _=>2 ^ min 6 (Aau ops.toList).length
 |.seq a b=>bif (Nat.ble 7 (Xf a)&&Nat.ble 6 (H3 b))||(Nat.ble 5 (Xf a)&&Nat.ble 9 (H3 b)) then Xf b else min 1000 (Xf a*Xf b)
 |.cond _ a b=>Xf a+Xf b
 |.block _ c=>Xf c
 |.loop _=>1
 |.exit _=>1
 |_=>0
def Awu(P:Program)(o:Oper):Bool:=
 match o.op with
 |.load t _=>Vp P t&&Nat.ble 8 (A7 P t)
 |.store t _ _=>Vp P t&&Nat.ble 8 (A7 P t)
 |_=>false
def Ada(P:Program):Code->Bool
 |.region _ ops _=>ops.toList.any (Awu P)
 |.seq a _=>Ada P a
 |_=>false
def Ahk(P:Program):Code->Bool
 |.region _ ops _=>ops.toList.any (Awu P)
 |.seq _ b=>Ahk P b
 |_=>false
def Atc(P:Program)(o:Oper):Bool:=
 match o.op with
 |.call _=> !Vp P o.type&&(Nat.beq (A7 P o.type) 8||Nat.ble 15 (A7 P o.type))
 |_=>false
def FO(P:Program):Code->Bool
 |.region _ ops _=>ops.toList.any (Atc P)
 |.seq _ b=>FO P b
 |.cond _ a b=>FO P a||FO P b
 |_=>false
def A4s:Code->Nat
 |.seq a b=>match b with
  |.ret=>(match a with | .region _ ops _=>(Aau ops.toList).length|_=>0)
  |_=>A4s b
 |_=>0
def Arh(x y:Code):Bool:=(Nat.beq (Xf x) 1&&Nat.beq (A4s y) 11)||(Nat.beq (Xf x) 4&&Nat.beq (H3 x) 7&&(Nat.beq (H3 y) 3||Nat.beq (H3 y) 1))||(Nat.beq (Xf x) 9&&Nat.beq (H3 x) 5&&Nat.beq (H3 y) 5)
def Vb(a b:Code):Bool:=Arh a b||(match b with | .seq x y=>Arh x y|_=>false)
def A6i(a b:Code):Bool:=Nat.beq (Xf a) 2&&Nat.beq (H3 a) 2&&(match a with | .seq x _=>Nat.beq (Xf x) 2|_=>false)&&(match b with | .seq c d=>Nat.beq (Xf c) 2&&((Nat.beq (H3 c) 2&&Nat.beq (H3 d) 5)||(Nat.beq (H3 c) 4&&Nat.beq (H3 d) 1))|_=>false)
def Ads(P:Program)(a b:Code):Bool:=A6i a b||(Nat.ble 7 (Xf a)&&Nat.ble 6 (H3 b))||(Nat.ble 5 (Xf a)&&Nat.ble 9 (H3 b))||(Nat.beq (Xf a) 4&&Nat.beq (H3 a) 11&&Nat.beq (H3 b) 10)||(Nat.beq (Xf a) 2&&Nat.beq (H3 a) 3&&(Nat.beq (H3 b) 10||Nat.beq (H3 b) 7))||Vb a b||Ada P b||Ahk P a||FO P a
def I7(m:Nat):Nat->Bz
 |0=>[]
 |n+1=>I7 m n++(bif m.testBit n then [n] else [])
def lk(l:List (Nat × PV))(i:Nat):PV:=
 match l with
 |[]=>.top
 |(j,p)::r=>bif Nat.beq i j then p else lk r i
def Fw(l:List (Nat × B2))(i:Nat):Option B2:=
 match l with
 |[]=>none
 |(j,b)::r=>bif Nat.beq i j then some b else Fw r i
def AK(l:List (Nat × Nat))(i:Nat):Option Nat:=
 match l with
 |[]=>none
 |(j,b)::r=>bif Nat.beq i j then some b else AK r i
def FD(N:Nat)(s:St)(i:Nat):St:=
 match s.tm i with
 |.lst true es 0 []=>
  bif (s.hp i).isNone then ⟨C7 s.tm i (.view i es 0 0),C7 s.hp i (some (.ar false []))⟩
  else bif (s.hp (i+N*3000)).isNone then ⟨C7 s.tm i (.view (i+N*3000) es 0 0),C7 s.hp (i+N*3000) (some (.ar false []))⟩
  else s
 |_=>s
def WG(N:Nat)(id:Nat)(s:St)(j:Nat):St:=
 match s.hp id with
 |some (.st c)=>
  match c[j]? with
  |some (.lst true es 0 [])=>bif (s.hp (id+N*(j+1))).isNone then ⟨s.tm,C7 (C7 s.hp id (some (.st (c.set j (.view (id+N*(j+1)) es 0 0))))) (id+N*(j+1)) (some (.ar false []))⟩ else s
  |_=>s
 |_=>s
def OG(N:Nat)(s:St)(i:Nat):St:=
 match s.tm i with
 |.ptr id _=>
  match s.hp id with
  |some (.st c)=>(List.range c.length).foldl (WG N id) s
  |_=>s
 |_=>s
def TF(m:List (Nat × Nat))(old new:Nat):List (Nat × Nat):=
 match AK m old with
 |some _=>m
 |none=>m++[(old,new)]
def Vg(N new:Nat):Ad->Nat->List (Nat × Nat)->List (Nat × Nat)
 |[],_,m=>m
 |.view id _ _ _::r,j,m=>Vg N new r (j+1) (TF m id (new+N*(j+1)))
 |_::r,j,m=>Vg N new r (j+1) m
def EN(N:Nat)(s:St)(m:List (Nat × Nat))(i:Nat):List (Nat × Nat):=
 match s.tm i with
 |.view id _ _ _=>TF m id i
 |.ptr id _=>
  match AK m id with
  |some _=>m
  |none=>
   match s.hp id with
   |some (.st c)=>Vg N i c 0 (TF m id i)
   |_=>TF m id i
 |.agg c=>Vg N i c 0 m
 |_=>m
def Agq(m:List (Nat × Nat)):PV->PV
 |.view id es off n=>match AK m id with|some j=>.view j es off n|none=>.top
 |.ptr id off=>match AK m id with|some j=>.ptr j off|none=>.top
 |.sc v=>.sc v
 |.lst z es n c=>.lst z es n c
 |.iptr c off=>.iptr c off
 |_=>.top
def Agl(m:List (Nat × Nat)):PV->PV
 |.agg c=>.agg (c.map (Agq m))
 |p=>Agq m p
def Avk(m:List (Nat × Nat)):B2->B2
 |.st c=>.st (c.map (Agq m))
 |b=>b
def D5(N i:Nat):Nat:=i+N*2000
def Acu(N:Nat)(hp:Nat->Option B2):Nat->List (Nat × Nat)
 |0=>[]
 |i+1=>bif (hp (D5 N i)).isSome then Acu N hp i++[(D5 N i,D5 N i)] else Acu N hp i
def Y8(N:Nat)(hp:Nat->Option B2):Nat->List (Nat × Nat)->List (Nat × Nat)
 |0,m=>m
 |i+1,m=>
  match hp (D5 N i) with
  |some (.st c)=>Vg N (D5 N i) c 0 (Y8 N hp i m)
  |_=>Y8 N hp i m
def A34(N:Nat)(hp:Nat->Option B2)(k:Nat):List (Nat × Nat):=Y8 N hp k (Acu N hp k)
def N5(m:List (Nat × Nat))(hp:Nat->Option B2):List (Nat × Nat)->List (Nat × B2)
 |[]=>[]
 |(old,new)::r=>match hp old with
  |some b=>(new,Avk m b)::N5 m hp r
  |none=>N5 m hp r
section
variable {R:Type}
def NJ(N:Nat)(ls:Bz)(q:Bool)(s:St)(K:St->Option R):Option R:=
 let s2:=bif q then s else ls.foldl (OG N) (ls.foldl (FD N) s)
 let m:=ls.foldl (EN N s2) (A34 N s2.hp 8)
 Ar (Em (m.map (·.1))&&Em (m.map (·.2))) (K ⟨lk (ls.map fun i=>(i,Agl m (s2.tm i))),Fw (N5 m s2.hp m)⟩)
def DI(N L:Nat)(s:St)(K:St->Option R):Option R:=NJ N (I7 L N) false s K
def Aie(N L:Nat)(s:St)(K:St->Option R):Option R:=NJ N (I7 L N) true s K
def Af0(F:(St->Option R)->St->Option R)(nm:St->(St->Option R)->Option R):Nat->St->Option R
 |0,_=>none
 |n+1,s=>F (fun s'=>nm s' (Af0 F nm n)) s
def DR(n:Nat)(F:St->Option R)(s:St):Option R:=
 match n with
 |0=>none
 |_+1=>F s
def Aa4(s:St)(c:Operand)(kt kf:St->Option R):Option R:=
 match c with
 |.tmp d=>
  match s.tm d with
  |.sc (.bool b)=>Ax b (kt ⟨C7 s.tm d (.sc (.bool true)),s.hp⟩) (kf ⟨C7 s.tm d (.sc (.bool false)),s.hp⟩)
  |.ub=>V8 (kt s) (kf s)
  |_=>none
 |.const (.bool true)=>kt s
 |.const (.bool false)=>kf s
 |_=>none
def Mo(C:Gw)(P:Program)(fu N:Nat)(call:Aq):Code->Nat->(Nat->Nat)->Nat->(St->Option R)->(Nat->St->Option R)->(St->Option R)->St->Option R
 |.skip,_,_,_,kn,_,_,s=>kn s
 |.region _ ops draw,_,_,_,kn,_,_,s=>KV (draw && !PE C P ops) (Ar (GW C P ops) (Aor (DN C P ops (Jd ops.toList [])) fun sm=>I9 C P N call ops sm [] (List.range ops.size) s kn)) (KV draw (Pn C P N call ops ops.toList s kn) (HD C P N call ops ops.toList s kn))
 |.seq a b,ln,lx,lr,kn,kx,kr,s=>Mo C P fu N call a (Kx b ln lx lr) lx lr (fun s'=>KV (Ads P a b) (KV (Vb a b) (Aie N (Kx b ln lx lr) s' (DR fu fun s''=>Mo C P fu N call b ln lx lr kn kx kr s'')) (DI N (Kx b ln lx lr) s' (DR fu fun s''=>Mo C P fu N call b ln lx lr kn kx kr s''))) (Mo C P fu N call b ln lx lr kn kx kr s')) kx kr s
 |.cond c a b,ln,lx,lr,kn,kx,kr,s=>Aa4 s c (Mo C P fu N call a ln lx lr kn kx kr) (Mo C P fu N call b ln lx lr kn kx kr)
 |.block id c,ln,lx,lr,kn,kx,kr,s=>Mo C P fu N call c ln (fun j=>bif Nat.beq j id then ln else lx j) lr kn (fun j s'=>bif Nat.beq j id then kn s' else kx j s') kr s
 |.loop c,ln,lx,lr,_,kx,kr,s=>
  DI N (Kx (.loop c) ln lx lr) s (Af0 (fun k s'=>Mo C P fu N call c (Kx (.loop c) ln lx lr) lx lr k kx kr s') (DI N (Kx (.loop c) ln lx lr)) fu)
 |.exit id,_,_,_,_,kx,_,s=>kx id s
 |.ret,_,_,_,_,_,kr,s=>kr s
 |_,_,_,_,_,_,_,_=>none
def Aqu(id:Nat)(t:CT)(p:PV)(K:PV->List (Nat × B2)->Option R):Option R:=
 match t with
 |.sl es=>
  match p with
  |.own es' n c=>bif Nat.beq es' es then K (.view id es 0 n) [(id,.ar false c)] else none
  |p=>Xd es p fun z n c=>K (.lst z es n c) []
 |t=>IJ t p fun c=>K c []
def KJ(N:Nat):Nat->List CT->Ad->(Ad->List (Nat × B2)->Option R)->Option R
 |_,[],ps,K=>Ap ps (K [] [])
 |id,t::ts,ps,K=>Ai ps fun p ps=>Aqu id t p fun c b=>KJ N (id+N) ts ps fun cs bs=>K (c::cs) (b++bs)
def inK(P:Program)(N i:Nat)(t:TypeId)(p:PV)(K:PV->List (Nat × B2)->Option R):Option R:=
 match FP P t with
 |some e=>BI p fun ps=>Ar (Nat.blt i 8) (KJ N (D5 N i+N) (J7 P e) ps fun cs bs=>K (.ptr (D5 N i) 0) ((D5 N i,.st cs)::bs))
 |none=>
  match p with
  |.tup ps=>Ds (A3l P t) fun e=>Ar (Nat.blt i 8) (Ai ps fun q r=>Ap r (Lg (A7 P e) q fun n c=>K (.view (D5 N i) (A7 P e) 0 n) [(D5 N i,.ar false c)]))
  |p=>
   bif Cj P t then Ep p fun ps=>KJ N (i+N) (J7 P t) ps fun cs bs=>K (.agg cs) bs
   else KJ N (i+N) (J7 P t) [p] fun cs bs=>Ai cs fun c r=>Ap r (K c bs)
def Aj3(P:Program)(N:Nat):Nat->List TypeId->Ad->(List (Nat × PV)->List (Nat × B2)->Option R)->Option R
 |_,[],ps,K=>Ap ps (K [] [])
 |i,t::ts,ps,K=>Ai ps fun p ps=>inK P N i t p fun v bs=>Aj3 P N (i+1) ts ps fun vs bs'=>K ((i,v)::vs) (bs++bs')
def Awx(hp:Nat->Option B2)(t:CT)(p:PV)(K:PV->Bz->Bz->Option R):Option R:=
  match t with
  |.sl es=>
    match p with
    |.view id es' off n=>bif Nat.beq es' es&&Nat.beq off 0 then
        (match hp id with
         |some (.ar false c)=>Ar (decide (n*es<=c.length)) (K (.own es n (c.take (n*es))) [id] [])
         |_=>none) else none
    |p=>Xd es p fun z _ _=>Ar z (K (.own es 0 []) [] [])
  |t=>IJ t p fun c=>K c [] []
def Ahj(shr:Bool)(hp:Nat->Option B2)(t:CT)(p:PV)(K:PV->Bz->Bz->Option R):Option R:=
 bif shr then R6 (Mm hp) t p fun c m=>K c [] m else Awx hp t p K
def HS(shr:Bool)(hp:Nat->Option B2):List CT->Ad->(Ad->Bz->Bz->Option R)->Option R
 |[],[],K=>K [] [] []
 |t::ts,p::ps,K=>Ahj shr hp t p fun c m z=>HS shr hp ts ps fun cs ms zs=>K (c::cs) (m++ms) (z++zs)
 |_,_,_=>none
def Aok(P:Program)(shr:Bool)(hp:Nat->Option B2)(t:TypeId)(p:PV)(K:PV->Bz->Bz->Option R):Option R:=
 match FP P t with
 |some e=>
  match p with
  |.ptr id off=>
   match hp id with
   |some (.st c)=>Ar (Nat.beq off 0) (HS shr hp (J7 P e) c fun cs m z=>K (.pbox cs) (id::m) z)
   |_=>none
  |_=>none
 |none=>
  bif Cj P t then Ep p fun ps=>HS shr hp (J7 P t) ps fun cs m z=>K (.agg cs) m z
  else HS shr hp (J7 P t) [p] fun cs m z=>Ai cs fun c r=>Ap r (K c m z)
def Aqw(P:Program)(s:St)(r:ResultVar)(K:PV->Option R):Option R:=
 match r with
 |.tmp t=>K (s.tm t)
 |.cell a t=>EO false P (rd s.hp) (Mm s.hp) t (s.tm a) K
def XQ(P:Program)(shr:Bool)(s:St):List ResultVar->List TypeId->(Ad->Bz->Bz->Option R)->Option R
 |[],[],K=>K [] [] []
 |r::rs,t::ts,K=>Aqw P s r fun p=>Aok P shr s.hp t p fun v m z=>XQ P shr s rs ts fun vs ms zs=>K (v::vs) (m++ms) (z++zs)
 |_,_,_=>none
def MB(hp:Nat->Option B2):List CT->Ad->Ad->(Ad->Bz->Bz->Option R)->Option R
 |[],[],[],K=>K [] [] []
 |t::ts,w::ws,p::ps,K=>Ahj (match w with | .own _ _ _=>false|_=>true) hp t p fun c m z=>MB hp ts ws ps fun cs ms zs=>K (c::cs) (m++ms) (z++zs)
 |_,_,_,_=>none
def HH(P:Program)(N:Nat)(hp:Nat->Option B2):Nat->List TypeId->Ad->(List Ad->Bz->Bz->Bz->Option R)->Option R
 |_,[],ps,K=>Ap ps (K [] [] [] [])
 |i,t::ts,ps,K=>Ai ps fun p ps=>
  match p with
  |.pbox ws=>Ds (FP P t) fun e=>
    match hp (D5 N i) with
    |some (.st c)=>MB hp (J7 P e) ws c fun cs m z=>HH P N hp (i+1) ts ps fun r m' z' q=>K (cs::r) (m++m') (z++z') (D5 N i::q)
    |_=>none
  |.tup _=>
    match hp (D5 N i) with
    |some (.ar false c)=>HH P N hp (i+1) ts ps fun r m' z' q=>K (c::r) m' z' (D5 N i::q)
    |_=>none
  |_=>HH P N hp (i+1) ts ps K
def MC(rs:List ResultVar):Nat:=rs.foldl (fun m r=>match r with | .tmp t=>Anu m t | .cell a _=>Anu m a) 0
end
def Ye(P:Program):Nat->List TypeId->Nat->Nat
 |_,[],m=>m
 |i,t::ts,m=>Ye P (i+1) ts (match P.underlying t with|some (.pointer _)=>Anu m i|_=>m)
def SD(C:Gw)(P:Program)(f:FuncId)(fn:Func)(args:Ad)(s:St):Option A1:=
 XQ P (C.shr f) s fn.results.toList fn.resultTypes.toList fun vs m z=>HH P fn.ntmps s.hp 0 fn.params.toList args fun os m' z' q=>
  Ar (Em ((m++m')++q)&&(z++z').all (fun i=> !(((m++m')++q).any (Nat.beq i)))) (some ⟨vs,os⟩)
def Al1(C:Gw)(P:Program)(fu:Nat)(call:Aq)(f:FuncId)(fn:Func)(c:Code)(args:Ad):Option A1:=
  Aj3 P fn.ntmps 0 fn.params.toList args fun tms bs=>Ar (Nat.ble args.length fn.ntmps&&B6 (fun _=>none) bs)
    (let lr:=Ye P 0 fn.params.toList (MC fn.results.toList)
     Mo C P fu fn.ntmps call c lr (fun _=>0) lr (SD C P f fn args) (fun _ _=>none) (SD C P f fn args) ⟨lk tms,Fw bs⟩)
def Ac(C:Gw)(P:Program)(fu:Nat):Nat->FuncId->Ad->Option A1
 |0,_,_=>none
 |d+1,f,args=>
  match C.ext f with
  |some g=>g args
  |none=>
   match P.funcs[f]? with
   |none=>none
   |some fn=>match fn.body with
    |none=>none
    |some c=>Al1 C.core P fu (Ac C P fu d) f fn c args
inductive Dir where
 |l
 |r
 |i (m:Nat)
section
variable {R:Type}
def BN(C:Gw)(P:Program)(fu N:Nat)(call:Aq):List Dir->Code->Nat->(Nat->Nat)->Nat->(St->Option R)->(Nat->St->Option R)->(St->Option R)->Nat->St->Option R
 |[],.seq _ b,ln,lx,lr,kn,kx,kr,n,s=>DR n (fun s''=>Mo C P fu N call b ln lx lr kn kx kr s'') s
 |[],.loop c,ln,lx,lr,_,kx,kr,n,s=>Af0 (fun k s'=>Mo C P fu N call c (Kx (.loop c) ln lx lr) lx lr k kx kr s') (DI N (Kx (.loop c) ln lx lr)) n s
 |.l::p,.seq a b,ln,lx,lr,kn,kx,kr,n,s=>BN C P fu N call p a (Kx b ln lx lr) lx lr (fun s'=>KV (Ads P a b) (KV (Vb a b) (Aie N (Kx b ln lx lr) s' (DR fu fun s''=>Mo C P fu N call b ln lx lr kn kx kr s'')) (DI N (Kx b ln lx lr) s' (DR fu fun s''=>Mo C P fu N call b ln lx lr kn kx kr s''))) (Mo C P fu N call b ln lx lr kn kx kr s')) kx kr n s
 |.r::p,.seq _ b,ln,lx,lr,kn,kx,kr,n,s=>BN C P fu N call p b ln lx lr kn kx kr n s
 |.l::p,.cond _ a _,ln,lx,lr,kn,kx,kr,n,s=>BN C P fu N call p a ln lx lr kn kx kr n s
 |.r::p,.cond _ _ b,ln,lx,lr,kn,kx,kr,n,s=>BN C P fu N call p b ln lx lr kn kx kr n s
 |.l::p,.block id c,ln,lx,lr,kn,kx,kr,n,s=>BN C P fu N call p c ln (fun j=>bif Nat.beq j id then ln else lx j) lr kn (fun j s'=>bif Nat.beq j id then kn s' else kx j s') kr n s
 |.i m::p,.loop c,ln,lx,lr,_,kx,kr,n,s=>
  BN C P fu N call p c (Kx (.loop c) ln lx lr) lx lr
   (fun s'=>DI N (Kx (.loop c) ln lx lr) s' (Af0 (fun k s'=>Mo C P fu N call c (Kx (.loop c) ln lx lr) lx lr k kx kr s') (DI N (Kx (.loop c) ln lx lr)) m)) kx kr n s
 |_,_,_,_,_,_,_,_,_,_=>none
end
def A6q(C:Gw)(P:Program)(fu:Nat)(call:Aq)(f:FuncId)(fn:Func)(c:Code)(args:Ad)(p:List Dir)(n:Nat)(s:St):Option A1:=
 let lr:=Ye P 0 fn.params.toList (MC fn.results.toList)
 BN C P fu fn.ntmps call p c lr (fun _=>0) lr (SD C P f fn args) (fun _ _=>none) (SD C P f fn args) n s
def Au5:Bz:=[
 99,
 1000000]
def A15:Bz:=[
 57,
 17,
 104,
 55,
 11,
 6,
 35,
 67,
 100,
 101,
 19,
 13,
 9,
 18,
 1000000]
def Azm:Bz:=[
 1000000]
def Aus:Bz:=[
 1000000]
def Az9:Bz:=[
 195,
 215,
 199,
 150,
 194,
 170,
 171,
 197,
 217,
 151,
 169,
 1000000]
def Afh(args:Ad):Option A1:=
 match args with
 |[.sc (.string s)]=>bif decide (s.size<=9223372036854775807) then some ⟨[.sc (.bool (Lib.validD s.data.toList))],[]⟩ else none
 |_=>none
def NW(args:Ad):Option A1:=
  match args with
  |[.lst _ 1 n c,.lst _ 1 m c']=>bif Nat.beq c.length n&&Nat.beq c'.length m then
      (match bytesOf c,bytesOf c' with
       |some a,some b=>some ⟨[.sc (.int .i64 (Lib.compareBytes a b))],[]⟩
       |_,_=>none) else none
  |_=>none
def GM:Bz:=[
 52,
 85,
 86,
 87,
 116,
 88,
 53,
 89,
 54,
 41,
 26,
 51,
 27,
 146,
 179,
 156,
 138,
 161,
 158,
 180,
 201,
 202,
 66,
 124,
 125,
 123,
 98,
 64,
 136,
 112,
 79,
 45,
 73,
 50,
 147,
 148,
 149,
 127,
 95,
 126,
 96,
 128,
 97,
 61,
 153,
 102,
 103,
 100,
 101,
 67,
 35,
 62,
 32,
 1000000]
def Bb5:Bz:=[
 1000000]
def CB:Gw:=⟨fun f=>A15.any (Nat.beq f),fun f i=>Nat.beq i 0&&Az9.any (Nat.beq f),fun f i=>(Nat.beq i 0&&Azm.any (Nat.beq f))||(Nat.beq i 2&&Aus.any (Nat.beq f)),fun f=>Au5.any (Nat.beq f),fun _=>none,fun N=>Bb5.any (Nat.beq N)⟩
def CX(xs:FuncId->Option (Ad->Option A1)):Gw:={ CB with ext:=fun f=>bif GM.any (Nat.beq f) then none else xs f }
def YQ(f:Func):Code:=match f.body with|some c=>c|none=>.skip
section
variable {R:Type}{r:Option R}
theorem A8{k:IntKind}{p:PV}{K:Int->Option R}{n:Int}(h:p=.sc (.int k n))(hk:K n=r):Bc k p K=r:=by subst h;unfold Bc;simp[hk]
theorem Bb4{p:PV}{K:IntKind->Int->Option R}{k:IntKind}{n:Int}(h:p=.sc (.int k n))(hk:K k n=r):Ea p K=r:=by subst h;exact hk
theorem A2{p:PV}{K:Bool->Option R}{b:Bool}(h:p=.sc (.bool b))(hk:K b=r):Bu p K=r:=by subst h;exact hk
theorem Bi{p:PV}{K:ByteArray->Option R}{s:ByteArray}(h:p=.sc (.string s))(hk:K s=r):Bv p K=r:=by subst h;exact hk
theorem Aw3{es:Nat}{p:PV}{K:Bool->Nat->Ad->Option R}{z:Bool}{n:Nat}{c:Ad}(h:p=.lst z es n c)(hk:K z n c=r):Xd es p K=r:=by subst h;unfold Xd;simp[Qi,hk]
theorem US{es:Nat}{p:PV}{K:Nat->Ad->Option R}{n:Nat}{c:Ad}(h:p=.own es n c)(hk:K n c=r):Lg es p K=r:=by subst h;unfold Lg;simp[Qi,hk]
theorem A9{b:Bool}{K:Option R}(h:b=true)(hk:K=r):Ar b K=r:=by subst h;exact hk
theorem Bdd{b:Bool}{x y:Option R}(h:b=true)(hx:x=r):Ax b x y=r:=by subst h;exact hx
theorem Bam{b:Bool}{x y:Option R}(h:b=false)(hx:y=r):Ax b x y=r:=by subst h;exact hx
theorem E3{α:Type}{o:Option α}{K:α->Option R}{a:α}(h:o=some a)(hk:K a=r):Ds o K=r:=by subst h;exact hk
theorem A0{α:Type}{l:List α}{K:α->List α->Option R}{a:α}{t:List α}(h:l=a::t)(hk:K a t=r):Ai l K=r:=by subst h;exact hk
theorem Ba{α:Type}{l:List α}{K:Option R}(h:l=[])(hk:K=r):Ap l K=r:=by subst h;exact hk
theorem Kv{p:PV}{K:Ad->Option R}{c:Ad}(h:p=.agg c)(hk:K c=r):Ep p K=r:=by subst h;exact hk
theorem Aib{p:PV}{K:Ad->Option R}{c:Ad}(h:p=.pbox c)(hk:K c=r):BI p K=r:=by subst h;exact hk
theorem Az{o:Option A1}{K:Ad->List Ad->Option R}{v:Ad}{q:List Ad}(h:o=some ⟨v,q⟩)(hk:K v q=r):Bm o K=r:=by subst h;exact hk
end
theorem LD(a b:Int):(a != b)=decide (a≠b):=by by_cases h:a=b<;>simp[h,bne]
theorem Ako(a b:Int):(a==b)=decide (a=b):=by by_cases h:a=b<;>simp[h]
section
variable {R:Type}
theorem Zh(v:Ad)(o:List Ad)(K:Ad->List Ad->Option R):Bm (some ⟨v,o⟩) K=K v o:=by exact id rfl
theorem HN{α:Type}(K:Option R):Ap ([]:List α) K=K:=by exact id rfl
theorem Z1{α:Type}(a:α)(r:List α)(K:α->List α->Option R):Ai (a::r) K=K a r:=by exact id rfl
theorem EC(b:Bool)(K:Bool->Option R):Bu (.sc (.bool b)) K=K b:=by exact id rfl
theorem YV(s:ByteArray)(K:ByteArray->Option R):Bv (.sc (.string s)) K=K s:=by exact id rfl
theorem OP(k:IntKind)(n:Int)(K:Int->Option R):Bc k (.sc (.int k n)) K=K n:=by unfold Bc;simp
theorem Api(k:IntKind)(n:Int)(K:IntKind->Int->Option R):Ea (.sc (.int k n)) K=K k n:=by exact id rfl
theorem Ax6(z:Bool)(es n:Nat)(c:Ad)(K:Bool->Nat->Ad->Option R):Xd es (.lst z es n c) K=K z n c:=by unfold Xd;simp
theorem Aye(es n:Nat)(c:Ad)(K:Nat->Ad->Option R):Lg es (.own es n c) K=K n c:=by unfold Lg;simp
theorem Aqh(c:Ad)(K:Ad->Option R):Ep (.agg c) K=K c:=by exact id rfl
theorem Ah8(c:Ad)(K:Ad->Option R):BI (.pbox c) K=K c:=by exact id rfl
theorem Aqo{α:Type}(a:α)(K:α->Option R):Ds (some a) K=K a:=by exact id rfl
theorem F5{α:Type}(a:α)(K:α->Option R):Aa a K=K a:=by exact id rfl
theorem Ap3(K:Option R):Ar true K=K:=by exact id rfl
theorem YE(p:Prop)[Decidable p](K:Option R)(h:p):Ar (decide p) K=K:=by simp[Ar,h]
theorem Ah4(b c:Bool)(K:Option R):Ar (b&&c) K=Ar b (Ar c K):=by cases b<;>rfl
theorem WF(x y:Option R):Ax true x y=x:=by exact id rfl
theorem WS(x y:Option R):Ax false x y=y:=by exact id rfl
theorem ON(p:Prop)[Decidable p](x y:Option R)(h:p):Ax (decide p) x y=x:=by simp[Ax,h]
theorem Hh(p:Prop)[Decidable p](x y:Option R)(h:¬p):Ax (decide p) x y=y:=by simp[Ax,h]
theorem X6(p:Prop)[Decidable p](x y:Option R):Ax (decide p) x y=if p then x else y:=by by_cases h:p<;>simp[Ax,h]
theorem Ahz(b:Bool)(x y:Option R):Ax b x y=if b=true then x else y:=by cases b<;>rfl
theorem Ani(b:Bool)(x y:Option R):Ax (!b) x y=Ax b y x:=by cases b<;>rfl
theorem Ny(a b:Int)(x y:Option R):Ax (a==b) x y=if a=b then x else y:=by rw[Ako,X6]
theorem G2(a b:Int)(x y:Option R):Ax (a != b) x y=if a=b then y else x:=by rw[LD,X6];by_cases h:a=b<;>simp[h]
theorem YP(x:Option R):V8 x x=x:=by unfold V8;simp
end
theorem Fz{x:Int}(h1: -9223372036854775808<=x)(h2:x<=9223372036854775807):IntKind.wrap .i64 x=x:=by have:=IntWalk.i64_in x (by omega);exact this
theorem wrap_u64{x:Int}(h1:0<=x)(h2:x<=18446744073709551615):IntKind.wrap .u64 x=x:=by simp only[IntKind.wrap,IntKind.signed,IntKind.bits];simp;omega
theorem Nw{x:Int}(h1:0<=x)(h2:x<=255):IntKind.wrap .u8 x=x:=by simp only[IntKind.wrap,IntKind.signed,IntKind.bits];simp;omega
theorem Ri(x:Int):0<=IntKind.wrap .u64 x/\IntKind.wrap .u64 x<=18446744073709551615:=by simp only[IntKind.wrap,IntKind.signed,IntKind.bits];simp;omega
theorem Ags{c:Prop}[Decidable c](k:IntKind)(a b:Int)(o:List Ad):(if c then some (A1.mk [.sc (.int k a)] o) else some (A1.mk [.sc (.int k b)] o))=some (A1.mk [.sc (.int k (if c then a else b))] o):=by split<;>rfl
theorem Dx{α:Type}{l r:List α}{x:α}{i:Nat}(h:l.drop i=x::r):i<l.length/\l[i]?=some x/\l.drop (i+1)=r:=by
 have h1:i<l.length:=by
  rcases Id i l.length with h1|h1
  ·exact h1
  ·rw[List.drop_of_length_le h1] at h;cases h
 rw[List.drop_eq_getElem_cons h1] at h;injection h with h2 h3;exact⟨h1,by rw[List.getElem?_eq_getElem h1,h2],h3⟩
theorem drop_nil{α:Type}{l:List α}{i:Nat}(h:l.drop i=[]):l.length<=i:=by have:=congrArg List.length h;simp at this;omega
section
variable {α:Type}{f:α->Ad}{k:Nat}
theorem PN(hf:∀x,(f x).length=k):∀(l:List α),(l.flatMap f).length=l.length*k
 |[]=>by simp
 |x::l=>by simp[hf x,PN hf l,Nat.succ_mul];omega
theorem ZK(hf:∀x,(f x).length=k):∀(l:List α)(i:Nat),(l.flatMap f).drop (i*k)=(l.drop i).flatMap f
 |l,0=>by simp
 |[],i+1=>by simp
 |x::l,i+1=>by
  rw[Kb,Nat.succ_mul,Nat.add_comm,<-List.drop_drop,List.drop_append_of_le_length (by rw[hf x];omega)]
  rw[show (f x).drop k=[] from List.drop_of_length_le (by rw[hf x];omega),NK]
  exact ZK hf l i
theorem Ahw(hf:∀x,(f x).length=k):∀(l:List α)(i:Nat),(l.flatMap f).take (i*k)=(l.take i).flatMap f
 |l,0=>by simp
 |[],i+1=>by simp
 |x::l,i+1=>by
  rw[Kb,Nat.succ_mul,Nat.add_comm,List.take_succ_cons,Kb,<-Ahw hf l i];rw[show k+i*k=(f x).length+i*k by rw[hf x],List.take_length_add_append]
theorem NZ(hf:∀x,(f x).length=k){l:List α}{i:Nat}{x:α}(h:l[i]?=some x){j:Nat}(hj:j<k):(l.flatMap f).getD (i*k+j) .top=(f x).getD j .top:=by
 have h1:((l.flatMap f).drop (i*k))[j]?=(l.flatMap f)[i*k+j]?:=List.getElem?_drop;rw[ZK hf] at h1
 have h2:i<l.length:=by
  rcases Id i l.length with h1|h1
  ·exact h1
  ·rw[List.getElem?_eq_none h1] at h;cases h
 rw[List.drop_eq_getElem_cons h2,Kb] at h1;have h3:l[i]=x:=by rw[List.getElem?_eq_getElem h2] at h;injection h
 rw[h3,List.getElem?_append_left (by rw[hf x];exact hj)] at h1
 simp only[List.getD_eq_getElem?_getD,<-h1]
theorem Ku{c:Ad}{p:PV}{i:Nat}(h:i<c.length):B1 c [p] i=c.set i p:=by unfold B1;rw[List.set_eq_take_append_cons_drop,Cy h];simp
end
theorem A0r{α:Type}{l:List α}{i:Nat}{x:α}(h:l[i]?=some x):i<l.length:=by
 rcases Id i l.length with h1|h1
 ·exact h1
 ·rw[List.getElem?_eq_none h1] at h;cases h
abbrev A3u(k:IntKind)(n:Int):Ad:=[.sc (.int k n)]
abbrev Ae(k:IntKind)(l:Aj):Ad:=l.flatMap (A3u k)
theorem GG(k:IntKind)(n:Int):(A3u k n).length=1:=rfl
theorem EA{k:IntKind}{l:Aj}{i:Nat}{n:Int}(h:l[i]?=some n):(Ae k l).getD i .top=.sc (.int k n):=by
 have:=NZ (GG k) h (j:=0) (by omega)
 simpa using this
theorem Al(k:IntKind)(l:Aj):(Ae k l).length=l.length:=by rw[PN (GG k)];omega
theorem Um(k:IntKind)(l:Aj)(n:Int):Ae k l++[.sc (.int k n)]=Ae k (l++[n]):=by simp
theorem LX(k:IntKind)(l:Aj):List.take l.length (Ae k l)=Ae k l:=Ji (by rw[Al];omega)
theorem A4:type_of% @Zh/\type_of% @HN/\type_of% @Z1/\type_of% @EC/\type_of% @YV/\type_of% @OP/\type_of% @Api/\type_of% @Ax6/\type_of% @Aye/\type_of% @Aqh/\type_of% @Ah8/\type_of% @Aqo/\type_of% @F5/\type_of% @Ap3/\type_of% @YE/\type_of% @Ah4/\type_of% @WF/\type_of% @WS/\type_of% @ON/\type_of% @Hh/\type_of% @YP/\type_of% @Bool.not_true/\type_of% @Bool.not_false/\type_of% @Bool.false_eq_true/\type_of% @if_true.{1}/\type_of% @if_false.{1}/\type_of% @Bool.true_and/\type_of% @Bool.and_true/\type_of% @Bool.false_and/\type_of% @Bool.and_false/\type_of% @decide_true/\type_of% @decide_false:=
 ⟨@Zh,@HN,@Z1,@EC,@YV,@OP,@Api,@Ax6,@Aye,@Aqh,@Ah8,@Aqo,@F5,@Ap3,@YE,@Ah4,@WF,@WS,@ON,@Hh,@YP,@Bool.not_true,@Bool.not_false,@Bool.false_eq_true,@if_true.{1},@if_false.{1},@Bool.true_and,@Bool.and_true,@Bool.false_and,@Bool.and_false,@decide_true,@decide_false⟩
theorem gT:type_of% @Bool.and_eq_true/\type_of% @decide_eq_true_eq/\type_of% @beq_iff_eq.{0}/\type_of% @bne_iff_ne.{0}/\type_of% @ne_eq.{1}/\type_of% @Bool.not_eq_true'/\type_of% @true_and/\type_of% @and_true:=
 ⟨@Bool.and_eq_true,@decide_eq_true_eq,@beq_iff_eq.{0},@bne_iff_ne.{0},@ne_eq.{1},@Bool.not_eq_true',@true_and,@and_true⟩
theorem gF:type_of% @decide_eq_false_iff_not/\type_of% @beq_eq_false_iff_ne.{0}/\type_of% @bne_eq_false_iff_eq.{0}/\type_of% @ne_eq.{1}/\type_of% @Bool.not_eq_false':=
 ⟨@decide_eq_false_iff_not,@beq_eq_false_iff_ne.{0},@bne_eq_false_iff_eq.{0},@ne_eq.{1},@Bool.not_eq_false'⟩
section
open Go.RowKit
def Be{α β:Type}(R:α->β->Prop):List α->List β->Prop
 |[],[]=>True
 |a::zs,b::bs=>R a b/\Be R zs bs
 |_,_=>False
section
variable {α β γ:Type}{R S:α->β->Prop}
theorem Be.len:∀{zs:List α}{bs:List β},Be R zs bs->zs.length=bs.length
 |[],[],_=>rfl
 |_::_,_::_,h=>by simp[Be.len h.2]
 |[],_::_,h=>h.elim
 |_::_,[],h=>h.elim
theorem Be.at_:∀{zs:List α}{bs:List β},Be R zs bs->∀{i:Nat} {a b},zs[i]?=some a->bs[i]?=some b->R a b
 |[],[],_,i,a,b,h,_=>by simp at h
 |_::_,_::_,h,0,a,b,ha,hb=>by simp at ha hb;subst ha;subst hb;exact h.1
 |_::_,_::_,h,i+1,a,b,ha,hb=>by simp at ha hb;exact Be.at_ h.2 ha hb
 |[],_::_,h,_,_,_,_,_=>h.elim
 |_::_,[],h,_,_,_,_,_=>h.elim
theorem Be.of_at:∀{zs:List α}{bs:List β},zs.length=bs.length->(∀(i:Nat) a b,zs[i]?=some a->bs[i]?=some b->R a b)->Be R zs bs
 |[],[],_,_=>trivial
 |a::zs,b::bs,hl,h=>⟨h 0 a b rfl rfl,Be.of_at (by simpa using hl) fun i x y hx hy=>h (i+1) x y hx hy⟩
 |[],_::_,hl,_=>by simp at hl
 |_::_,[],hl,_=>by simp at hl
theorem Be.mono(hRS:∀a b,R a b->S a b):∀{zs:List α}{bs:List β},Be R zs bs->Be S zs bs
 |[],[],_=>trivial
 |_::_,_::_,h=>⟨hRS _ _ h.1,Be.mono hRS h.2⟩
 |[],_::_,h=>h.elim
 |_::_,[],h=>h.elim
theorem Be.mono_mem:∀{zs:List α}{bs:List β},(∀a∈zs,∀b,R a b->S a b)->Be R zs bs->Be S zs bs
 |[],[],_,_=>trivial
 |a::_,_::_,hRS,h=>⟨hRS a (by simp) _ h.1,Be.mono_mem (fun x hx=>hRS x (by simp[hx])) h.2⟩
 |[],_::_,_,h=>h.elim
 |_::_,[],_,h=>h.elim
theorem Be.app:∀{zs:List α}{bs:List β}{as':List α}{bs':List β},Be R zs bs->Be R as' bs'->Be R (zs++as') (bs++bs')
 |[],[],_,_,_,h'=>h'
 |_::_,_::_,_,_,h,h'=>⟨h.1,Be.app h.2 h'⟩
 |[],_::_,_,_,h,_=>h.elim
 |_::_,[],_,_,h,_=>h.elim
theorem Be.take:∀(n:Nat){zs:List α}{bs:List β},Be R zs bs->Be R (zs.take n) (bs.take n)
 |0,_,_,_=>by simp[Be]
 |_+1,[],[],_=>trivial
 |n+1,_::_,_::_,h=>⟨h.1,Be.take n h.2⟩
 |_+1,[],_::_,h=>h.elim
 |_+1,_::_,[],h=>h.elim
theorem Be.drop:∀(n:Nat){zs:List α}{bs:List β},Be R zs bs->Be R (zs.drop n) (bs.drop n)
 |0,_,_,h=>h
 |_+1,[],[],_=>trivial
 |n+1,_::_,_::_,h=>Be.drop n h.2
 |_+1,[],_::_,h=>h.elim
 |_+1,_::_,[],h=>h.elim
end
inductive At(w:World)(A:Nat->Prop):PV->Value->Prop where
 |sc (v:Value):At w A (.sc v) v
 |top (v:Value):At w A .top v
 |ub (b:Bool):At w A .ub (.bool b)
 |lnil (z:Bool) (es:Nat):At w A (.lst z es 0 []) (.slice none 0 0)
 |lemp (es:Nat) (a:Addr) (cap:Nat):At w A (.lst false es 0 []) (.slice (some a) 0 cap)
 |lst (es n:Nat) (cells:Ad) (a:Addr) (cap:Nat) (f:Nat->Value) (hs:a.spot=none) (hb:a.block<w.heap.size) (hA:¬A a.block) (hn:n<=cap)
   (hc:∀j c,cells[j]?=some c->w.cell? (a.add j)=some (f j)) (h1:∀j c,cells[j]?=some c->(f j).oneCell'=true) (hr:∀j c,cells[j]?=some c->At w A c (f j)):At w A (.lst false es n cells) (.slice (some a) n cap)
def bsz(w:World)(b:Nat):Nat:=
 match w.heap[b]? with
 |some (.cells c _ _)=>c.size
 |_=>0
def Ab4(w:World)(b:Nat):Bool:=w.frozen? ⟨b,bsz w b,none⟩
def Fit(w:World)(es b e:Nat):Prop:=e<=bsz w b/\(es=1\/Ab4 w b=false)
def Ij(w w':World)(b:Nat):Prop:=bsz w b<=bsz w' b/\(Ab4 w b=false->Ab4 w' b=false)
theorem Ij.refl(w:World)(b:Nat):Ij w w b:=⟨Cn _,id⟩
theorem Ij.same{w w':World}{b:Nat}(h:w'.heap[b]?=w.heap[b]?):Ij w w' b:=by
 have e:bsz w' b=bsz w b:=by unfold bsz;rw[h]
 refine⟨by rw[e];exact Cn _,fun q=>?_⟩
 unfold Ab4 at q ⊢;rw[e];unfold World.frozen? at q ⊢;simp only[h];exact q
theorem Ij.trans{w w' w'':World}{b:Nat}(h:Ij w w' b)(h':Ij w' w'' b):Ij w w'' b:=⟨Nat.le_trans h.1 h'.1,fun q=>h'.2 (h.2 q)⟩
theorem Fit.step{w w':World}{es b e:Nat}(h:Fit w es b e)(hb:Ij w w' b):Fit w' es b e:=⟨Nat.le_trans h.1 hb.1,h.2.imp id hb.2⟩
def RdT(w:World)(A:Nat->Prop)(a:Addr)(cells:Ad):Prop:=∀j c,cells[j]?=some c->∃v,w.cell? (a.add j)=some v/\v.oneCell'=true/\At w A c v
def Cd(w:World)(A:Nat->Prop)(β:Nat->Option (Nat × Nat))(p:PV)(v:Value):Prop:=
 match p with
 |.view id es off n=>(β id=none/\off=0/\n=0/\∃ad,v=.slice ad 0 0) \/
   ∃b o x cap,β id=some (b,o)/\v=.slice (some ⟨b,x,none⟩) n cap/\(x=o+off\/(n=0/\off≠0))/\n<=cap/\Fit w es b (x+cap*es)/\b<w.heap.size
 |.ptr id off=>∃b o,β id=some (b,o)/\v=.pointer (some ⟨b,o+off,none⟩)
 |.iptr c off=>∃a:Addr,v=.pointer (some (a.add off))/\a.spot=none/\a.block<w.heap.size/\¬A a.block/\RdT w A a c
 |p=>At w A p v
def Jo(w:World)(A:Nat->Prop)(β:Nat->Option (Nat × Nat))(p:PV)(v:Value):Prop:=
 match p with
 |.agg cs=>∃vs,v=.agg ⟨vs⟩/\Be (Cd w A β) cs vs
 |p=>Cd w A β p v
def Fg(w:World)(A:Nat->Prop)(β:Nat->Option (Nat × Nat))(p:PV)(v:Value):Prop:=
 match p with
 |.tup ps=>∃vs,v=.tuple ⟨vs⟩/\Be (Jo w A β) ps vs
 |p=>Jo w A β p v
structure Cq(A:Nat->Prop)(w w':World):Prop where
 size:w.heap.size<=w'.heap.size
 keep:∀b,b<w.heap.size->¬A b->w'.heap[b]?=w.heap[b]?
 bs:∀b,b<w.heap.size->Ij w w' b
theorem Fx(a:Addr)(j:Nat):(a.add j).block=a.block:=by unfold Addr.add;split<;>rfl
theorem add_add(a:Addr)(i j:Nat):(a.add i).add j=a.add (i+j):=by unfold Addr.add;by_cases hi:i=0<;>by_cases hj:j=0<;>simp[hi,hj,Pi]
theorem Ff(b o j:Nat):(⟨b,o,none⟩:Addr).add j=⟨b,o+j,none⟩:=by unfold Addr.add;by_cases hj:j=0<;>simp[hj]
theorem Anh{a:Addr}(h:a.spot=none)(j:Nat):(a.add j).spot=none:=by unfold Addr.add;split<;>simp[h]
section
variable {w w':World}{A A':Nat->Prop}{β β':Nat->Option (Nat × Nat)}
theorem Cq.cell(h:Cq A w w'){a:Addr}(hb:a.block<w.heap.size)(hA:¬A a.block):w'.cell? a=w.cell? a:=
 World.cell?_of_block (h.keep a.block hb hA)
theorem At.step(h:Cq A w w')(hA:∀b,b<w.heap.size->A' b->A b){p:PV}{v:Value}(t:At w A p v):At w' A' p v:=by
 induction t with
 |sc v=>exact .sc v
 |top v=>exact .top v
 |ub b=>exact .ub b
 |lnil z es=>exact .lnil z es
 |lemp es a cap=>exact .lemp es a cap
 |lst es n cells a cap f hs hb hA1 hn hc h1 hr ih=>
  refine .lst es n cells a cap f hs (Gb hb h.size) (fun x=>hA1 (hA _ hb x)) hn (fun j c hj=>?_) h1 (fun j c hj=>ih j c hj);rw[h.cell (by rw[Fx];exact hb) (by rw[Fx];exact hA1)]
  exact hc j c hj
theorem RdT.step(h:Cq A w w')(hA:∀b,b<w.heap.size->A' b->A b){a:Addr}(hb:a.block<w.heap.size)(hn:¬A a.block){cells:Ad}(t:RdT w A a cells):RdT w' A' a cells:=by intro j c hj;obtain⟨v,hv,h1,ht⟩:=t j c hj;exact⟨v,by rw[h.cell (by rw[Fx];exact hb) (by rw[Fx];exact hn)];exact hv,h1,ht.step h hA⟩
theorem Cd.step(h:Cq A w w')(hA:∀b,b<w.heap.size->A' b->A b){p:PV}{v:Value}(hβ:∀id∈As p,β' id=β id)(t:Cd w A β p v):Cd w' A' β' p v:=by
 cases p with
 |view id es off n=>
  have e:=hβ id (by simp[As]);rcases t with⟨h1,h2,h3,h4⟩|⟨b,o,x,cap,h1,h2,hx,h3,h4,h5⟩
  ·exact .inl ⟨by rw[e];exact h1,h2,h3,h4⟩
  ·exact .inr ⟨b,o,x,cap,by rw[e];exact h1,h2,hx,h3,h4.step (h.bs b h5),Gb h5 h.size⟩
 |ptr id off=>
  have e:=hβ id (by simp[As]);obtain⟨b,o,h1,h2⟩:=t;exact⟨b,o,by rw[e];exact h1,h2⟩
 |iptr c off=>
  obtain⟨a,h1,h2,h3,h4,h5⟩:=t;exact⟨a,h1,h2,Gb h3 h.size,fun x=>h4 (hA _ h3 x),h5.step h hA h3 h4⟩
 |sc v=>exact At.step h hA t
 |lst z es n c=>exact At.step h hA t
 |own es n c=>exact At.step h hA t
 |pbox c=>exact At.step h hA t
 |agg c=>exact At.step h hA t
 |tup c=>exact At.step h hA t
 |top=>exact At.step h hA t
 |ub=>exact At.step h hA t
theorem Jo.step(h:Cq A w w')(hA:∀b,b<w.heap.size->A' b->A b){p:PV}{v:Value}(hβ:∀id∈Ct p,β' id=β id)(t:Jo w A β p v):Jo w' A' β' p v:=by
 cases p with
 |agg cs=>
  obtain⟨vs,rfl,h2⟩:=t;exact⟨vs,rfl,h2.mono_mem fun c hc v hv=>hv.step h hA fun id Bx=>hβ id (by simp only[Ct,List.mem_flatMap];exact⟨c,hc,Bx⟩)⟩
 |sc x=>exact Cd.step (p:=.sc x) h hA hβ t
 |lst x y z u=>exact Cd.step (p:=.lst x y z u) h hA hβ t
 |own x y z=>exact Cd.step (p:=.own x y z) h hA hβ t
 |view x y z u=>exact Cd.step (p:=.view x y z u) h hA hβ t
 |ptr x y=>exact Cd.step (p:=.ptr x y) h hA hβ t
 |iptr x y=>exact Cd.step (p:=.iptr x y) h hA hβ t
 |pbox x=>exact Cd.step (p:=.pbox x) h hA hβ t
 |tup x=>exact Cd.step (p:=.tup x) h hA hβ t
 |top=>exact Cd.step (p:=.top) h hA hβ t
 |ub=>exact Cd.step (p:=.ub) h hA hβ t
theorem Fg.step(h:Cq A w w')(hA:∀b,b<w.heap.size->A' b->A b){p:PV}{v:Value}(hβ:∀id∈Cc p,β' id=β id)(t:Fg w A β p v):Fg w' A' β' p v:=by
 cases p with
 |tup cs=>
  obtain⟨vs,rfl,h2⟩:=t;exact⟨vs,rfl,h2.mono_mem fun c hc v hv=>hv.step h hA fun id Bx=>hβ id (by simp only[Cc,List.mem_flatMap];exact⟨c,hc,Bx⟩)⟩
 |sc x=>exact Jo.step (p:=.sc x) h hA hβ t
 |lst x y z u=>exact Jo.step (p:=.lst x y z u) h hA hβ t
 |own x y z=>exact Jo.step (p:=.own x y z) h hA hβ t
 |view x y z u=>exact Jo.step (p:=.view x y z u) h hA hβ t
 |ptr x y=>exact Jo.step (p:=.ptr x y) h hA hβ t
 |iptr x y=>exact Jo.step (p:=.iptr x y) h hA hβ t
 |pbox x=>exact Jo.step (p:=.pbox x) h hA hβ t
 |top=>exact Jo.step (p:=.top) h hA hβ t
 |ub=>exact Jo.step (p:=.ub) h hA hβ t
 |agg x=>exact Jo.step (p:=.agg x) h hA hβ t
theorem Cq.refl(A:Nat->Prop)(w:World):Cq A w w:=⟨Cn _,fun _ _ _=>rfl,fun _ _=>Ij.refl _ _⟩
theorem RdT.weak(hA:∀b,b<w.heap.size->A' b->A b){a:Addr}{cells:Ad}(t:RdT w A a cells):RdT w A' a cells:=by intro j c hj;obtain⟨v,hv,h1,ht⟩:=t j c hj;exact⟨v,hv,h1,ht.step (Cq.refl A w) hA⟩
theorem Cq.trans{w'':World}(h:Cq A w w')(h':Cq A' w' w'')(hA:∀b,b<w.heap.size->A' b->A b):Cq A w w'':=
  ⟨Nat.le_trans h.size h'.size,fun b hb hn=>(h'.keep b (Gb hb h.size) (fun x=>hn (hA b hb x))).trans (h.keep b hb hn),
   fun b hb=>(h.bs b hb).trans (h'.bs b (Gb hb h.size))⟩
theorem Cq.weaken(h:Cq A w w')(hA:∀b,b<w.heap.size->A b->A' b):Cq A' w w':=⟨h.size,fun b hb hn=>h.keep b hb (fun x=>hn (hA b hb x)),h.bs⟩
end
section
variable {R:Type}{r:R}
theorem Fe{k:IntKind}{p:PV}{K:Int->Option R}(h:Bc k p K=some r):∃n,p=.sc (.int k n)/\K n=some r:=by
 unfold Bc at h;split at h
 ·split at h
  ·rename_i hk;subst hk;exact⟨_,rfl,h⟩
  ·cases h
 ·cases h
theorem Eh{p:PV}{K:Bool->Option R}(h:Bu p K=some r):∃b,p=.sc (.bool b)/\K b=some r:=by
 unfold Bu at h;split at h
 ·exact⟨_,rfl,h⟩
 ·cases h
theorem D9{p:PV}{K:ByteArray->Option R}(h:Bv p K=some r):∃b,p=.sc (.string b)/\K b=some r:=by
 unfold Bv at h;split at h
 ·exact⟨_,rfl,h⟩
 ·cases h
theorem Ef{p:PV}{K:IntKind->Int->Option R}(h:Ea p K=some r):∃k n,p=.sc (.int k n)/\K k n=some r:=by
 unfold Ea at h;split at h
 ·exact⟨_,_,rfl,h⟩
 ·cases h
theorem Am{b:Bool}{K:Option R}(h:Ar b K=some r):b=true/\K=some r:=by
 unfold Ar at h;cases b
 ·cases h
 ·exact⟨rfl,h⟩
theorem Cs{α:Type}{o:Option α}{K:α->Option R}(h:Ds o K=some r):∃a,o=some a/\K a=some r:=by
 unfold Ds at h;split at h
 ·exact⟨_,rfl,h⟩
 ·cases h
theorem Bf{α:Type}{l:List α}{K:α->List α->Option R}(h:Ai l K=some r):∃a t,l=a::t/\K a t=some r:=by
 unfold Ai at h;split at h
 ·exact⟨_,_,rfl,h⟩
 ·cases h
theorem Eg{α:Type}{l:List α}{K:Option R}(h:Ap l K=some r):l=[]/\K=some r:=by
 unfold Ap at h;split at h
 ·exact⟨rfl,h⟩
 ·cases h
theorem Iw{p:PV}{K:Ad->Option R}(h:Ep p K=some r):∃c,p=.agg c/\K c=some r:=by
 unfold Ep at h;split at h
 ·exact⟨_,rfl,h⟩
 ·cases h
theorem VU{p:PV}{K:Ad->Option R}(h:BI p K=some r):∃c,p=.pbox c/\K c=some r:=by
 unfold BI at h;split at h
 ·exact⟨_,rfl,h⟩
 ·cases h
theorem Ajd{p:PV}{K:Value->Option R}(h:fnK p K=some r):∃v,p=.sc v/\v.oneCell'=true/\K v=some r:=by
 unfold fnK at h;split at h
 ·exact⟨_,rfl,rfl,h⟩
 ·exact⟨_,rfl,rfl,h⟩
 ·cases h
theorem Atk{p:PV}{K:FuncId->Option R}(h:fvK p K=some r):∃f,p=.sc (.func (.func f) #[] #[])/\K f=some r:=by
 unfold fvK at h;split at h
 ·rename_i f a b;cases hb:(a.isEmpty&&b.isEmpty)<;>rw[hb] at h
  ·cases h
  ·simp only[Er,Array.isEmpty_iff] at hb;rw[hb.1,hb.2];exact⟨f,rfl,h⟩
 ·cases h
theorem UD{o:Option A1}{K:Ad->List Ad->Option R}(h:Bm o K=some r):∃v x,o=some ⟨v,x⟩/\K v x=some r:=by
 unfold Bm at h;split at h
 ·exact⟨_,_,rfl,h⟩
 ·cases h
theorem Qe{b:Bool}{x y:Option R}(h:Ax b x y=some r):(b=true/\x=some r)\/(b=false/\y=some r):=by
 unfold Ax at h;cases b
 ·exact .inr ⟨rfl,h⟩
 ·exact .inl ⟨rfl,h⟩
theorem Hz{es:Nat}{p:PV}{K:Bool->Nat->Ad->Option R}(h:Xd es p K=some r):
  ∃z n c,K z n c=some r/\(p=.lst z es n c\/(p=.sc (.slice none 0 0)/\z=true/\n=0/\c=[])):=by
 unfold Xd at h;split at h
 ·rename_i z es' n c;cases hb:Nat.beq es' es
  ·rw[hb] at h;cases h
  ·rw[hb] at h;have:=C6 hb;subst this;exact⟨z,n,c,h,.inl rfl⟩
 ·exact⟨true,0,[],h,.inr ⟨rfl,rfl,rfl,rfl⟩⟩
 ·cases h
def BG:PV->Prop
 |.sc _=>True
 |.lst _ _ _ _=>True
 |_=>False
def RP:PV->Prop
 |.sc _=>True
 |.lst _ _ _ _=>True
 |.view _ _ _ _=>True
 |_=>False
theorem Vu{c:PV}(h:BG c):RP c:=by cases c<;>first|trivial|exact h.elim
theorem Jh{c:PV}(h:BG c):As c=[]:=by cases c<;>first|rfl|exact h.elim
variable {w:World}{A:Nat->Prop}{β:Nat->Option (Nat × Nat)}
theorem Og{c:PV}{v:Value}(h:BG c):Cd w A β c v↔At w A c v:=by cases c<;>first|exact Iff.rfl|exact h.elim
theorem EF{c:PV}{v:Value}(h:∀cs,c ≠ .agg cs):Jo w A β c v↔Cd w A β c v:=by cases c<;>first|exact Iff.rfl|exact absurd rfl (h _)
theorem Sj{c:PV}{v:Value}(h:∀cs,c ≠ .tup cs):Fg w A β c v↔Jo w A β c v:=by cases c<;>first|exact Iff.rfl|exact absurd rfl (h _)
theorem GB{c:PV}(h:BG c)(cs:Ad):c ≠ .agg cs:=by rintro rfl;exact h
theorem Ahd{c:PV}(h:BG c)(cs:Ad):c ≠ .tup cs:=by rintro rfl;exact h
theorem At.val{v u:Value}(h:At w A (.sc v) u):u=v:=by cases h;rfl
theorem BP{es n:Nat}{z:Bool}{c:Ad}{p:PV}{v:Value}(h:p=.lst z es n c\/(p=.sc (.slice none 0 0)/\z=true/\n=0/\c=[]))(hv:Cd w A β p v):At w A (.lst z es n c) v:=by
 rcases h with rfl|⟨rfl,rfl,rfl,rfl⟩
 ·exact hv
 ·have:=At.val (w:=w) (A:=A) hv;subst this;exact .lnil true es
theorem Qk{t:CT}{p:PV}{K:PV->Option R}(h:IJ t p K=some r):
  ∃c,K c=some r/\BG c/\BG p/\∀(w:World) (A:Nat->Prop) (β:Nat->Option (Nat × Nat)) (v:Value),Cd w A β p v->At w A c v/\v.oneCell'=true:=by
 cases t with
 |int k=>obtain⟨n,rfl,h2⟩:=Fe h;exact⟨_,h2,trivial,trivial,fun w A β v hv=>⟨hv,by have:=At.val (w:=w) (A:=A) hv;subst this;rfl⟩⟩
 |bool=>obtain⟨n,rfl,h⟩:=Eh h;exact⟨_,h,trivial,trivial,fun w A β v hv=>⟨hv,by have:=At.val (w:=w) (A:=A) hv;subst this;rfl⟩⟩
 |str=>obtain⟨n,rfl,h⟩:=D9 h;exact⟨_,h,trivial,trivial,fun w A β v hv=>⟨hv,by have:=At.val (w:=w) (A:=A) hv;subst this;rfl⟩⟩
 |sl es=>
  obtain⟨z,n,c,h,hp⟩:=Hz h;refine⟨_,h,trivial,?_,fun w A β v hv=>⟨BP hp hv,?_⟩⟩
  ·rcases hp with rfl|⟨rfl,_⟩<;>trivial
  ·have ht:=BP hp hv;cases ht<;>rfl
 |any=>
  obtain⟨u,rfl,h1,h2⟩:=Ajd (show fnK p (fun v=>K (.sc v))=some r from h);exact⟨_,h2,trivial,trivial,fun w A β v hv=>⟨hv,by have:=At.val (w:=w) (A:=A) hv;subst this;exact h1⟩⟩
theorem Av0{t:CT}{p:PV}{K:PV->Option R}(h:fcK t p K=some r):
  ∃c,K c=some r/\(BG c\/c=p)/\RP p/\p ≠ .top/\(∀cs,c ≠ .agg cs)/\(∀cs,c ≠ .tup cs)/\(∀id,id∈As c->id∈As p)/\∀(w:World) (A:Nat->Prop) (β:Nat->Option (Nat × Nat)) (v:Value),Cd w A β p v->Cd w A β c v/\v.oneCell'=true:=by
 have tree:∀t',IJ t' p K=some r->∃c,K c=some r/\(BG c\/c=p)/\RP p/\p ≠ .top/\(∀cs,c ≠ .agg cs)/\(∀cs,c ≠ .tup cs)/\(∀id,id∈As c->id∈As p)/\∀(w:World) (A:Nat->Prop) (β:Nat->Option (Nat × Nat)) (v:Value),Cd w A β p v->Cd w A β c v/\v.oneCell'=true:=by
  intro t' h;obtain⟨c,h,hc,hp,hv⟩:=Qk h;exact⟨c,h,.inl hc,Vu hp,by rintro rfl;exact hp,GB hc,Ahd hc,by rw[Jh hc];simp,fun w A β v h=>⟨(Og hc).2 (hv w A β v h).1,(hv w A β v h).2⟩⟩
 cases t with
 |sl es=>
  unfold fcK fsK at h;dsimp only at h;split at h
  ·rename_i id es' off n;cases hb:Nat.beq es' es
   ·rw[hb] at h;cases h
   ·rw[hb] at h;have:=C6 hb;subst this;exact⟨_,h,.inr rfl,trivial,by simp,by simp,by simp,fun _ h=>h,fun _ _ _ _ h=>⟨h,by rcases h with⟨_,_,_,_,rfl⟩|⟨_,_,_,_,_,rfl,_⟩<;>rfl⟩⟩
  ·exact tree (.sl es) h
 |int k=>exact tree (.int k) h
 |bool=>exact tree (.bool) h
 |str=>exact tree (.str) h
 |any=>exact tree (.any) h
theorem IZ{cells:Ad}{i:Nat}{p:PV}(h:cells.getD i .top=p)(hp:p ≠ .top):cells[i]?=some p:=by
 rw[List.getD_eq_getElem?_getD] at h;cases hc:cells[i]? with
 |none=>rw[hc] at h;exact absurd h.symm hp
 |some q=>rw[hc] at h;simp at h;rw[h]
theorem X9:∀{ts:List CT}{cells:Ad}{off:Nat}{K:Ad->Option R},Wn ts cells off K=some r ->
  ∃cs,K cs=some r/\cs.length=ts.length/\∀j c,cs[j]?=some c->BG c/\∃p,cells[off+j]?=some p/\BG p /\
   ∀(w:World) (A:Nat->Prop) (β:Nat->Option (Nat × Nat)) (v:Value),Cd w A β p v->At w A c v/\v.oneCell'=true
 |[],_,_,_,h=>⟨[],h,rfl,fun j c hj=>by simp at hj⟩
 |t::ts,cells,off,K,h=>by
  unfold Wn at h;obtain⟨c,h,hc,hp,hv⟩:=Qk h;obtain⟨cs,h,hl,KL⟩:=X9 h;refine⟨c::cs,h,by simp[hl],fun j c' hj=>?_⟩;cases j with
  |zero=>
   simp at hj;subst hj;refine⟨hc,cells.getD off .top,IZ rfl ?_,hp,hv⟩;intro e;rw[e] at hp;exact hp
  |succ j=>
   simp at hj;have:=KL j c' hj
   rwa [Nat.add_right_comm,Pi] at this
theorem Xr:∀{ts:List CT}{cells:Ad}{off:Nat}{K:Ad->Option R},R5 ts cells off K=some r ->
  ∃cs,K cs=some r/\cs.length=ts.length/\(∀c∈cs,(∀x,c ≠ .agg x)/\(∀x,c ≠ .tup x))/\∀j c,cs[j]?=some c->∃p,cells[off+j]?=some p/\RP p/\(∀id,id∈As c->id∈As p) /\
   ∀(w:World) (A:Nat->Prop) (β:Nat->Option (Nat × Nat)) (v:Value),Cd w A β p v->Cd w A β c v/\v.oneCell'=true
 |[],_,_,_,h=>⟨[],h,rfl,by simp,fun j c hj=>by simp at hj⟩
 |t::ts,cells,off,K,h=>by
  unfold R5 at h;obtain⟨c,h,hc,hf,hp,ha,ht,hr,hv⟩:=Av0 h;obtain⟨cs,h,hl,HE,KL⟩:=Xr h;refine⟨c::cs,h,by simp[hl],?_,fun j c' hj=>?_⟩
  ·intro x hx;rcases List.mem_cons.1 hx with rfl|hx
   ·exact⟨ha,ht⟩
   ·exact HE x hx
  ·cases j with
   |zero=>
    simp at hj;subst hj;exact⟨cells.getD off .top,IZ rfl hp,hf,hr,hv⟩
   |succ j=>
    simp at hj;have:=KL j c' hj
    rwa [Nat.add_right_comm,Pi] at this
theorem XU{agg:Bool}{cells:Ad}{K:PV->Option R}(h:mkV agg cells K=some r):
  (agg=true/\K (.agg cells)=some r)\/(agg=false/\∃c,cells=[c]/\K c=some r):=by
 unfold mkV at h;cases agg
 ·obtain⟨c,t,rfl,h⟩:=Bf h;obtain⟨rfl,h⟩:=Eg h;exact .inr ⟨rfl,c,rfl,h⟩
 ·exact .inl ⟨rfl,h⟩
end
open Go.RowKit
def Du(b:Option B2):Prop:=
 match b with
 |some (.st _)=>True
 |some (.ar false _)=>True
 |_=>False
abbrev Bt:=Nat->Option (Nat × Nat)
def ZM(hp:Nat->Option B2)(β:Bt)(b:Nat):Prop:=∃id o,Du (hp id)/\β id=some (b,o)
def Dt(hp:Nat->Option B2)(β:Bt)(Y:Nat->Prop)(b:Nat):Prop:=ZM hp β b\/Y b
def V2(w:World)(A:Nat->Prop)(β:Bt)(id:Nat)(bx:B2):Prop:=
 match bx with
 |.st cells=>∃b o,β id=some (b,o)/\(∀j c,cells[j]?=some c->∃v,w.cell? ⟨b,o+j,none⟩=some v/\Cd w A β c v)/\∀j,j<cells.length->w.frozen? ⟨b,o+j,none⟩=false
 |.ar fz cells=>(β id=none/\cells=[])\/∃b o,β id=some (b,o)/\RdT w A ⟨b,o,none⟩ cells/\(fz=false->∀j,o<=j->j<bsz w b->w.frozen? ⟨b,j,none⟩=false)/\(fz=true->¬A b)
 |.mv=>True
structure Jw where
 X:Nat->Prop
 L:Nat->Nat->Prop
 pn:Nat->Prop
 pt:Nat->Option (Nat × Nat)
 p8:∀i,pn i->i<8
def BR(bx:B2)(o j:Nat):Prop:=
 match bx with
 |.st c=>o<=j/\j<o+c.length
 |.ar _ _=>o<=j
 |.mv=>False
structure Fr(X0:Jw)(w0 w:World):Prop where
 os:w.os=w0.os
 tape:w.tape=w0.tape
 output:w.output=w0.output
 step:Cq X0.X w0 w
 rng:∀b j,b<w0.heap.size->¬X0.L b j->w.cell? ⟨b,j,none⟩=w0.cell? ⟨b,j,none⟩/\w.frozen? ⟨b,j,none⟩=w0.frozen? ⟨b,j,none⟩
structure Df(N:Nat)(w0:World)(X0:Jw)(Y:Nat->Prop)(β:Bt)(s:St)(a:Act)(w:World):Prop where
 dfr:a.defers=[]
 tsz:a.tmps.size=N
 tmo:∀i,N<=i->s.tm i=.top
 tms:∀i,i<N->Fg w (Dt s.hp β Y) β (s.tm i) (a.tmps.getD i undef)
 box:∀id b,s.hp id=some b->V2 w (Dt s.hp β Y) β id b
 inj:∀id id' b o o',Du (s.hp id)->Du (s.hp id')->β id=some (b,o)->β id'=some (b,o')->id=id'
 blt:∀id b o,s.hp id≠none->β id=some (b,o)->b<w.heap.size
 wfT:∀i,i<N->∀id∈Cc (s.tm i),s.hp id≠none
 wfB:∀id cells,s.hp id=some (.st cells)->∀c∈cells,∀id'∈As c,s.hp id'≠none
 ownd:∀b,ZM s.hp β b->X0.X b\/w0.heap.size<=b
 rngB:∀id bx b o,s.hp id=some bx->Du (some bx)->β id=some (b,o)->b<w0.heap.size->∀j,BR bx o j->X0.L b j
 pin:∀i,X0.pn i->s.hp (D5 N i)≠none/\β (D5 N i)=X0.pt i
 stp:∀id c b o,s.hp id=some (.st c)->β id=some (b,o)->b<w0.heap.size->∃i,id=D5 N i/\X0.pn i
 Yx:∀b,Y b->¬ZM s.hp β b
 Ylt:∀b,Y b->b<w0.heap.size
 fr:Fr X0 w0 w
theorem Di{b:Option B2}(h:Du b):b≠none:=by rintro rfl;exact h
theorem An{α:Type}(f:Nat->α)(i:Nat)(v:α):C7 f i v i=v:=by simp[C7,Qi]
theorem Ak{α:Type}(f:Nat->α){i j:Nat}(v:α)(h:j≠i):C7 f i v j=f j:=by
 have:Nat.beq j i=false:=by
  cases hb:Nat.beq j i
  ·rfl
  ·exact absurd (C6 hb) h
 simp[C7,this]
theorem GK{α:Type}(f:Nat->α){i:Nat}{v:α}(h:f i=v):C7 f i v=f:=by
 funext j
 by_cases e:j=i
 ·subst e;rw[An];exact h.symm
 ·exact Ak f v e
theorem Aa5{α:Type}(f:Nat->α){i j:Nat}(u v:α)(h:i≠j):C7 (C7 f i u) j v=C7 (C7 f j v) i u:=by
 funext k
 by_cases e:k=j
 ·subst e;rw[An,Ak _ _ (Ne.symm h),An]
 ·rw[Ak _ _ e];by_cases e':k=i
  ·subst e';rw[An,An]
  ·rw[Ak _ _ e',Ak _ _ e',Ak _ _ e]
theorem SE{a:Act}{d:Nat}{v:Value}(h:d<a.tmps.size):(a.put (some d) v).tmps.getD d undef=v:=by simp[Act.put,h]
theorem PH{a:Act}{d i:Nat}{v:Value}(h:i≠d):(a.put (some d) v).tmps.getD i undef=a.tmps.getD i undef:=by have h':d≠i:=fun e=>h e.symm;simp[Act.put,Array.getElem?_setIfInBounds_ne h']
section
variable {N:Nat}{w0:World}{X0:Jw}{Y:Nat->Prop}{β β':Bt}{s:St}{a:Act}{w w':World}
theorem EE(d:Option Tmp)(v:Value):(a.put d v).tmps.size=a.tmps.size:=by cases d<;>simp[Act.put]
theorem Vh(d:Option Tmp)(v:Value):(a.put d v).defers=a.defers:=by cases d<;>rfl
theorem Ty{d:Option Tmp}(h:Hp N d=true){i:Nat}(e:d=some i):i<N:=by subst e;exact Nat.lt_of_succ_le (Oj h)
theorem Ta{Q:Nat->PV->Value->Prop}{tm:Nat->PV}{d:Option Tmp}{v:PV}{val:Value}(hN:a.tmps.size=N)(hd:Hp N d=true)(h:∀i,i<N->Q i (tm i) (a.tmps.getD i undef))(hv:∀i,Q i v val):∀i,i<N->Q i (C4 tm d v i) ((a.put d val).tmps.getD i undef):=by
 intro i hi;cases d with
 |none=>exact h i hi
 |some d=>
  have Cm:=Ty hd rfl;by_cases e:i=d
  ·subst e;show Q i (C7 tm i v i) _;rw[An,SE (by omega)];exact hv i
  ·show Q i (C7 tm d v i) _;rw[Ak _ _ e,PH e];exact h i hi
theorem XN{tm:Nat->PV}{d:Option Tmp}{v:PV}(hd:Hp N d=true)(h:∀i,N<=i->tm i=.top):∀i,N<=i->C4 tm d v i=.top:=by
 intro i hi;cases d with
 |none=>exact h i hi
 |some d=>
  have:=Ty hd rfl;show C7 tm d v i=_;rw[Ak _ _ (by omega)];exact h i hi
theorem Df.put(h:Df N w0 X0 Y β s a w){d:Option Tmp}{v:PV}{val:Value}(hd:Hp N d=true)(hv:Fg w (Dt s.hp β Y) β v val)(hr:∀id∈Cc v,s.hp id≠none):
  Df N w0 X0 Y β ⟨C4 s.tm d v,s.hp⟩ (a.put d val) w where
 dfr:=by rw[Vh];exact h.dfr
 tsz:=by rw[EE];exact h.tsz
 tmo:=XN hd h.tmo
 tms:=Ta (Q:=fun _ p u=>Fg w (Dt s.hp β Y) β p u) h.tsz hd h.tms (fun _=>hv)
 box:=h.box
 inj:=h.inj
 blt:=h.blt
 wfT:=by
  have:=Ta (Q:=fun _ p _=>∀id∈Cc p,s.hp id≠none) (val:=val) h.tsz hd h.wfT (fun _=>hr);exact this
 wfB:=h.wfB
 ownd:=h.ownd
 rngB:=h.rngB
 pin:=h.pin
 stp:=h.stp
 Yx:=h.Yx
 Ylt:=h.Ylt
 fr:=h.fr
theorem Ca(hp:Nat->Option B2)(ids:Bz)(i:Nat):Af hp ids i=if i∈ids then (hp i).map Yp else hp i:=by
 unfold Af;by_cases hi:i∈ids
 ·have:ids.any (Nat.beq i)=true:=List.any_eq_true.2 ⟨i,hi,Qi i⟩;rw[this,Cy hi];rfl
 ·have:ids.any (Nat.beq i)=false:=by
   cases hb:ids.any (Nat.beq i)
   ·rfl
   ·obtain⟨j,hj,e⟩:=List.any_eq_true.1 hb;exact absurd (C6 e ▸ hj) hi
  rw[this,Bl hi];rfl
theorem Ew{hp:Nat->Option B2}{ids:Bz}{i:Nat}:Af hp ids i=none↔hp i=none:=by rw[Ca];split<;>simp
theorem Tf{hp:Nat->Option B2}{ids:Bz}{i:Nat}(h:Du (Af hp ids i)):Du (hp i):=by
 rw[Ca] at h;split at h
 ·cases hb:hp i with
  |none=>rw[hb] at h;exact h
  |some b=>cases b with
   |st c=>trivial
   |ar fz c=>rw[hb] at h;exact h.elim
   |mv=>rw[hb] at h;exact h
 ·exact h
theorem K7{hp:Nat->Option B2}{ids:Bz}{i:Nat}{bx:B2}(h:Af hp ids i=some bx)(hl:Du (some bx)):hp i=some bx:=by
 rw[Ca] at h;split at h
 ·cases hb:hp i with
  |none=>rw[hb] at h;cases h
  |some b=>
   rw[hb] at h;cases b with
   |st c=>exact h
   |ar fz c=>simp only[Option.map_some,Yp,Option.some.injEq] at h;subst h;exact hl.elim
   |mv=>simp only[Option.map_some,Yp,Option.some.injEq] at h;subst h;exact hl.elim
 ·exact h
theorem Uu{hp:Nat->Option B2}{ids:Bz}{b:Nat}(h:ZM (Af hp ids) β b):ZM hp β b:=by obtain⟨id,o,hl,hb⟩:=h;exact⟨id,o,Tf hl,hb⟩
theorem V2.step'{A A':Nat->Prop}{id:Nat}{bx:B2}(hA:∀b,A' b->A b)(h:V2 w A β id bx):V2 w A' β id bx:=by
 have hs:=Cq.refl A w;cases bx with
 |st c=>
  obtain⟨b,o,h1,h2,h3⟩:=h;exact⟨b,o,h1,fun j c hj=>let ⟨v,hv,hc⟩:=h2 j c hj;⟨v,hv,hc.step hs (fun b _=>hA b) (fun _ _=>rfl)⟩,h3⟩
 |ar fz c=>
  rcases h with h|⟨b,o,h1,h2,h3,h4⟩
  ·exact .inl h
  ·exact .inr ⟨b,o,h1,h2.weak (fun b _=>hA b),h3,fun e x=>h4 e (hA b x)⟩
 |mv=>trivial
theorem Df.freeze(h:Df N w0 X0 Y β s a w){fz:Bz}(HO:∀id∈fz,∃f c,s.hp id=some (.ar f c)):Df N w0 X0 Y β ⟨s.tm,Af s.hp fz⟩ a w:=by
 have hA:∀b,Dt (Af s.hp fz) β Y b->Dt s.hp β Y b:=fun b hb=>hb.imp Uu id
 refine⟨h.dfr,h.tsz,h.tmo,fun i hi=>(h.tms i hi).step (Cq.refl _ _) (fun b _=>hA b) (fun _ _=>rfl),fun id b hb=>?_,fun id id' b o o' h1 h2=>h.inj id id' b o o' (Tf h1) (Tf h2),
  fun id b o hn=>h.blt id b o (fun e=>hn (Ew.2 e)),fun i hi id Bx e=>h.wfT i hi id Bx (Ew.1 e),fun id cells hc c hcm id' Bx e=>?_,fun b hb=>h.ownd b (Uu hb),
  fun id bx b o hb hl=>h.rngB id bx b o (K7 hb hl) hl,fun i hi=>⟨fun e=>(h.pin i hi).1 (Ew.1 e),(h.pin i hi).2⟩,fun id c b o hc=>h.stp id c b o (K7 hc trivial),fun b hb x=>h.Yx b hb (Uu x),h.Ylt,h.fr⟩
 ·simp only at hb;rw[Ca] at hb;split at hb
  ·rename_i hm;obtain⟨f,c,hc⟩:=HO id hm;rw[hc] at hb;simp only[Option.map_some,Yp,Option.some.injEq] at hb;subst hb;have O8:=h.box id _ hc;rcases O8 with O8|⟨b,o,h1,h2,h3,h4⟩
   ·exact .inl O8
   ·refine .inr ⟨b,o,h1,h2.weak (fun b _=>hA b),(fun e=>by cases e),fun _ hb=>?_⟩;rcases hb with⟨id',o',hl,hb⟩|hY
    ·have hl0:=Tf hl;cases f with
     |true=>exact h4 rfl (.inl ⟨id',o',hl0,hb⟩)
     |false=>
      have e:=h.inj id' id b o' o hl0 (by rw[hc];trivial) hb h1
      subst e;simp only at hl;rw[Ca,Cy hm,hc] at hl;exact hl
    ·cases f with
     |true=>exact h4 rfl (.inr hY)
     |false=>exact h.Yx b hY ⟨id,o,by rw[hc];trivial,h1⟩
  ·exact (h.box id b hb).step' hA
 ·simp only at hc;rw[Ca] at hc;refine h.wfB id cells ?_ c hcm id' Bx (Ew.1 e);split at hc
  ·rename_i hm;obtain⟨f,c,Q1⟩:=HO id hm;rw[Q1] at hc;cases hc
  ·exact hc
theorem B0:∀{nw:List (Nat × B2)} {hp:Nat->Option B2},B6 hp nw=true ->
  (∀id bx,(id,bx)∈nw->hp id=none)/\(∀id bx bx',(id,bx)∈nw->(id,bx')∈nw->bx=bx')
 |[],_,_=>⟨by simp,by simp⟩
 |(i,b)::r,hp,h=>by
  simp only[B6,Er,Option.isNone_iff_eq_none,Bool.not_eq_true'] at h;obtain⟨⟨h1,h2⟩,h3⟩:=h;obtain⟨h4,h5⟩:=B0 h3
  have G6:∀bx,(i,bx) ∉ r:=by
   intro bx hm;have:r.any (fun q=>Nat.beq q.1 i)=true:=List.any_eq_true.2 ⟨_,hm,Qi i⟩;rw[this] at h2;cases h2
  refine⟨fun id bx hm=>?_,fun id bx bx' hm M6=>?_⟩
  ·rcases List.mem_cons.1 hm with e|hm
   ·cases e;exact h1
   ·exact h4 id bx hm
  ·rcases List.mem_cons.1 hm with e|hm
   ·cases e;rcases List.mem_cons.1 M6 with e|M6
    ·cases e;rfl
    ·exact absurd M6 (G6 _)
   ·rcases List.mem_cons.1 M6 with e|M6
    ·cases e;exact absurd hm (G6 _)
    ·exact h5 id bx bx' hm M6
theorem E8:∀{nw:List (Nat × B2)} {hp:Nat->Option B2},(∀id bx bx',(id,bx)∈nw->(id,bx')∈nw->bx=bx') ->
  (∀id bx,(id,bx)∈nw->Au hp nw id=some bx)/\(∀id,(∀bx,(id,bx) ∉ nw)->Au hp nw id=hp id)
 |[],_,_=>⟨by simp,fun _ _=>rfl⟩
 |(i,b)::r,hp,h=>by
  obtain⟨h1,h2⟩:=E8 (nw:=r) (hp:=C7 hp i (some b)) (fun id bx bx' hm M6=>h id bx bx' (by simp[hm]) (by simp[M6]));refine⟨fun id bx hm=>?_,fun id hn=>?_⟩
  ·by_cases hr:∃bx',(id,bx')∈r
   ·obtain⟨bx',hr⟩:=hr;have:=h id bx bx' hm (by simp[hr]);subst this;exact h1 id bx hr
   ·rcases List.mem_cons.1 hm with e|hm
    ·cases e;show Au (C7 hp i (some b)) r i=_;rw[h2 i (fun bx' hb=>hr ⟨bx',hb⟩),An]
    ·exact absurd ⟨bx,hm⟩ hr
  ·show Au (C7 hp i (some b)) r id=_;rw[h2 id (fun bx hb=>hn bx (by simp[hb])),Ak]
   rintro rfl
   exact hn b (by simp)
structure UR(Y:Nat->Prop)(β:Bt)(s:St)(w:World)(v:PV)(nw:List (Nat × B2))(val:Value)(w':World)(β':Bt):Prop where
 os:w'.os=w.os
 tape:w'.tape=w.tape
 output:w'.output=w.output
 ext:Cq (fun _=>False) w w'
 old:∀id,s.hp id≠none->β' id=β id
 nlive:∀id bx,(id,bx)∈nw->Du (some bx)
 nbox:∀id bx,(id,bx)∈nw->V2 w' (Dt (Au s.hp nw) β' Y) β' id bx
 nblk:∀id bx b o,(id,bx)∈nw->β' id=some (b,o)->w.heap.size<=b/\b<w'.heap.size
 ninj:∀id bx id' bx' b o o',(id,bx)∈nw->(id',bx')∈nw->β' id=some (b,o)->β' id'=some (b,o')->id=id'
 nwf:∀id cells,(id,.st cells)∈nw->∀c∈cells,∀id'∈As c,s.hp id'≠none\/∃bx,(id',bx)∈nw
 val:Fg w' (Dt (Au s.hp nw) β' Y) β' v val
 vwf:∀id∈Cc v,s.hp id≠none\/∃bx,(id,bx)∈nw
theorem Df.stepR(h:Df N w0 X0 Y β s a w){d:Option Tmp}{v:PV}{nw:List (Nat × B2)}{val:Value}(hd:Hp N d=true)(Tk:B6 s.hp nw=true)(st:UR Y β s w v nw val w' β'):Df N w0 X0 Y β' ⟨C4 s.tm d v,Au s.hp nw⟩ (a.put d val) w':=by
 obtain⟨ha1,U0⟩:=B0 Tk;obtain⟨hg1,hg2⟩:=E8 (hp:=s.hp) U0
 have I3:∀id,(∃bx,(id,bx)∈nw)\/Au s.hp nw id=s.hp id:=fun id=>by
  by_cases hx:∃bx,(id,bx)∈nw
  ·exact .inl hx
  ·exact .inr (hg2 id fun bx hb=>hx ⟨bx,hb⟩)
 have A5h:∀id,s.hp id≠none->Au s.hp nw id=s.hp id:=fun id hn=>by
  rcases I3 id with⟨bx,hx⟩|e
  ·exact absurd (ha1 id bx hx) hn
  ·exact e
 have Gy:∀id,(s.hp id≠none\/∃bx,(id,bx)∈nw)->Au s.hp nw id≠none:=by
  rintro id (hn|⟨bx,hx⟩)
  ·rw[A5h id hn];exact hn
  ·rw[hg1 id bx hx];simp
 have Ax1:∀b,b<w.heap.size->ZM (Au s.hp nw) β' b->ZM s.hp β b:=by
  rintro b hb ⟨id,o,hl,hβ⟩
  rcases I3 id with⟨bx,hx⟩|e
  ·have:=(st.nblk id bx b o hx hβ).1;omega
  ·rw[e] at hl;exact⟨id,o,hl,by rw[<-st.old id (Di hl)];exact hβ⟩
 have Ah6:∀b,b<w.heap.size->Dt (Au s.hp nw) β' Y b->Dt s.hp β Y b:=fun b hb hA=>hA.imp (Ax1 b hb) id;have Ajc:Cq (Dt s.hp β Y) w w':=st.ext.weaken (fun _ _ x=>x.elim);refine⟨by rw[Vh];exact h.dfr,by rw[EE];exact h.tsz,XN hd h.tmo,?_,?_,?_,?_,?_,?_,?_,?_,?_,?_,?_,h.Ylt,?_⟩
 ·refine Ta (Q:=fun _ p u=>Fg w' (Dt (Au s.hp nw) β' Y) β' p u) h.tsz hd (fun i hi=>?_) (fun _=>st.val);exact (h.tms i hi).step Ajc Ah6 fun id Bx=>st.old id (h.wfT i hi id Bx)
 ·intro id b hb;simp only at hb;rcases I3 id with⟨bx,hx⟩|e
  ·rw[hg1 id bx hx] at hb;cases hb;exact st.nbox id _ hx
  ·rw[e] at hb;have hβ:=st.old id (by rw[hb];simp)
   have O8:=h.box id b hb;have Cm:=h.blt id;have G6:s.hp id≠none:=by rw[hb];simp
   cases b with
   |st c=>
    obtain⟨b,o,h1,h2,h3⟩:=O8;have Jp:=Cm b o G6 h1;have Wi:=st.ext.keep b Jp (fun x=>x);refine⟨b,o,by rw[hβ];exact h1,fun j c hj=>?_,fun j hj=>?_⟩
    ·obtain⟨v,hv,hc⟩:=h2 j c hj;refine⟨v,by rw[World.cell?_of_block (w:=w) Wi];exact hv,hc.step Ajc Ah6 fun id' Bx=>st.old id' ?_⟩
     exact h.wfB id _ hb c (List.mem_of_getElem? hj) id' Bx
    ·rw[World.frozen?_of_block (w:=w) Wi];exact h3 j hj
   |ar fz c=>
    rcases O8 with⟨h1,h2⟩|⟨b,o,h1,h2,h3,h4⟩
    ·exact .inl ⟨by rw[hβ];exact h1,h2⟩
    ·have Jp:=Cm b o G6 h1;have Wi:=st.ext.keep b Jp (fun x=>x);have hbs:bsz w' b=bsz w b:=by unfold bsz;rw[Wi]
     refine .inr ⟨b,o,by rw[hβ];exact h1,fun j c hj=>?_,fun e j hj Xj=>?_,fun e x=>h4 e (Ah6 b Jp x)⟩
     ·obtain⟨v,hv,h5,hc⟩:=h2 j c hj;exact⟨v,by rw[World.cell?_of_block (w:=w) (by rw[Fx];exact Wi)];exact hv,h5,hc.step Ajc Ah6⟩
     ·rw[World.frozen?_of_block (w:=w) Wi];exact h3 e j hj (by rw[<-hbs];exact Xj)
   |mv=>trivial
 ·intro id id' b o o' hl Nj hb Jp;simp only at hl Nj;rcases I3 id with⟨bx,hx⟩|e
  ·rcases I3 id' with⟨bx',Wc⟩|e'
   ·exact st.ninj id bx id' bx' b o o' hx Wc hb Jp
   ·rw[e'] at Nj;have h1:=(st.nblk id bx b o hx hb).1;have h2:=h.blt id' b o' (Di Nj) (by rw[<-st.old id' (Di Nj)];exact Jp)
    omega
  ·rw[e] at hl;rcases I3 id' with⟨bx',Wc⟩|e'
   ·have h1:=(st.nblk id' bx' b o' Wc Jp).1;have h2:=h.blt id b o (Di hl) (by rw[<-st.old id (Di hl)];exact hb)
    omega
   ·rw[e'] at Nj;exact h.inj id id' b o o' hl Nj (by rw[<-st.old id (Di hl)];exact hb) (by rw[<-st.old id' (Di Nj)];exact Jp)
 ·intro id b o hn hb;simp only at hn;rcases I3 id with⟨bx,hx⟩|e
  ·exact (st.nblk id bx b o hx hb).2
  ·rw[e] at hn;exact Gb (h.blt id b o hn (by rw[<-st.old id hn];exact hb)) st.ext.size
 ·have:=Ta (Q:=fun _ p _=>∀id∈Cc p,Au s.hp nw id≠none) (val:=val) (d:=d) (v:=v) h.tsz hd (fun i hi id Bx=>Gy id (.inl (h.wfT i hi id Bx))) (fun _ id Bx=>Gy id (st.vwf id Bx));exact this
 ·intro id cells hc c hcm id' Bx;simp only at hc;rcases I3 id with⟨bx,hx⟩|e
  ·rw[hg1 id bx hx] at hc;cases hc;exact Gy id' (st.nwf id _ hx c hcm id' Bx)
  ·rw[e] at hc;exact Gy id' (.inl (h.wfB id cells hc c hcm id' Bx))
 ·rintro b ⟨id,o,hl,hb⟩
  simp only at hl;rcases I3 id with⟨bx,hx⟩|e
  ·exact .inr (Nat.le_trans h.fr.step.size (st.nblk id bx b o hx hb).1)
  ·rw[e] at hl;exact h.ownd b ⟨id,o,hl,by rw[<-st.old id (Di hl)];exact hb⟩
 ·intro id bx b o hb hl hβ Cm;simp only at hb;rcases I3 id with⟨bx',hx⟩|e
  ·have:=(st.nblk id bx' b o hx hβ).1;have:=h.fr.step.size;omega
  ·rw[e] at hb;exact h.rngB id bx b o hb hl (by rw[<-st.old id (by rw[hb];simp)];exact hβ) Cm
 ·intro i hi;obtain⟨h1,h2⟩:=h.pin i hi;exact⟨Gy _ (.inl h1),by rw[st.old _ h1];exact h2⟩
 ·intro id c b o hb hβ Cm;simp only at hb;rcases I3 id with⟨bx',hx⟩|e
  ·have:=(st.nblk id bx' b o hx hβ).1;have:=h.fr.step.size;omega
  ·rw[e] at hb;exact h.stp id c b o hb (by rw[<-st.old id (by rw[hb];simp)];exact hβ) Cm
 ·rintro b hY hX
  have hb:b<w.heap.size:=Gb (h.Ylt b hY) h.fr.step.size;exact h.Yx b hY (Ax1 b hb hX)
 ·refine⟨st.os.trans h.fr.os,st.tape.trans h.fr.tape,st.output.trans h.fr.output,h.fr.step.trans st.ext (fun _ _ x=>x.elim),fun b j hb hL=>?_⟩;have Wi:=st.ext.keep b (Gb hb h.fr.step.size) (fun x=>x);have hc:w'.cell? ⟨b,j,none⟩=w.cell? ⟨b,j,none⟩:=World.cell?_of_block (w:=w) Wi;have hf:w'.frozen? ⟨b,j,none⟩=w.frozen? ⟨b,j,none⟩:=World.frozen?_of_block (w:=w) Wi;rw[hc,hf];exact h.fr.rng b j hb hL
end
open Go.RowKit
section
variable {P:Program}{N:Nat}{w0:World}{X0:Jw}{Y:Nat->Prop}{β β':Bt}{s:St}{a:Act}{w w':World}{o:Oper}
theorem Ad0(cs:List Value)(A:Nat->Prop):Be (Cd w A β) (cs.map PV.sc) cs:=by
 induction cs with
 |nil=>trivial
 |cons v r ih=>exact⟨At.sc v,ih⟩
theorem Af5(cs:List Value):(cs.map PV.sc).flatMap As=[]:=by
 induction cs with
 |nil=>rfl
 |cons v r ih=>exact ih
theorem Dj(h:Df N w0 X0 Y β s a w)(x:Operand):Fg w (Dt s.hp β Y) β (Ck s.tm x) (a.eval x):=by
 cases x with
 |tmp t=>
  show Fg _ _ _ (s.tm t) (a.tmps.getD t undef);by_cases ht:t<N
  ·exact h.tms t ht
  ·rw[h.tmo t (Nat.le_of_not_lt ht)];exact At.top _
 |const v=>
  cases v with
  |agg cs=>exact⟨cs.toList,by simp[Act.eval],Ad0 cs.toList _⟩
  |_=>exact At.sc _
 |func f=>exact At.sc _
 |global g=>exact At.sc _
theorem F4(h:Df N w0 X0 Y β s a w)(x:Operand):∀id∈Cc (Ck s.tm x),s.hp id≠none:=by
 cases x with
 |tmp t=>
  show ∀id∈Cc (s.tm t),_;by_cases ht:t<N
  ·exact h.wfT t ht
  ·rw[h.tmo t (Nat.le_of_not_lt ht)];intro id Bx;cases Bx
 |const v=>
  cases v with
  |agg cs=>
   intro id Bx;have:Cc (.agg (cs.toList.map .sc))=[]:=Af5 cs.toList;simp only[Ck] at Bx;rw[this] at Bx;cases Bx
  |_=>intro id Bx;cases Bx
 |func f=>intro id Bx;cases Bx
 |global g=>intro id Bx;cases Bx
theorem HY{A:Nat->Prop}{v u:Value}(h:Fg w A β (.sc v) u):u=v:=At.val h
theorem Cl(h:Df N w0 X0 Y β s a w){x:Operand}{v:Value}(e:Ck s.tm x=.sc v):a.eval x=v:=by have:=Dj h x;rw[e] at this;exact HY this
def E7(P:Program)(a:Act)(w:World)(o:Oper)(Y:Nat->Prop)(β:Bt)(s:St)(v:PV)(fz:Bz)(nw:List (Nat × B2)):Prop:=
 (∀id∈fz,∃f c,s.hp id=some (.ar f c))/\∃val w',(execOp a.eval o).run P w=.ok (.value val) w'/\(B6 s.hp nw=true->∃β',UR Y β ⟨s.tm,Af s.hp fz⟩ w v nw val w' β')
theorem Agw{v:PV}{val:Value}(hv:Fg w (Dt s.hp β Y) β v val)(hr:∀id∈Cc v,s.hp id≠none):UR Y β s w v [] val w β:=
 ⟨rfl,rfl,rfl,Cq.refl _ _,fun _ _=>rfl,by simp,by simp,by simp,by simp,by simp,hv,fun id Bx=>.inl (hr id Bx)⟩
theorem Ce{v:PV}{val:Value}(De:(execOp a.eval o).run P w=.ok (.value val) w)(hv:Fg w (Dt s.hp β Y) β v val)(hr:∀id∈Cc v,s.hp id≠none):E7 P a w o Y β s v [] []:=
 ⟨by simp,val,w,De,fun _=>⟨β,Agw (s:=⟨s.tm,Af s.hp []⟩) hv hr⟩⟩
theorem Cz{v:Value}(De:(execOp a.eval o).run P w=.ok (.value v) w):E7 P a w o Y β s (.sc v) [] []:=Ce De (At.sc v) (by intro id Bx;cases Bx)
structure Ho(w w':World)(c:Array Value)(e:TypeId):Prop where
 os:w'.os=w.os
 tape:w'.tape=w.tape
 output:w'.output=w.output
 old:∀b,b<w.heap.size->w'.heap[b]?=w.heap[b]?
 size:w'.heap.size=w.heap.size+1
 new:∃fz:Nat × Nat,w'.heap[w.heap.size]?=some (.cells c e fz)/\(fz.1=fz.2\/c.size<=fz.1)
theorem Ho.alloc(w:World)(c:Array Value)(e:TypeId):Ho w (w.alloc (.cells c e)) c e:=
 ⟨rfl,rfl,rfl,fun b hb=>Below.heap_alloc w _ b hb,by show (w.heap.push _).size=_;simp,(0,0),by show (w.heap.push _)[w.heap.size]?=_;simp,.inl rfl⟩
theorem Ho.drew{c:Array Value}{e:TypeId}(h:Ho w w' c e):Ho w w'.drew c e:=⟨h.os,h.tape,h.output,h.old,h.size,h.new⟩
section
variable {c:Array Value}{e:TypeId}
theorem Ho.step(h:Ho w w' c e):Cq (fun _=>False) w w':=
 ⟨by rw[h.size];omega,fun b hb _=>h.old b hb,fun b hb=>Ij.same (h.old b hb)⟩
theorem Ho.cell(h:Ho w w' c e)(j:Nat):w'.cell? ⟨w.heap.size,j,none⟩=c[j]?:=by obtain⟨fz,hn,_⟩:=h.new;simp[World.cell?,hn]
theorem Ho.frozen(h:Ho w w' c e){j:Nat}(hj:j<c.size):w'.frozen? ⟨w.heap.size,j,none⟩=false:=by obtain⟨fz,hn,hf⟩:=h.new;simp only[World.frozen?,hn];rcases hf with hf|hf<;>simp<;>omega
theorem Ng(w:World)(c:Array Value)(e:TypeId):Ab4 (w.alloc (.cells c e)) w.heap.size=false:=by
 unfold Ab4 World.frozen?;have:(w.alloc (.cells c e)).heap[w.heap.size]?=some (.cells c e (0,0)):=by show (w.heap.push _)[w.heap.size]?=_;simp
 simp only[this];simp
theorem Ho.bsz(h:Ho w w' c e):bsz w' w.heap.size=c.size:=by obtain⟨fz,hn,_⟩:=h.new;simp[Pv.bsz,hn]
end
theorem T8{c:Array Value}{e:TypeId}{d:Nat}{bx:B2}{v:PV}{val:Value}(hg:Ho w w' c e)(hd:s.hp d=none)(hl:Du (some bx))(O8:V2 w' (Dt (C7 s.hp d (some bx)) (C7 β d (some (w.heap.size,0))) Y) (C7 β d (some (w.heap.size,0))) d bx)(hcw:∀cells,bx=.st cells->∀x∈cells,∀id'∈As x,s.hp id'≠none)(hv:Fg w' (Dt (C7 s.hp d (some bx)) (C7 β d (some (w.heap.size,0))) Y) (C7 β d (some (w.heap.size,0))) v val)(hvr:∀id∈Cc v,s.hp id≠none\/id=d):UR Y β s w v [(d,bx)] val w' (C7 β d (some (w.heap.size,0))) where
 os:=hg.os
 tape:=hg.tape
 output:=hg.output
 ext:=hg.step
 old:=fun id hn=>Ak _ _ (by rintro rfl;exact hn hd)
 nlive:=by intro id b hm;simp at hm;obtain⟨rfl,rfl⟩:=hm;exact hl
 nbox:=by intro id b hm;simp at hm;obtain⟨rfl,rfl⟩:=hm;exact O8
 nblk:=by
  intro id b x y hm hb;simp at hm;obtain⟨rfl,rfl⟩:=hm;rw[An] at hb;simp at hb;have:=hg.size;omega
 ninj:=by intro id b id' b' x y z hm M6 _ _;simp at hm M6;rw[hm.1,M6.1]
 nwf:=by intro id cells hm x hx id' Bx;simp at hm;exact .inl (hcw cells hm.2.symm x hx id' Bx)
 val:=hv
 vwf:=by
  intro id Bx;rcases hvr id Bx with h|rfl
  ·exact .inl h
  ·exact .inr ⟨bx,by simp⟩
theorem Ais{c:Array Value}{e:TypeId}(hg:Ho w w' c e){A A':Nat->Prop}(hA:∀b,b<w.heap.size->A' b->A b){cells:Ad}(h:∀(j:Nat) p,cells[j]?=some p->∃v,c[j]?=some v/\v.oneCell'=true/\At w A p v):RdT w' A' ⟨w.heap.size,0,none⟩ cells:=by intro j p hj;obtain⟨v,hv,h1,ht⟩:=h j p hj;exact⟨v,by rw[Ff,Ig,hg.cell];exact hv,h1,ht.step (hg.step.weaken (fun _ _ x=>x.elim)) hA⟩
theorem Aht{d:Nat}{bx:B2}(hwf:s.hp d=none):∀b,b<w.heap.size->Dt (C7 s.hp d (some bx)) (C7 β d (some (w.heap.size,0))) Y b->Dt s.hp β Y b:=by
 intro b hb hA;rcases hA with⟨id,o,hl,hβ⟩|hY
 ·by_cases e:id=d
  ·subst e;rw[An] at hβ;simp at hβ;omega
  ·rw[Ak _ _ e] at hl hβ;exact .inl ⟨id,o,hl,hβ⟩
 ·exact .inr hY
theorem T7{c:Array Value}{e:TypeId}{d:Nat}{cells:Ad}{fz:Bz}{v:PV}{val:Value}(HO:∀id∈fz,∃f c,s.hp id=some (.ar f c))(De:(execOp a.eval o).run P w=.ok (.value val) w')(hg:Ho w w' c e)(hc:∀(j:Nat) p,cells[j]?=some p->∃u,c[j]?=some u/\u.oneCell'=true/\At w (Dt (Af s.hp fz) β Y) p u)(hv:(v=.ptr d 0/\val=.pointer (some ⟨w.heap.size,0,none⟩))\/∃es n cap,v=.view d es 0 n/\val=.slice (some ⟨w.heap.size,0,none⟩) n cap/\n<=cap/\cap*es<=c.size/\(es=1\/Ab4 w' w.heap.size=false)):
  E7 P a w o Y β s v fz [(d,.ar false cells)]:=by
 refine⟨HO,val,w',De,fun Tk=>⟨C7 β d (some (w.heap.size,0)),?_⟩⟩;have hd:s.hp d=none:=(B0 Tk).1 d (.ar false cells) (by simp);have hd':Af s.hp fz d=none:=Ew.2 hd;refine T8 (s:=⟨s.tm,Af s.hp fz⟩) hg hd' trivial ?_ (fun cells hx=>by cases hx) ?_ ?_
 ·refine .inr ⟨w.heap.size,0,An _ _ _,?_,fun _ j _ hj=>?_,(fun x=>by cases x)⟩
  ·exact Ais hg (Aht (s:=⟨s.tm,Af s.hp fz⟩) hd') hc
  ·rw[hg.bsz] at hj;exact hg.frozen hj
 ·rcases hv with⟨rfl,rfl⟩|⟨es,n,cap,rfl,rfl,hn,CO,Bbm⟩
  ·exact⟨w.heap.size,0,An _ _ _,rfl⟩
  ·exact .inr ⟨w.heap.size,0,0,cap,An _ _ _,rfl,.inl rfl,hn,⟨by rw[hg.bsz];omega,Bbm⟩,by rw[hg.size];omega⟩
 ·intro id Bx;rcases hv with⟨rfl,_⟩|⟨es,n,cap,rfl,_⟩<;>(simp[Cc,Ct,As] at Bx;exact .inr Bx)
theorem SP{c:Array Value}{e:TypeId}{d:Nat}{cells:Ad}(De:(execOp a.eval o).run P w=.ok (.value (.pointer (some ⟨w.heap.size,0,none⟩))) w')(hg:Ho w w' c e)(hc:∀(j:Nat) p,cells[j]?=some p->∃u,c[j]?=some u/\Cd w (Dt s.hp β Y) β p u)(hr:∀x∈cells,∀id∈As x,s.hp id≠none):
  E7 P a w o Y β s (.ptr d 0) [] [(d,.st cells)]:=by
 refine⟨by simp,_,w',De,fun Tk=>⟨C7 β d (some (w.heap.size,0)),?_⟩⟩;have hd:s.hp d=none:=(B0 Tk).1 d (.st cells) (by simp);refine T8 (s:=⟨s.tm,Af s.hp []⟩) hg hd trivial ?_ (fun cs hx x hxm id Bx=>?_) ?_ ?_
 ·refine⟨w.heap.size,0,An _ _ _,fun j p hj=>?_,fun j hj=>?_⟩
  ·obtain⟨u,hu,hp⟩:=hc j p hj;refine⟨u,by rw[Ig,hg.cell];exact hu,hp.step (hg.step.weaken (fun _ _ x=>x.elim)) (Aht (s:=⟨s.tm,Af s.hp []⟩) hd) fun id Bx=>Ak _ _ ?_⟩
   rintro rfl
   exact hr p (List.mem_of_getElem? hj) id Bx hd
  ·rw[Ig];obtain⟨u,hu,_⟩:=hc j _ (List.getElem?_eq_getElem hj)
   exact hg.frozen (by
    rcases Id j c.size with h|h
    ·exact h
    ·rw[Array.getElem?_eq_none h] at hu;cases hu)
 ·injection hx with hx;subst hx;exact hr x hxm id Bx
 ·exact⟨w.heap.size,0,An _ _ _,rfl⟩
 ·intro id Bx;simp[Cc,Ct,As] at Bx;exact .inr Bx
end
open Go.RowKit
section
variable {R:Type}{r:R}{P:Program}{N:Nat}{w0:World}{X0:Jw}{Y:Nat->Prop}{β β':Bt}{s:St}{a:Act}{w w':World}{o:Oper}
theorem Nd{t:TypeId}{n:Nat}(h:(P.info? t).map (·.size)=some n)(w:World):(sizeOf t).run P w=.ok n w:=by
 cases hi:P.info? t with
 |none=>rw[hi] at h;cases h
 |some i=>rw[hi] at h;simp at h;simp[sizeOf,typeInfo,hi,h]
theorem Anr{t:TypeId}{n:Nat}(h:A7 P t=n)(hn:0<n):(P.info? t).map (·.size)=some n:=by
 unfold A7 at h;cases hi:(P.info? t).map (·.size) with
 |none=>rw[hi] at h;simp at h;omega
 |some i=>rw[hi] at h;simp at h;rw[h]
theorem Qu{t:TypeId}{d:TypeDesc}(h:P.underlying t=some d)(w:World):(isAgg t).run P w=.ok (Cj P t) w:=by unfold isAgg Cj;rw[h];simp only[Sem.run_bind,run_underlying h,Result.andThen_ok];cases d<;>rfl
theorem Aig{t:TypeId}{v:Value}{K:PV->Option R}(h:cvK P t v K=some r):∃p,K p=some r/\Cc p=[]/\∀(w:World)(A:Nat->Prop)(β:Bt),Fg w A β p v:=by
 have sc:∀v:Value,K (.sc v)=some r->∃p,K p=some r/\Cc p=[]/\∀(w:World) (A:Nat->Prop) (β:Bt),Fg w A β p v:=fun v h=>⟨_,h,rfl,fun w A β=>At.sc v⟩;unfold cvK at h;split at h
 ·rename_i cs;obtain⟨hl,h⟩:=Am h;obtain⟨xs,h,hxl,hx⟩:=X9 h;have hl:=C6 hl;refine⟨_,h,?_,fun w A β=>⟨cs.toList,by simp,?_⟩⟩
  ·show xs.flatMap As=[];rw[List.flatMap_eq_nil_iff];intro c hc;obtain⟨j,hj⟩:=List.mem_iff_getElem?.1 hc;exact Jh (hx j c hj).1
  ·refine Be.of_at (by rw[hxl,hl]) fun i c u hc hu=>?_;obtain⟨hT,p,hp,_,GX⟩:=hx i c hc;refine (Og hT).2 (GX w A β u ?_).1;rw[Ig,List.getElem?_map,hu] at hp;simp at hp;subst hp;exact At.sc u
 ·split at h
  ·exact⟨_,h,rfl,fun w A β=>At.lnil true _⟩
  ·cases h
 ·exact sc _ h
theorem EG(h:Df N w0 X0 Y β s a w){x:Operand}(De:(execOp a.eval o).run P w=.ok (.value (a.eval x)) w){K:PV->Option R}(hk:GY P o.type s.tm x K=some r):
  ∃v,K v=some r/\E7 P a w o Y β s v [] []:=by
 have dflt:K (Ck s.tm x)=some r->∃v,K v=some r/\E7 P a w o Y β s v [] []:=fun hk=>⟨_,hk,Ce De (Dj h x) (F4 h x)⟩;cases x with
 |const v=>
  obtain⟨p,hk,hr,hv⟩:=Aig hk;exact⟨p,hk,Ce De (hv _ _ _) (by rw[hr];simp)⟩
 |tmp t=>exact dflt hk
 |func f=>exact dflt hk
 |global g=>exact dflt hk
theorem Akb{x:Operand}(ho:o.op=.move x):(execOp a.eval o).run P w=.ok (.value (a.eval x)) w:=by unfold execOp;rw[ho];rfl
theorem Adp{x:Operand}(ho:o.op=.assign x):(execOp a.eval o).run P w=.ok (.value (a.eval x)) w:=by unfold execOp;rw[ho];rfl
theorem Af3(h:Df N w0 X0 Y β s a w){c x y:Operand}(ho:o.op=.pick c x y){K:PV->Option R}(hk:(Bu (Ck s.tm c) fun t=>Ax t (K (Ck s.tm x)) (K (Ck s.tm y)))=some r):
  ∃v,K v=some r/\E7 P a w o Y β s v [] []:=by
 obtain⟨b,hb,hk⟩:=Eh hk;have hc:=Cl h hb;rcases Qe hk with⟨rfl,hk⟩|⟨rfl,hk⟩
 ·exact⟨_,hk,Ce (by unfold execOp;rw[ho];simp[asBool,hc]) (Dj h x) (F4 h x)⟩
 ·exact⟨_,hk,Ce (by unfold execOp;rw[ho];simp[asBool,hc]) (Dj h y) (F4 h y)⟩
theorem Sz{t:TypeId}{K:Ad->Option R}(h:Ip P t K=some r):∃(v:Value)(cs:Ad),K cs=some r/\Tw P t=some v/\cs.length=(J7 P t).length/\cs.length=v.cells.toList.length/\cs.length=A7 P t /\
  ∀(j:Nat) c,cs[j]?=some c->BG c/\∃u,v.cells.toList[j]?=some u/\u.oneCell'=true/\∀(w:World) (A:Nat->Prop),At w A c u:=by
 unfold Ip at h;obtain⟨v,hz,h⟩:=Cs h;obtain⟨hl,h⟩:=Am h;obtain⟨cs,h,O7,hc⟩:=X9 h;simp only[Er] at hl;have NN:=C6 hl.1
 have Wd:(J7 P t).length=A7 P t:=by
  have:=hl.2;simp only[K6,Er] at this;exact C6 this.2
 refine⟨v,cs,h,hz,O7,by rw[O7,NN],by rw[O7,Wd],fun j c hj=>?_⟩;obtain⟨hT,p,hp,_,GX⟩:=hc j c hj;rw[Ig,List.getElem?_map] at hp;cases hu:v.cells.toList[j]? with
 |none=>rw[hu] at hp;cases hp
 |some u=>
  rw[hu] at hp;simp at hp;subst hp;exact⟨hT,u,rfl,(GX default (fun _=>False) (fun _=>none) u (At.sc u)).2,fun w A=>(GX w A (fun _=>none) u (At.sc u)).1⟩
theorem BH{t:TypeId}{v:Value}(h:Tw P t=some v)(w:World):(zeroValue t).run P w=.ok v w:=by
 unfold Tw at h;cases hi:P.info? t with
 |none=>rw[hi] at h;cases h
 |some i=>rw[hi] at h;simp at h;simp[zeroValue,typeInfo,hi,h]
theorem Aah{t:TypeId}(ho:o.op=.alloc t){d:Nat}{K:PV->Bz->List (Nat × B2)->Option R}(hk:(Ip P t fun cs=>K (.ptr d 0) [] [(d,Ao4 P t cs)])=some r):∃v fz nw,K v fz nw=some r/\E7 P a w o Y β s v fz nw:=by
 obtain⟨z,cs,hk,hz,_,hl,_,hc⟩:=Sz hk
 have De:(execOp a.eval o).run P w=.ok (.value (.pointer (some ⟨w.heap.size,0,none⟩))) (w.alloc (.cells z.cells t)):=by
  unfold execOp;rw[ho];simp[Instr.alloc,BH hz,newVar,newRow]
 have hg:=Ho.alloc w z.cells t;refine⟨_,_,_,hk,?_⟩;unfold Ao4;cases Vp P t
 ·refine SP De hg (fun j p hj=>?_) fun x hx id Bx=>?_
  ·obtain⟨hT,u,hu,_,hv⟩:=hc j p hj;exact⟨u,by simpa using hu,(Og hT).2 (hv _ _)⟩
  ·obtain⟨j,hj⟩:=List.mem_iff_getElem?.1 hx;rw[Jh (hc j x hj).1] at Bx;cases Bx
 ·refine T7 (by simp) De hg (fun j p hj=>?_) (.inl ⟨rfl,rfl⟩);obtain⟨hT,u,hu,h1,hv⟩:=hc j p hj;exact⟨u,by simpa using hu,h1,hv _ _⟩
end
open Go.RowKit
section
variable {R:Type}{r:R}{P:Program}{N:Nat}{w0:World}{X0:Jw}{Y:Nat->Prop}{β β':Bt}{s:St}{a:Act}{w w':World}{o:Oper}{A:Nat->Prop}
theorem Tz{t:TypeId}(h:K6 P t=true):(∃d,P.underlying t=some d)/\(J7 P t).length=A7 P t/\(P.info? t).map (·.size)=some (A7 P t):=by
 simp only[K6,Er] at h;refine⟨Option.isSome_iff_exists.1 h.1,C6 h.2,?_⟩;unfold A7;cases hi:P.info? t with
 |none=>unfold Program.underlying at h;rw[hi] at h;cases h.1
 |some i=>simp
theorem Qr{v:Value}(h:v.oneCell'=true):v.cells = #[v]:=by cases v<;>first|rfl|cases h
theorem Ait{p:PV}{v:Value}{ts:List CT}{K:Ad->Option R}(hv:Fg w A β p v)(hl:(cellsOf p).length=ts.length)(h:R5 ts (cellsOf p) 0 K=some r):
  ∃cs,K cs=some r/\cs.length=ts.length/\Be (Cd w A β) cs v.cells.toList/\(∀u∈v.cells.toList,u.oneCell'=true)/\(∀c∈cs,∀id∈As c,id∈Cc p)/\∀c∈cs,(∀x,c ≠ .agg x)/\(∀x,c ≠ .tup x):=by
 obtain⟨cs,h,O7,HE,hc⟩:=Xr h;refine⟨cs,h,O7,?_⟩
 have single:(∀x,p ≠ .agg x)->cellsOf p=[p]:=by
  intro hp;cases p<;>first|rfl|exact absurd rfl (hp _)
 by_cases Hc:∃x,p=.agg x
 ·obtain⟨x,rfl⟩:=Hc;obtain⟨vs,rfl,h2⟩:=hv;have Eb:cs.length=vs.length:=by rw[O7,<-hl];exact h2.len
  have key:∀(i:Nat) c u,cs[i]?=some c->vs[i]?=some u->Cd w A β c u/\u.oneCell'=true:=by
   intro i c u Q1 hu;obtain⟨q,hq,_,_,hqv⟩:=hc i c Q1;rw[Ig] at hq;exact hqv w A β u (h2.at_ hq hu)
  refine⟨Be.of_at Eb fun i c u Q1 hu=>(key i c u Q1 hu).1,?_,?_,HE⟩
  ·intro u hu;obtain⟨i,hi⟩:=List.mem_iff_getElem?.1 (show u∈vs from hu)
   have Cm:i<vs.length:=by
    rcases Id i vs.length with h|h
    ·exact h
    ·rw[List.getElem?_eq_none h] at hi;cases hi
   exact (key i _ u (List.getElem?_eq_getElem (by omega)) hi).2
  ·intro c hcm id Bx;obtain⟨i,hi⟩:=List.mem_iff_getElem?.1 hcm;obtain⟨q,hq,_,hr,_⟩:=hc i c hi;rw[Ig] at hq;show id∈x.flatMap As;exact List.mem_flatMap.2 ⟨q,List.mem_of_getElem? hq,hr id Bx⟩
 ·have hp:∀x,p ≠ .agg x:=fun x e=>Hc ⟨x,e⟩;rw[single hp] at hl hc;have NN:cs.length=1:=by rw[O7,<-hl];rfl
  match cs,NN with
  |[c],_=>
   obtain⟨q,hq,hf,hr,hqv⟩:=hc 0 c rfl;simp at hq;subst hq;have Uq:∀x,p ≠ .tup x:=by rintro x rfl;exact hf
   have S0:Cd w A β p v:=(EF hp).1 ((Sj Uq).1 hv);obtain⟨h5,h6⟩:=hqv w A β v S0;rw[Qr h6];refine⟨⟨h5,trivial⟩,?_,?_,HE⟩
   ·intro u hu;simp at hu;subst hu;exact h6
   ·intro c' Q1 id Bx;simp at Q1;subst Q1;have:=hr id Bx;cases p<;>first|exact this|exact absurd rfl (hp _)|exact absurd rfl (Uq _)
end
open Go.RowKit
section
variable {R:Type}{r:R}{P:Program}{N:Nat}{w0:World}{X0:Jw}{Y:Nat->Prop}{β β':Bt}{s:St}{a:Act}{w w':World}{o:Oper}{A:Nat->Prop}
theorem Be.get{α β':Type}{R':α->β'->Prop}{zs:List α}{bs:List β'}(h:Be R' zs bs){i:Nat}{x:α}(hx:zs[i]?=some x):∃y,bs[i]?=some y/\R' x y:=by
 have Cm:i<zs.length:=by
  rcases Id i zs.length with h|h
  ·exact h
  ·rw[List.getElem?_eq_none h] at hx;cases hx
 have hb:bs[i]?=some (bs[i]'(by rw[<-h.len];exact Cm)):=List.getElem?_eq_getElem _
 exact⟨_,hb,h.at_ hx hb⟩
theorem Aua{p:PV}{v:Value}{ts:List CT}{K:Ad->Option R}(hv:Fg w A β p v)(hl:(cellsOf p).length=ts.length)(h:Wn ts (cellsOf p) 0 K=some r):
  ∃cs,K cs=some r/\cs.length=ts.length/\Be (At w A) cs v.cells.toList/\∀u∈v.cells.toList,u.oneCell'=true:=by
 obtain⟨cs,h,O7,hc⟩:=X9 h;refine⟨cs,h,O7,?_⟩;by_cases Hc:∃x,p=.agg x
 ·obtain⟨x,rfl⟩:=Hc;obtain⟨vs,rfl,h2⟩:=hv;have Eb:cs.length=vs.length:=by rw[O7,<-hl];exact h2.len
  have key:∀(i:Nat) c u,cs[i]?=some c->vs[i]?=some u->At w A c u/\u.oneCell'=true:=by
   intro i c u Q1 hu;obtain⟨_,q,hq,_,hqv⟩:=hc i c Q1;rw[Ig] at hq;exact hqv w A β u (h2.at_ hq hu)
  refine⟨Be.of_at Eb fun i c u Q1 hu=>(key i c u Q1 hu).1,?_⟩;intro u hu;obtain⟨i,hi⟩:=List.mem_iff_getElem?.1 (show u∈vs from hu)
  have Cm:i<vs.length:=by
   rcases Id i vs.length with h|h
   ·exact h
   ·rw[List.getElem?_eq_none h] at hi;cases hi
  exact (key i _ u (List.getElem?_eq_getElem (by omega)) hi).2
 ·have hp:∀x,p ≠ .agg x:=fun x e=>Hc ⟨x,e⟩;have single:cellsOf p=[p]:=by cases p<;>first|rfl|exact absurd rfl (hp _)
  rw[single] at hl hc;have NN:cs.length=1:=by rw[O7,<-hl];rfl
  match cs,NN with
  |[c],_=>
   obtain⟨_,q,hq,hf,hqv⟩:=hc 0 c rfl;simp at hq;subst hq;have Uq:∀x,p ≠ .tup x:=by rintro x rfl;exact hf
   have S0:Cd w A β p v:=(EF hp).1 ((Sj Uq).1 hv);obtain⟨h5,h6⟩:=hqv w A β v S0;rw[Qr h6];exact⟨⟨h5,trivial⟩,fun u hu=>by simp at hu;subst hu;exact h6⟩
theorem Aln(h:Df N w0 X0 Y β s a w){t:TypeId}{x:Operand}(ho:o.op=.box t x){d:Nat}{K:PV->Bz->List (Nat × B2)->Option R}(hk:(Ar (K6 P t&&Nat.beq (cellsOf (Ck s.tm x)).length (J7 P t).length)
      (bif Vp P t then Wn (J7 P t) (cellsOf (Ck s.tm x)) 0 fun cs=>K (.ptr d 0) [] [(d,.ar false cs)]
       else R5 (J7 P t) (cellsOf (Ck s.tm x)) 0 fun cs=>K (.ptr d 0) [] [(d,.st cs)]))=some r):∃v fz nw,K v fz nw=some r/\E7 P a w o Y β s v fz nw:=by
  obtain⟨hl,hk⟩:=Am hk
  simp only[Er] at hl
  have hl:=C6 hl.2
  have De:(execOp a.eval o).run P w=.ok (.value (.pointer (some ⟨w.heap.size,0,none⟩))) (w.alloc (.cells (a.eval x).cells t)):=by
    unfold execOp
    rw[ho]
    simp[Instr.box,newVar,newRow]
  have hg:=Ho.alloc w (a.eval x).cells t
  cases ha:Vp P t
  · rw[ha] at hk
    obtain⟨cs,hk,_,h2,_,hr,_⟩:=Ait (Dj h x) hl hk
    refine⟨_,_,_,hk,SP De hg (fun j p hj=>?_) fun c hc id Bx=>F4 h x id (hr c hc id Bx)⟩
    obtain⟨u,hu,hp⟩:=h2.get hj
    exact⟨u,by simpa using hu,hp⟩
  · rw[ha] at hk
    obtain⟨cs,hk,_,h2,h1⟩:=Aua (Dj h x) hl hk
    refine⟨_,_,_,hk,T7 (by simp) De hg (fun j p hj=>?_) (.inl ⟨rfl,rfl⟩)⟩
    obtain⟨u,hu,hp⟩:=h2.get hj
    exact⟨u,by simpa using hu,h1 u (List.mem_of_getElem? hu),hp⟩
theorem Aej{c:PV}(h1:∀x,c ≠ .agg x)(h2:∀x,c ≠ .tup x):Cc c=As c:=by cases c<;>first|rfl|exact absurd rfl (h1 _)|exact absurd rfl (h2 _)
theorem FE{t:TypeId}{ad:Addr}{cs:Ad}{p:PV}(hok:K6 P t=true)(Eb:cs.length=(J7 P t).length)(HE:∀c∈cs,(∀x,c ≠ .agg x)/\(∀x,c ≠ .tup x))(hc:∀(j:Nat) c,cs[j]?=some c->∃v,w.cell? (ad.add j)=some v/\Cd w A β c v)(hp:(Cj P t=true/\p=.agg cs)\/(Cj P t=false/\cs=[p])):∃val,(loadVar t ad).run P w=.ok val w/\Fg w A β p val:=by
 obtain⟨⟨d,hd⟩,hl,hi⟩:=Tz hok;rcases hp with⟨Hc,rfl⟩|⟨Hc,rfl⟩
 ·have hf:∀j,j<A7 P t->w.cell? (ad.add j)=some ((w.cell? (ad.add j)).getD undef):=by
   intro j hj;obtain⟨v,hv,_⟩:=hc j _ (List.getElem?_eq_getElem (by omega));rw[hv];rfl
  refine⟨_,?_,(List.range (A7 P t)).map (fun j=>(w.cell? (ad.add j)).getD undef),rfl,?_⟩
  ·simp only[loadVar,Sem.run_bind,Qu hd,Hc,Result.andThen_ok,if_true,Nd hi,run_loadCells w ad (A7 P t) _ hf];simp
  ·refine Be.of_at (by simp;omega) fun i c u Q1 hu=>?_
   obtain⟨v,hv,JA⟩:=hc i c Q1
   have Cm:i<A7 P t:=by
    rcases Id i cs.length with h|h
    ·omega
    ·rw[List.getElem?_eq_none h] at Q1;cases Q1
   rw[List.getElem?_map,List.getElem?_range Cm] at hu;simp[hv] at hu;subst hu;exact JA
 ·obtain⟨v,hv,JA⟩:=hc 0 p rfl;have hn:=HE p (by simp);have h0:ad.add 0=ad:=by simp[Addr.add]
  rw[h0] at hv;refine⟨v,?_,(Sj hn.2).2 ((EF hn.1).2 JA)⟩;simp only[loadVar,Sem.run_bind,Qu hd,Hc,Result.andThen_ok];simp[hv]
theorem Aqm{hp:Nat->Option B2}{id:Nat}{c:Ad}(h:rd hp id=some c):hp id=some (.st c)\/∃f,hp id=some (.ar f c):=by
 unfold rd at h;split at h
 ·rename_i e;simp at h;subst h;exact .inl e
 ·rename_i f _ e;simp at h;subst h;exact .inr ⟨_,e⟩
 ·cases h
theorem XX{hp:Nat->Option B2}{id:Nat}{c:Ad}(h:Mm hp id=some c):∃f,hp id=some (.ar f c):=by
 unfold Mm at h;split at h
 ·rename_i e;simp at h;subst h;exact⟨_,e⟩
 ·cases h
theorem QJ(h:Df N w0 X0 Y β s a w){id:Nat}{c:Ad}(hr:rd s.hp id=some c){b ob:Nat}(hβ:β id=some (b,ob)){j:Nat}{p:PV}(hj:c[j]?=some p):
  ∃v,w.cell? ⟨b,ob+j,none⟩=some v/\Cd w (Dt s.hp β Y) β p v:=by
 rcases Aqm hr with hb|⟨f,hb⟩
 ·obtain⟨b',o',h1,h2,_⟩:=h.box id _ hb;rw[hβ] at h1;simp at h1;obtain⟨rfl,rfl⟩:=h1;exact h2 j p hj
 ·rcases h.box id _ hb with⟨h1,_⟩|⟨b',o',h1,h2,_⟩
  ·rw[hβ] at h1;cases h1
  ·rw[hβ] at h1;simp at h1;obtain⟨rfl,rfl⟩:=h1
   obtain⟨v,hv,_,ht⟩:=h2 j p hj;rw[Ff] at hv;refine⟨v,hv,?_⟩;cases ht with
   |sc=>exact At.sc _
   |top=>exact At.top _
   |ub=>exact At.ub _
   |lnil=>exact At.lnil _ _
   |lemp=>exact At.lemp _ _ _
   |lst es n cells a cap f hs hb hA hn hc h1 hr=>exact At.lst es n cells a cap f hs hb hA hn hc h1 hr
theorem Nn:∀{ts:List CT}{cells:Ad}{off:Nat}{K:Ad->Option R},Wn ts cells off K=some r->R5 ts cells off K=some r
 |[],_,_,_,h=>h
 |.int k::ts,cells,off,K,h=>by
  obtain⟨n,hp,h⟩:=Fe (show Bc k (cells.getD off .top) _=some r from h);show Bc k _ _=_;rw[hp];simp only[Bc,if_true];exact Nn h
 |.bool::ts,cells,off,K,h=>by
  obtain⟨n,hp,h⟩:=Eh (show Bu (cells.getD off .top) _=some r from h);show Bu _ _=_;rw[hp];exact Nn h
 |.str::ts,cells,off,K,h=>by
  obtain⟨n,hp,h⟩:=D9 (show Bv (cells.getD off .top) _=some r from h);show Bv _ _=_;rw[hp];exact Nn h
 |.sl es::ts,cells,off,K,h=>by
  obtain⟨z,n,c,h,hp⟩:=Hz (show Xd es (cells.getD off .top) _=some r from h);change fcK (.sl es) (cells.getD off .top) (fun c=>R5 ts cells (off+1) fun r=>K (c::r))=some r;unfold fcK;dsimp only;unfold fsK;rcases hp with hp|⟨hp,rfl,rfl,rfl⟩
  ·rw[hp];simp only[Xd,Qi,cond_true];exact Nn h
  ·rw[hp];exact Nn h
 |.any::ts,cells,off,K,h=>by
  have hK:∀v,Wn ts cells (off+1) (fun r=>K (.sc v::r))=some r->R5 ts cells (off+1) (fun r=>K (.sc v::r))=some r:=fun v h=>Nn h;have h:fnK (cells.getD off .top) (fun v=>Wn ts cells (off+1) fun r=>K (.sc v::r))=some r:=h;show fnK (cells.getD off .top) (fun v=>R5 ts cells (off+1) fun r=>K (.sc v::r))=some r;unfold fnK at h ⊢;split at h
  ·rename_i e;exact hK _ h
  ·exact hK _ h
  ·cases h
theorem At.unz{w:World}{A:Nat->Prop}{z:Bool}{es n:Nat}{c:Ad}{u:Value}(h:At w A (.lst z es n c) u):At w A (.lst false es n c) u:=by
 cases h with
 |lnil z es=>exact .lnil false es
 |lemp es a cap=>exact .lemp es a cap
 |lst es n c a cap f h1 h2 h3 h4 h5 h6 h7=>exact .lst es n c a cap f h1 h2 h3 h4 h5 h6 h7
theorem Amm{w:World}{A:Nat->Prop}{β:Bt}{p:PV}{u:Value}(h:Cd w A β p u):Cd w A β (WY p) u:=by
 cases p with
 |lst z es n c=>exact At.unz h
 |_=>exact h
theorem Afr(p:PV):As (WY p)=As p:=by cases p<;>rfl
theorem VK{w:World}{A:Nat->Prop}{β:Bt}:∀{cs:Ad}{vs:List Value},Be (Cd w A β) cs vs->Be (Cd w A β) (cs.map WY) vs
 |[],[],_=>trivial
 |_::_,_::_,h=>⟨Amm h.1,VK h.2⟩
 |[],_::_,h=>h.elim
 |_::_,[],h=>h.elim
theorem Ale{w:World}{A:Nat->Prop}{β:Bt}{p:PV}{u:Value}(h:Fg w A β p u):Fg w A β (Afa p) u:=by
 cases p with
 |agg cs=>
  obtain⟨vs,h1,h2⟩:=(show Jo w A β (.agg cs) u from h)
  exact⟨vs,h1,VK h2⟩
 |lst z es n c=>exact At.unz (show At w A (.lst z es n c) u from h)
 |_=>exact h
theorem Al9(p:PV):Cc (Afa p)=Cc p:=by
 cases p with
 |agg cs=>
  show (cs.map WY).flatMap As=cs.flatMap As
  induction cs with
  |nil=>rfl
  |cons a l ih=>rw[U7,Kb,Kb,ih,Afr]
 |_=>rfl
theorem At6{nz:Bool}{hp:Nat->Option B2}{t:TypeId}{x:PV}{K:PV->Option R}(h:EO nz P (rd hp) (Mm hp) t x K=some r):
  BM P (rd hp) t x K=some r\/BM P (rd hp) t x (fun v=>K (Afa v))=some r:=by
 have h':BM P (rd hp) t x K=some r\/BM P (rd hp) t x (fun v=>K (bif nz then v else Afa v))=some r:=by
  unfold EO at h;unfold BM;split at h
  ·rename_i id off;obtain⟨hb,h⟩:=Am h;rw[hb];show Ds _ _=_\/Ds _ _=_;split at h
   ·rename_i c hc;obtain⟨f,O8⟩:=XX hc;have:rd hp id=some c:=by unfold rd;rw[O8]
    rw[this];exact .inr (Nn h)
   ·exact .inl h
  ·exact .inr h
  ·cases h
 cases nz
 ·exact h'
 ·exact .inl (h'.elim id id)
theorem VT(h:Df N w0 X0 Y β s a w){t:TypeId}{x:PV}{u:Value}(hx:Fg w (Dt s.hp β Y) β x u){K:PV->Option R}(hk:BM P (rd s.hp) t x K=some r):
  ∃v ad val,K v=some r/\u=.pointer (some ad)/\(loadVar t ad).run P w=.ok val w/\Fg w (Dt s.hp β Y) β v val/\∀i∈Cc v,s.hp i≠none:=by
 unfold BM at hk;split at hk
 ·rename_i id off;obtain⟨hok,hk⟩:=Am hk;obtain⟨c,hr,hk⟩:=Cs hk;obtain⟨cs,hk,hl,HE,hc⟩:=Xr hk;obtain⟨b,ob,hβ,D4⟩:=hx
  have hcell:∀(j:Nat) q,cs[j]?=some q->∃v,w.cell? ((⟨b,ob+off,none⟩:Addr).add j)=some v/\Cd w (Dt s.hp β Y) β q v:=by
   intro j q hq;obtain⟨p,hp,_,_,GX⟩:=hc j q hq;obtain⟨v,hv,JA⟩:=QJ h hr hβ hp;exact⟨v,by rw[Ff,Pi];exact hv,(GX _ _ _ _ JA).1⟩
  have AR:∀q∈cs,∀i∈As q,s.hp i≠none:=by
   intro q hq i hi;obtain⟨j,hj⟩:=List.mem_iff_getElem?.1 hq;obtain⟨p,hp,_,hpr,_⟩:=hc j q hj;rcases Aqm hr with hb|⟨f,hb⟩
   ·exact h.wfB id c hb p (List.mem_of_getElem? hp) i (hpr i hi)
   ·obtain⟨v,hv,JA⟩:=QJ h hr hβ hp;exfalso;have Dr:=hpr i hi;rcases h.box id _ hb with⟨_,rfl⟩|⟨b',o',h1,h2,_⟩
    ·simp at hp
    ·obtain⟨v',_,_,ht⟩:=h2 _ p hp;cases ht<;>cases Dr
  rcases XU hk with⟨Hc,Fu⟩|⟨Hc,q,rfl,Fu⟩
  ·obtain⟨val,EP,hv⟩:=FE hok hl HE hcell (.inl ⟨Hc,rfl⟩);refine⟨_,_,val,Fu,D4,EP,hv,fun i hi=>?_⟩;obtain⟨q,hq,hi⟩:=List.mem_flatMap.1 (show i∈cs.flatMap As from hi);exact AR q hq i hi
  ·obtain⟨val,EP,hv⟩:=FE hok hl HE hcell (.inr ⟨Hc,rfl⟩);refine⟨_,_,val,Fu,D4,EP,hv,fun i hi=>AR q (by simp) i ?_⟩;have hn:=HE q (by simp);rw[Aej hn.1 hn.2] at hi;exact hi
 ·rename_i c off;obtain⟨hok,hk⟩:=Am hk;obtain⟨cs,hk,hl,hc⟩:=X9 hk;obtain⟨ad,D4,hs,hb,hA,hrd⟩:=hx
  have HE:∀q∈cs,(∀x,q ≠ .agg x)/\(∀x,q ≠ .tup x):=by
   intro q hq;obtain⟨j,hj⟩:=List.mem_iff_getElem?.1 hq;exact⟨GB (hc j q hj).1,Ahd (hc j q hj).1⟩
  have hcell:∀(j:Nat) q,cs[j]?=some q->∃v,w.cell? ((ad.add off).add j)=some v/\Cd w (Dt s.hp β Y) β q v:=by
   intro j q hq;obtain⟨hT,p,hp,NV,GX⟩:=hc j q hq;obtain⟨v,hv,_,ht⟩:=hrd (off+j) p hp;exact⟨v,by rw[add_add];exact hv,(Og hT).2 (GX w (Dt s.hp β Y) β v ((Og NV).2 ht)).1⟩
  have AR:∀q∈cs,As q=[]:=by
   intro q hq;obtain⟨j,hj⟩:=List.mem_iff_getElem?.1 hq;exact Jh (hc j q hj).1
  rcases XU hk with⟨Hc,Fu⟩|⟨Hc,q,rfl,Fu⟩
  ·obtain⟨val,EP,hv⟩:=FE hok hl HE hcell (.inl ⟨Hc,rfl⟩);refine⟨_,_,val,Fu,D4,EP,hv,fun i hi=>?_⟩;obtain⟨q,hq,hi⟩:=List.mem_flatMap.1 (show i∈cs.flatMap As from hi);rw[AR q hq] at hi;cases hi
  ·obtain⟨val,EP,hv⟩:=FE hok hl HE hcell (.inr ⟨Hc,rfl⟩);refine⟨_,_,val,Fu,D4,EP,hv,fun i hi=>?_⟩;have hn:=HE q (by simp);rw[Aej hn.1 hn.2,AR q (by simp)] at hi;cases hi
 ·cases hk
theorem Abs(h:Df N w0 X0 Y β s a w){t:TypeId}{x:PV}{u:Value}(hx:Fg w (Dt s.hp β Y) β x u){nz:Bool}{K:PV->Option R}(hk:EO nz P (rd s.hp) (Mm s.hp) t x K=some r):
  ∃v ad val,K v=some r/\u=.pointer (some ad)/\(loadVar t ad).run P w=.ok val w/\Fg w (Dt s.hp β Y) β v val/\∀i∈Cc v,s.hp i≠none:=by
 rcases At6 hk with hk|hk
 ·exact VT h hx hk
 ·obtain⟨v,ad,val,h1,h2,h3,h4,h5⟩:=VT h hx hk;exact⟨Afa v,ad,val,h1,h2,h3,Ale h4,by rw[Al9];exact h5⟩
theorem Ae3(h:Df N w0 X0 Y β s a w){t:TypeId}{x:Operand}(ho:o.op=.load t x){nz:Bool}{K:PV->Option R}(hk:EO nz P (rd s.hp) (Mm s.hp) t (Ck s.tm x) K=some r):
  ∃v,K v=some r/\E7 P a w o Y β s v [] []:=by
 obtain⟨v,ad,val,Ez,D4,hl,hv,hr⟩:=Abs h (Dj h x) hk;refine⟨v,Ez,Ce ?_ hv hr⟩;unfold execOp;rw[ho];simp[Instr.loadAt,Instr.sureAddr,D4,hl]
theorem Akv{x:PV}{d:Nat}{K:PV->Option R}(h:Zb x d K=some r):(∃id off,x=.ptr id off/\K (.ptr id (off+d))=some r)\/∃c off,x=.iptr c off/\K (.iptr c (off+d))=some r:=by
 unfold Zb at h;split at h
 ·exact .inl ⟨_,_,rfl,h⟩
 ·exact .inr ⟨_,_,rfl,h⟩
 ·cases h
theorem CK(h:Df N w0 X0 Y β s a w){x:Operand}{d:Nat}{K:PV->Option R}(hk:Zb (Ck s.tm x) d K=some r)(De:∀ad:Addr,a.eval x=.pointer (some ad)->(execOp a.eval o).run P w=.ok (.value (.pointer (some (ad.add d)))) w):∃v,K v=some r/\E7 P a w o Y β s v [] []:=by
 have hx:=Dj h x;have RG:=F4 h x;rcases Akv hk with⟨id,off,e,hk⟩|⟨c,off,e,hk⟩
 ·rw[e] at hx RG;obtain⟨b,ob,hβ,D4⟩:=hx;refine⟨_,hk,Ce (De _ D4) ⟨b,ob,hβ,by rw[Ff,Pi]⟩ RG⟩
 ·rw[e] at hx;obtain⟨ad,D4,h1,h2,h3,h4⟩:=hx;exact⟨_,hk,Ce (De _ D4) ⟨ad,by rw[add_add],h1,h2,h3,h4⟩ (by intro i hi;cases hi)⟩
theorem NH(h:Df N w0 X0 Y β s a w){x:Operand}(ho:o.op=.nilCheck x){K:PV->Option R}(hk:Zb (Ck s.tm x) 0 K=some r):∃v,K v=some r/\E7 P a w o Y β s v [] []:=by refine CK h hk fun ad D4=>?_;unfold execOp;rw[ho];simp[D4,Addr.add]
theorem EY{t:TypeId}{f:Nat}{q:Nat × TypeId}(h:Uj P t f=some q):∃fs g,P.underlying t=some (.struct fs)/\fs[f]?=some g/\q=(g.offset,g.type):=by
 unfold Uj at h;split at h
 ·rename_i fs e;cases hg:fs[f]? with
  |none=>rw[hg] at h;cases h
  |some g=>rw[hg] at h;simp at h;exact⟨fs,g,e,hg,h.symm⟩
 ·cases h
theorem LO(h:Df N w0 X0 Y β s a w){t:TypeId}{x:Operand}{f:Nat}(ho:o.op=.fieldAddr t x f){K:PV->Option R}(hk:(Ds (Uj P t f) fun q=>Ar (Nat.ble 1 (A7 P q.2)) (Zb (Ck s.tm x) q.1 K))=some r):∃v,K v=some r/\E7 P a w o Y β s v [] []:=by
 obtain⟨q,hq,hk⟩:=Cs hk;obtain⟨hs,hk⟩:=Am hk;obtain⟨fs,g,hu,hg,rfl⟩:=EY hq;have hs:1<=A7 P g.type:=Oj hs;have Sx:=Anr (P:=P) (t:=g.type) rfl (by omega);refine CK h hk fun ad D4=>?_;unfold execOp;rw[ho];have G6:¬A7 P g.type=0:=by omega
 simp[Instr.fieldAt,run_underlying hu,hg,Instr.sureAddr,D4,fieldPlace,Nd Sx,G6]
end
open Go.RowKit
section
variable {R:Type}{r:R}{P:Program}{N:Nat}{w0:World}{X0:Jw}{Y:Nat->Prop}{β β':Bt}{s:St}{a:Act}{w w':World}{o:Oper}{A:Nat->Prop}
theorem NC(h:Df N w0 X0 Y β s a w){t:TypeId}{cs:Ad}{vs:List Value}{off:Nat}{K:PV->Option R}{x:Operand}(hx:Ck s.tm x=.agg cs)(hv:Be (Cd w (Dt s.hp β Y) β) cs vs)(hk:Ar (K6 P t) (R5 (J7 P t) cs off fun c=>mkV (Cj P t) c K)=some r)(De:∀val,(part t ⟨vs⟩ off).run P w=.ok val w->(execOp a.eval o).run P w=.ok (.value val) w):∃v,K v=some r/\E7 P a w o Y β s v [] []:=by
 obtain⟨hok,hk⟩:=Am hk;obtain⟨⟨d,hd⟩,hl,hi⟩:=Tz hok;obtain⟨qs,hk,hql,HE,hq⟩:=Xr hk;have RG:=F4 h x;rw[hx] at RG
 have hcell:∀(j:Nat) q,qs[j]?=some q->∃v,vs[off+j]?=some v/\Cd w (Dt s.hp β Y) β q v:=by
  intro j q hj;obtain⟨p,hp,_,_,GX⟩:=hq j q hj;obtain⟨v,S0,hc⟩:=hv.get hp;exact⟨v,S0,(GX _ _ _ _ hc).1⟩
 have AR:∀q∈qs,∀i∈As q,s.hp i≠none:=by
  intro q hqm i hi;obtain⟨j,hj⟩:=List.mem_iff_getElem?.1 hqm;obtain⟨p,hp,_,hpr,_⟩:=hq j q hj;exact RG i (List.mem_flatMap.2 ⟨p,List.mem_of_getElem? hp,hpr i hi⟩)
 rcases XU hk with⟨Hc,Fu⟩|⟨Hc,q,rfl,Fu⟩
 ·have FS:A7 P t=0\/off+A7 P t<=vs.length:=by
   rcases Nat.eq_zero_or_pos (A7 P t) with h0|h0
   ·exact .inl h0
   ·obtain⟨v,S0,_⟩:=hcell (A7 P t-1) _ (List.getElem?_eq_getElem (by omega))
    have:off+(A7 P t-1)<vs.length:=by
     rcases Id (off+(A7 P t-1)) vs.length with h|h
     ·exact h
     ·rw[List.getElem?_eq_none h] at S0;cases S0
    exact .inr (by omega)
  refine⟨_,Fu,Ce (De (.agg ⟨(vs.drop off).take (A7 P t)⟩) ?_) ⟨(vs.drop off).take (A7 P t),rfl,?_⟩ fun i hi=>?_⟩
  ·simp only[part,Sem.run_bind,Qu hd,Hc,Result.andThen_ok,if_true,Nd hi];simp[List.extract_eq_take_drop]
  ·refine Be.of_at ?_ fun i c u hc hu=>?_
   ·simp only[List.length_take,List.length_drop];omega
   ·obtain⟨v,S0,JA⟩:=hcell i c hc
    have Cm:i<A7 P t:=by
     rcases Id i qs.length with h|h
     ·omega
     ·rw[List.getElem?_eq_none h] at hc;cases hc
    rw[List.getElem?_take_of_lt Cm,List.getElem?_drop,S0] at hu;cases hu;exact JA
  ·obtain⟨q,hqm,hi⟩:=List.mem_flatMap.1 (show i∈qs.flatMap As from hi);exact AR q hqm i hi
 ·obtain⟨v,S0,JA⟩:=hcell 0 q rfl;have hn:=HE q (by simp);refine⟨_,Fu,Ce (De v ?_) ((Sj hn.2).2 ((EF hn.1).2 JA)) fun i hi=>?_⟩
  ·simp only[part,Sem.run_bind,Qu hd,Hc,Result.andThen_ok];rw[YI] at S0;simp[S0]
  ·rw[Aej hn.1 hn.2] at hi;exact AR q (by simp) i hi
theorem Acd(h:Df N w0 X0 Y β s a w){t:TypeId}{x:Operand}{f:Nat}(ho:o.op=.field t x f){K:PV->Option R}(hk:(Ds (Uj P t f) fun q=>Ar (K6 P q.2)<|Ep (Ck s.tm x) fun cs=>R5 (J7 P q.2) cs q.1 fun c=>mkV (Cj P q.2) c K)=some r):∃v,K v=some r/\E7 P a w o Y β s v [] []:=by
 obtain⟨q,hq,hk⟩:=Cs hk;obtain⟨hok,hk⟩:=Am hk;obtain⟨cs,hx,hk⟩:=Iw hk;obtain⟨fs,g,hu,hg,rfl⟩:=EY hq;have hxv:=Dj h x;rw[hx] at hxv;obtain⟨vs,D4,hv⟩:=hxv;refine NC (t:=g.type) (off:=g.offset) h hx hv (by rw[show K6 P g.type=true from hok];exact hk) fun val hp=>?_
 unfold execOp;rw[ho];simp[Instr.field,run_underlying hu,hg,asAgg,D4,hp]
theorem RO(h:Df N w0 X0 Y β s a w){x:Operand}{i:Nat}(ho:o.op=.extract x i){K:PV->Option R}(hk:(match Ck s.tm x with | .tup vs=>Ds vs[i]? K|_=>none)=some r):∃v,K v=some r/\E7 P a w o Y β s v [] []:=by
 have hx:=Dj h x;have RG:=F4 h x;split at hk
 ·rename_i ps e;rw[e] at hx RG;obtain⟨p,hp,hk⟩:=Cs hk;obtain⟨vs,D4,hv⟩:=hx;obtain⟨v,S0,GX⟩:=hv.get hp
  have Axa:∀y,p ≠ .tup y:=by
   rintro y rfl
   have Bdi:At _ _ (.tup y) v:=GX;cases Bdi
  refine⟨p,hk,Ce (val:=v) ?_ ((Sj Axa).2 GX) fun id Bx=>RG id ?_⟩
  ·unfold execOp;rw[ho];simp[Instr.extract,D4,S0]
  ·refine List.mem_flatMap.2 ⟨p,List.mem_of_getElem? hp,?_⟩;cases p<;>first|exact Bx|exact absurd rfl (Axa _)
 ·cases hk
theorem Hx{es:Nat}{p:PV}{z:Bool}{n:Nat}{c:Ad}{v:Value}(hp:p=.lst z es n c\/(p=.sc (.slice none 0 0)/\z=true/\n=0/\c=[]))(hv:Fg w A β p v):
  (v=.slice none 0 0/\n=0/\c=[])\/(∃ad cap,v=.slice (some ad) n cap/\z=false/\n<=cap/\ad.spot=none/\ad.block<w.heap.size/\¬A ad.block/\RdT w A ad c)\/∃ad cap,v=.slice (some ad) 0 cap/\z=false/\n=0/\c=[]:=by
 have S0:Cd w A β p v:=by rcases hp with rfl|⟨rfl,_⟩<;>exact hv
 have ht:=BP hp S0;cases ht with
 |lnil=>exact .inl ⟨rfl,rfl,rfl⟩
 |lst _ _ _ ad cap f hs hb hA hn hc h1 hr=>exact .inr (.inl ⟨ad,cap,rfl,rfl,hn,hs,hb,hA,fun j q hj=>⟨f j,hc j q hj,h1 j q hj,hr j q hj⟩⟩)
 |lemp _ ad cap=>exact .inr (.inr ⟨ad,cap,rfl,rfl,rfl,rfl⟩)
theorem KU(h:Df N w0 X0 Y β s a w){t:TypeId}{x i:Operand}(ho:o.op=.indexAddr t x i){K:PV->Option R}(hk:(Ea (Ck s.tm i) fun _ n=>Nq P t (Ck s.tm x) n K)=some r):∃v,K v=some r/\E7 P a w o Y β s v [] []:=by
 obtain⟨ik,n,hi,hk⟩:=Ef hk;have hai:=Cl h hi;have hx:=Dj h x;have RG:=F4 h x;unfold Nq at hk;split at hk
 ·rename_i len e hu;obtain⟨hz,hk⟩:=Am hk;obtain⟨hb,hk⟩:=Am hk;simp only[Er,Xi] at hb;obtain⟨inf,Ts⟩:=Option.isSome_iff_exists.1 hz;refine CK h hk fun ad D4=>?_;unfold execOp;rw[ho];simp[Instr.indexAt,asIntOf,hai,D4,run_underlying hu,Instr.sureAddr,hb.1,hb.2,sizeOf,typeInfo,Ts,A7]
 ·rename_i e hu;obtain⟨hz,hk⟩:=Am hk;obtain⟨inf,Ts⟩:=Option.isSome_iff_exists.1 hz;have Sx:A7 P e=inf.size:=by simp[A7,Ts]
  split at hk
  ·rename_i id es off n' e';rw[e'] at hx RG;obtain⟨AB,hk⟩:=Am hk;have AB:=C6 AB;subst AB;obtain⟨hb,hk⟩:=Am hk;simp only[Er,Xi] at hb;rcases hx with⟨_,_,rfl,_⟩|⟨b,ob,y,cap,hβ,D4,hy,_⟩
   ·omega
   ·have hy:y=ob+off:=by rcases hy with hy|⟨rfl,_⟩<;>omega
    subst hy;refine⟨_,hk,Ce (val:=.pointer (some ⟨b,ob+(off+n.toNat*A7 P e),none⟩)) ?_ ⟨b,ob,hβ,rfl⟩ RG⟩;unfold execOp;rw[ho];simp[Instr.indexAt,asIntOf,hai,D4,run_underlying hu,hb.1,hb.2,sizeOf,typeInfo,Ts,Sx,Ff,Pi]
  ·obtain⟨z,n',c,hk,hp⟩:=Hz hk;obtain⟨hb,hk⟩:=Am hk;simp only[Er,Xi] at hb;rcases Hx hp hx with⟨_,rfl,_⟩|⟨ad,cap,D4,_,_,h1,h2,h3,h4⟩|⟨_,_,_,_,rfl,_⟩
   ·omega
   rotate_left
   ·omega
   ·refine⟨_,hk,Ce (val:=.pointer (some (ad.add (n.toNat*A7 P e)))) ?_ ⟨ad,rfl,h1,h2,h3,h4⟩ (by intro i hi;cases hi)⟩
    unfold execOp;rw[ho];simp[Instr.indexAt,asIntOf,hai,D4,run_underlying hu,hb.1,hb.2,sizeOf,typeInfo,Ts,Sx]
 ·cases hk
theorem Ab3(h:Df N w0 X0 Y β s a w){t:TypeId}{x i:Operand}(ho:o.op=.index t x i){K:PV->Option R}(hk:(Ea (Ck s.tm i) fun _ n=>
   match P.underlying t with
   |some .string=>Bv (Ck s.tm x) fun s=>Ar (decide (0<=n)) (Ds (s.data.toList[n.toNat]?) fun b=>K (.sc (.int .u8 b.toNat)))
   |some (.array len e)=>Ep (Ck s.tm x) fun cs=>Ar (decide (0<=n)&&decide (n<len)&&K6 P e) (R5 (J7 P e) cs (n.toNat*A7 P e) fun c=>mkV (Cj P e) c K)
   |_=>none)=some r):∃v,K v=some r/\E7 P a w o Y β s v [] []:=by
 obtain⟨ik,n,hi,hk⟩:=Ef hk;have hai:=Cl h hi;split at hk
 ·rename_i hu;obtain⟨sb,hx,hk⟩:=D9 hk;have D4:=Cl h hx;obtain⟨h0,hk⟩:=Am hk;obtain⟨b,hb,hk⟩:=Cs hk;have h0:=of_decide_eq_true h0;refine⟨_,hk,Cz ?_⟩
  have Cm:n.toNat<sb.size:=by
   rcases Id n.toNat sb.data.toList.length with h|h
   ·simpa using h
   ·rw[List.getElem?_eq_none h] at hb;cases hb
  have Jp:sb[n.toNat]=b:=by
   have:sb.data.toList[n.toNat]?=some sb[n.toNat]:=by
    rw[List.getElem?_eq_getElem (by simpa using Cm)];rfl
   rw[hb] at this;injection this with this;exact this.symm
  unfold execOp;rw[ho];simp[Instr.index,asIntOf,hai,D4,run_underlying hu,h0,Cm,Jp]
 ·rename_i len e hu;obtain⟨cs,hx,hk⟩:=Iw hk;obtain⟨hb,hk⟩:=Am hk;simp only[Er,Xi] at hb;have hxv:=Dj h x;rw[hx] at hxv;obtain⟨vs,D4,hv⟩:=hxv;obtain⟨_,_,Sx⟩:=Tz hb.2;refine NC (t:=e) (off:=n.toNat*A7 P e) h hx hv (by rw[hb.2];exact hk) fun val hp=>?_
  unfold execOp;rw[ho];simp[Instr.index,asIntOf,hai,D4,run_underlying hu,hb.1.1,hb.1.2,Nd Sx,hp]
 ·cases hk
end
open Go.RowKit
section
variable {R:Type}{r:R}{P:Program}{N:Nat}{w0:World}{X0:Jw}{Y:Nat->Prop}{β β':Bt}{s:St}{a:Act}{w w':World}{o:Oper}{A:Nat->Prop}
theorem Es(h:Df N w0 X0 Y β s a w){x:Option Operand}{dflt:Nat}{K:Nat->Option R}(hk:Ie (x.map (Ck s.tm)) dflt K=some r):
  ∃l,K l=some r/\((x=none/\l=dflt)\/∃y k,x=some y/\a.eval y=.int k (l:Int)):=by
 cases x with
 |none=>exact⟨dflt,hk,.inl ⟨rfl,rfl⟩⟩
 |some y=>
  obtain⟨k,i,hi,hk⟩:=Ef (show Ea (Ck s.tm y) _=some r from hk);obtain⟨h0,hk⟩:=Am hk;have h0:=of_decide_eq_true h0;exact⟨i.toNat,hk,.inr ⟨y,k,rfl,by rw[Cl h hi,Int.toNat_of_nonneg h0]⟩⟩
theorem Ks{lo hi:Option Operand}{isS:Bool}{len cap l u:Nat}(hl:(lo=none/\l=0)\/∃y k,lo=some y/\a.eval y=.int k (l:Int))(hu:(hi=none/\u=len)\/∃y k,hi=some y/\a.eval y=.int k (u:Int))(h1:l<=u)(h2:u<=cap):
  (Instr.sliceBounds isS len cap (lo.map a.eval) (hi.map a.eval) none).run P w=.ok (l,u,cap) w:=by
 rcases hl with⟨rfl,rfl⟩|⟨y,k,rfl,hy⟩<;>rcases hu with⟨rfl,rfl⟩|⟨y',k',rfl,hy'⟩
 ·simp[Instr.sliceBounds]
 ·simp[Instr.sliceBounds,Instr.sliceBound,asIntOf,hy',h2]
 ·simp[Instr.sliceBounds,Instr.sliceBound,asIntOf,hy,h1]
 ·simp[Instr.sliceBounds,Instr.sliceBound,asIntOf,hy,hy',h1,h2]
theorem Dg{e:TypeId}(h:(P.info? e).isSome=true)(w:World):(sizeOf e).run P w=.ok (A7 P e) w:=by obtain⟨i,hi⟩:=Option.isSome_iff_exists.1 h;exact Nd (by simp[A7,hi]) w
theorem QF{b j:Nat}{v:Value}(h:w.cell? ⟨b,j,none⟩=some v):j<bsz w b:=by
 unfold World.cell? at h;unfold bsz;split at h
 ·rename_i c e fz hb;simp only at hb;rw[hb];simp only[Option.isSome_none,Bool.false_eq_true,if_false] at h;rcases Id j c.size with Cm|hge
  ·exact Cm
  ·rw[Array.getElem?_eq_none hge] at h;cases h
 ·cases h
theorem Aam(h:Df N w0 X0 Y β s a w){t:TypeId}{x:Operand}{lo hi:Option Operand}(ho:o.op=.slice t x lo hi none){K:PV->Option R}(hk:IL P (rd s.hp) t (Ck s.tm x) (lo.map (Ck s.tm)) (hi.map (Ck s.tm)) K=some r):∃v,K v=some r/\E7 P a w o Y β s v [] []:=by
 have hx:=Dj h x;have RG:=F4 h x;unfold IL at hk;split at hk
 ·rename_i hu;obtain⟨sb,RI,hk⟩:=D9 hk;have D4:=Cl h RI;obtain⟨l,hk,hl⟩:=Es h hk;obtain⟨u,hk,Lk⟩:=Es h hk;obtain⟨hb,hk⟩:=Am hk;simp only[Er,Xi] at hb;refine⟨_,hk,Cz ?_⟩;unfold execOp;rw[ho];simp[Instr.sliceAt,Instr.slice,run_underlying hu,D4,Ks hl Lk hb.1 hb.2]
 ·rename_i e hu;obtain⟨Ts,hk⟩:=Am hk;split at hk
  ·rename_i id es off n e';rw[e'] at hx RG;obtain⟨AB,hk⟩:=Am hk;have AB:=C6 AB;subst AB;obtain⟨l,hk,hl⟩:=Es h hk;obtain⟨u,hk,Lk⟩:=Es h hk;obtain⟨hb,hk⟩:=Am hk;simp only[Er,Xi] at hb;rcases hx with⟨hβ,rfl,rfl,ad,D4⟩|⟨b,ob,y,cap,hβ,D4,hy,hn,CO,Cm⟩
   ·have hu0:u=0:=by omega
    have hl0:l=0:=by omega
    subst hu0 hl0;refine⟨_,hk,Ce (val:=.slice ad 0 0) ?_ (.inl ⟨hβ,by simp,rfl,ad,rfl⟩) RG⟩;unfold execOp;rw[ho];cases ad<;>simp[Instr.sliceAt,Instr.slice,run_underlying hu,D4,Ks hl Lk (Cn 0) (Cn 0),Dg Ts]
   ·have De:(execOp a.eval o).run P w=.ok (.value (.slice (some (if cap=l then ⟨b,y,none⟩ else ⟨b,y+l*A7 P e,none⟩)) (u-l) (cap-l))) w:=by
     unfold execOp;rw[ho];have hbr:=Ks (P:=P) (w:=w) (isS:=true) hl Lk hb.1 (Nat.le_trans hb.2 hn);simp[Instr.sliceAt,Instr.slice,run_underlying hu,D4,hbr,Dg Ts,Ff];split<;>rfl
    refine⟨_,hk,Ce De (.inr ?_) RG⟩;by_cases hc:cap=l
    ·rw[Cy hc];refine⟨b,ob,y,cap-l,hβ,rfl,?_,by omega,⟨by rw[hc,Nat.sub_self];have:=CO.1;omega,CO.2⟩,Cm⟩
     by_cases h0:l*A7 P e=0
     ·rw[h0,YI];rcases hy with hy|⟨GS,Tg⟩
      ·exact .inl hy
      ·exact .inr ⟨by omega,Tg⟩
     ·exact .inr ⟨by omega,by omega⟩
    ·rw[Bl hc];refine⟨b,ob,y+l*A7 P e,cap-l,hβ,rfl,?_,by omega,?_,Cm⟩
     ·rcases hy with hy|⟨GS,Tg⟩
      ·exact .inl (by omega)
      ·exact .inr ⟨by omega,by omega⟩
     ·have:l*A7 P e+(cap-l)*A7 P e=cap*A7 P e:=by
       rw[<-Nat.add_mul]
       congr 1
       omega
      have:=CO.1;exact⟨by omega,CO.2⟩
  ·obtain⟨z,n,c,hk,hp⟩:=Hz hk;obtain⟨l,hk,hl⟩:=Es h hk;obtain⟨u,hk,Lk⟩:=Es h hk;obtain⟨hb,hk⟩:=Am hk;simp only[Er,Xi] at hb;rcases Hx hp hx with⟨D4,rfl,rfl⟩|⟨ad,cap,D4,rfl,hn,h1,h2,h3,h4⟩|⟨ad,cap,D4,rfl,rfl,rfl⟩
   rotate_right
   ·have hu0:u=0:=by omega
    have hl0:l=0:=by omega
    subst hu0 hl0;refine⟨_,hk,Ce (val:=.slice (some (if cap=0 then ad else ad.add (0*A7 P e))) (0-0) (cap-0)) ?_ ?_ (by intro i hi;cases hi)⟩
    ·unfold execOp;rw[ho];have hbr:=Ks (P:=P) (w:=w) (isS:=true) hl Lk (Cn 0) (Nat.zero_le cap);simp[Instr.sliceAt,Instr.slice,run_underlying hu,D4,hbr,Dg Ts];split<;>rfl
    ·have:((([]:Ad).drop (0*A7 P e)).take ((0-0)*A7 P e))=[]:=by simp
     rw[this];exact At.lemp _ _ _
   ·have hu0:u=0:=by omega
    have hl0:l=0:=by omega
    subst hu0 hl0;refine⟨_,hk,Ce (val:=.slice none 0 0) ?_ ?_ (by intro i hi;cases hi)⟩
    ·unfold execOp;rw[ho];simp[Instr.sliceAt,Instr.slice,run_underlying hu,D4,Ks hl Lk (Cn 0) (Cn 0),Dg Ts]
    ·have:((([]:Ad).drop (0*A7 P e)).take ((0-0)*A7 P e))=[]:=by simp
     rw[this];exact At.lnil z _
   ·have De:(execOp a.eval o).run P w=.ok (.value (.slice (some (if cap=l then ad else ad.add (l*A7 P e))) (u-l) (cap-l))) w:=by
     unfold execOp;rw[ho];have hbr:=Ks (P:=P) (w:=w) (isS:=true) hl Lk hb.1 (Nat.le_trans hb.2 hn);simp[Instr.sliceAt,Instr.slice,run_underlying hu,D4,hbr,Dg Ts];split<;>rfl
    refine⟨_,hk,Ce De ?_ (by intro i hi;cases hi)⟩
    by_cases hc:cap=l
    ·rw[Cy hc];have:u-l=0:=by omega
     rw[this];simp only[Nat.zero_mul,List.take_zero];exact At.lst _ _ [] ad _ (fun _=>undef) h1 h2 h3 (by omega) (by simp) (by simp) (by simp)
    ·rw[Bl hc]
     have hcell:∀(j:Nat) q,((c.drop (l*A7 P e)).take ((u-l)*A7 P e))[j]?=some q->c[l*A7 P e+j]?=some q:=by
      intro j q hq;rw[List.getElem?_take] at hq;split at hq
      ·rw[List.getElem?_drop] at hq;exact hq
      ·cases hq
     refine At.lst _ _ _ (ad.add (l*A7 P e)) _ (fun j=>(w.cell? (ad.add (l*A7 P e+j))).getD undef) (Anh h1 _) (by rw[Fx];exact h2) (by rw[Fx];exact h3) (by omega) (fun j q hq=>?_) (fun j q hq=>?_) (fun j q hq=>?_)
     ·obtain⟨v,hv,_⟩:=h4 _ q (hcell j q hq);rw[add_add,hv];rfl
     ·obtain⟨v,hv,h5,_⟩:=h4 _ q (hcell j q hq);rw[hv];exact h5
     ·obtain⟨v,hv,_,ht⟩:=h4 _ q (hcell j q hq);rw[hv];exact ht
 ·rename_i n e hu;obtain⟨Ts,hk⟩:=Am hk;split at hk
  ·rename_i id off e';rw[e'] at hx RG;obtain⟨c,hrc,hk⟩:=Cs hk;obtain⟨Eb,hk⟩:=Am hk;simp only[Er,Xi] at Eb;have AB:=C6 Eb.2
   replace Eb:=Eb.1
   obtain⟨l,hk,hl⟩:=Es h hk;obtain⟨u,hk,Lk⟩:=Es h hk;obtain⟨hb,hk⟩:=Am hk;simp only[Er,Xi] at hb;obtain⟨b,ob,hβ,D4⟩:=hx
   have hbs:ob+off+n*A7 P e<=bsz w b:=by
    obtain⟨v,hv,_⟩:=QJ h hrc hβ (j:=off+n*A7 P e-1) (List.getElem?_eq_getElem (by omega));have:=QF hv;omega
   have Cm:b<w.heap.size:=h.blt id b ob (RG id (by simp[Cc,Ct,As])) hβ
   have De:(execOp a.eval o).run P w=.ok (.value (.slice (some (if n=l then ⟨b,ob+off,none⟩ else ⟨b,ob+off+l*A7 P e,none⟩)) (u-l) (n-l))) w:=by
    unfold execOp;rw[ho];have hbr:=Ks (P:=P) (w:=w) (isS:=false) hl Lk hb.1 hb.2;simp[Instr.sliceAt,Instr.sureAddr,run_underlying hu,D4,hbr,Dg Ts,Ff]
   refine⟨_,hk,Ce De (.inr ?_) RG⟩;by_cases hc:n=l
   ·rw[Cy hc];refine⟨b,ob,ob+off,n-l,hβ,rfl,?_,by omega,⟨by rw[hc,Nat.sub_self];omega,.inl AB⟩,Cm⟩
    by_cases h0:l*A7 P e=0
    ·rw[h0,YI];exact .inl rfl
    ·exact .inr ⟨by omega,by omega⟩
   ·rw[Bl hc];refine⟨b,ob,ob+off+l*A7 P e,n-l,hβ,rfl,.inl (by omega),by omega,?_,Cm⟩
    have:l*A7 P e+(n-l)*A7 P e=n*A7 P e:=by
     rw[<-Nat.add_mul]
     congr 1
     omega
    exact⟨by omega,.inl AB⟩
  ·cases hk
 ·cases hk
end
open Go.RowKit
section
variable {R:Type}{r:R}{P:Program}{N:Nat}{w0:World}{X0:Jw}{Y:Nat->Prop}{β β':Bt}{s:St}{a:Act}{w w':World}{o:Oper}{A:Nat->Prop}
theorem Al6(h:Df N w0 X0 Y β s a w){c:Call}(ho:o.op=.call c)(hc:c.callee=.builtin .len){K:PV->Option R}(hk:(Ai c.args.toList fun x _=>Ai c.argTypes.toList fun t _=>Alf P t (Ck s.tm x) fun n=>K (.sc (.int .i64 n)))=some r):∃v,K v=some r/\E7 P a w o Y β s v [] []:=by
 obtain⟨x,xs,RI,hk⟩:=Bf hk;obtain⟨t,ts,hts,hk⟩:=Bf hk;have hx:=Dj h x;have F9:c.args=(x::xs).toArray:=by rw[<-RI]
 have LA:c.argTypes=(t::ts).toArray:=by rw[<-hts]
 have De:∀n:Nat,(Builtin.len_ c.argTypes o.type (c.args.map a.eval)).run P w=.ok (.int .i64 n) w->(execOp a.eval o).run P w=.ok (.value (.int .i64 n)) w:=by
  intro n hl;unfold execOp;rw[ho];simp only[resolve,hc,invoke,builtin,Sem.run_bind,Sem.run_pure,Result.andThen_ok,hl]
 unfold Alf at hk;split at hk
 ·rename_i hu;obtain⟨sb,Bco,hk⟩:=D9 hk;have D4:=Cl h Bco;refine⟨_,hk,Cz (De _ ?_)⟩;simp[Builtin.len_,F9,LA,run_underlying hu,D4,goInt]
 ·rename_i n e hu;refine⟨_,hk,Cz (De _ ?_)⟩;simp[Builtin.len_,F9,LA,run_underlying hu,goInt]
 ·rename_i e hu;split at hk
  ·rename_i id es off n e';rw[e'] at hx;obtain⟨_,hk⟩:=Am hk;refine⟨_,hk,Cz (De _ ?_)⟩;rcases hx with⟨_,_,rfl,ad,D4⟩|⟨b,ob,y,cap,_,D4,_⟩<;>simp[Builtin.len_,F9,LA,run_underlying hu,D4,goInt]
  ·obtain⟨z,n,cc,hk,hp⟩:=Hz hk;refine⟨_,hk,Cz (De _ ?_)⟩;rcases Hx hp hx with⟨D4,rfl,_⟩|⟨ad,cap,D4,_⟩|⟨ad,cap,D4,_,rfl,_⟩<;>simp[Builtin.len_,F9,LA,run_underlying hu,D4,goInt]
 ·cases hk
theorem Akf(h:Df N w0 X0 Y β s a w){c:Call}(ho:o.op=.call c)(hc:c.callee=.builtin .cap){K:PV->Option R}(hk:(Ai c.args.toList fun x _=>Ai c.argTypes.toList fun t _=>Amk P t (Ck s.tm x) fun n=>K (.sc (.int .i64 n)))=some r):∃v,K v=some r/\E7 P a w o Y β s v [] []:=by
 obtain⟨x,xs,RI,hk⟩:=Bf hk;obtain⟨t,ts,hts,hk⟩:=Bf hk;have hx:=Dj h x;have F9:c.args=(x::xs).toArray:=by rw[<-RI]
 have LA:c.argTypes=(t::ts).toArray:=by rw[<-hts]
 have De:∀n:Nat,(Builtin.cap_ c.argTypes o.type (c.args.map a.eval)).run P w=.ok (.int .i64 n) w->(execOp a.eval o).run P w=.ok (.value (.int .i64 n)) w:=by
  intro n hl;unfold execOp;rw[ho];simp only[resolve,hc,invoke,builtin,Sem.run_bind,Sem.run_pure,Result.andThen_ok,hl]
 unfold Amk at hk;split at hk
 ·rename_i e hu;obtain⟨z,n,cc,hk,hp⟩:=Hz hk;obtain⟨hz,hk⟩:=Am hk;refine⟨_,hk,Cz (De _ ?_)⟩;rcases Hx hp hx with⟨D4,rfl,_⟩|⟨ad,cap,D4,PZ,_⟩|⟨ad,cap,D4,PZ,_,_⟩
  ·simp[Builtin.cap_,F9,LA,run_underlying hu,D4,goInt]
  ·rw[hz] at PZ;cases PZ
  ·rw[hz] at PZ;cases PZ
 ·cases hk
theorem Alk(h:Df N w0 X0 Y β s a w){c:Call}(ho:o.op=.call c)(hc:c.callee=.builtin .min){K:PV->Option R}(hk:(Ai c.args.toList fun x r=>Ai r fun y r'=>Ap r' (As9 (Ck s.tm x) (Ck s.tm y) K))=some r):∃v,K v=some r/\E7 P a w o Y β s v [] []:=by
 obtain⟨x,xs,RI,hk⟩:=Bf hk;obtain⟨y,ys,rfl,hk⟩:=Bf hk;obtain⟨rfl,hk⟩:=Eg hk;obtain⟨k,n,hx,hk⟩:=Ef hk;obtain⟨m,hy,hk⟩:=Fe hk
 have F9:c.args = #[x,y]:=by
  have:c.args=([x,y]:List Operand).toArray:=by rw[<-RI]
  exact this
 refine⟨_,hk,Cz ?_⟩;unfold execOp;rw[ho];simp[resolve,hc,invoke,builtin,F9,Builtin.min_,Builtin.min2,Cl h hx,Cl h hy]
theorem Ajx(h:Df N w0 X0 Y β s a w){c:Call}(ho:o.op=.call c)(hc:c.callee=.builtin .max){K:PV->Option R}(hk:(Ai c.args.toList fun x r=>Ai r fun y r'=>Ap r' (Awc (Ck s.tm x) (Ck s.tm y) K))=some r):∃v,K v=some r/\E7 P a w o Y β s v [] []:=by
 obtain⟨x,xs,RI,hk⟩:=Bf hk;obtain⟨y,ys,rfl,hk⟩:=Bf hk;obtain⟨rfl,hk⟩:=Eg hk;obtain⟨k,n,hx,hk⟩:=Ef hk;obtain⟨m,hy,hk⟩:=Fe hk
 have F9:c.args = #[x,y]:=by
  have:c.args=([x,y]:List Operand).toArray:=by rw[<-RI]
  exact this
 refine⟨_,hk,Cz ?_⟩;unfold execOp;rw[ho];simp[resolve,hc,invoke,builtin,F9,Builtin.max_,Builtin.max2,Cl h hx,Cl h hy]
theorem Ag4(h:Df N w0 X0 Y β s a w){op:UnOp}{t:TypeId}{x:Operand}(ho:o.op=.unOp op t x){K:PV->Option R}(hk:unK op (Ck s.tm x) K=some r):
  ∃v,K v=some r/\E7 P a w o Y β s v [] []:=by
 unfold unK at hk;split at hk
 ·obtain⟨b,hb,hk⟩:=Eh hk;refine⟨_,hk,Cz ?_⟩;unfold execOp;rw[ho];simp[Op.unary,Cl h hb]
 ·obtain⟨k,n,hb,hk⟩:=Ef hk;refine⟨_,hk,Cz ?_⟩;unfold execOp;rw[ho];simp[Op.unary,Op.intArith,Cl h hb]
 ·obtain⟨k,n,hb,hk⟩:=Ef hk;refine⟨_,hk,Cz ?_⟩;unfold execOp;rw[ho];simp[Op.unary,Op.intBits,Cl h hb,A7t]
 ·cases hk
theorem Amj{op:BinOp}{k:IntKind}{m n:Int}{t:TypeId}{x y:Operand}{K:PV->Option R}(hs1:op ≠ .shl)(JM:op ≠ .shr)(hk:QZ op k m n K=some r):
  ∃v,K (.sc v)=some r/\(do eqGuard op t x y (.int k m) (.int k n);binOp op t (.int k m) (.int k n)).run P w=.ok v w:=by
 cases op<;>first
  |exact absurd rfl hs1
  |exact absurd rfl JM
  |(obtain⟨hb,hk⟩:=Am hk;have hb:=of_decide_eq_true hb;exact⟨_,hk,by simp[eqGuard,binOp,Op.intDiv,hb]⟩)
  |exact⟨_,hk,by simp[eqGuard,binOp,-BitVec.toNat_and,-BitVec.toNat_or,-BitVec.toNat_xor,-gt_iff_lt,-ge_iff_le]<;>rfl⟩
theorem Alz{op:BinOp}{m n:ByteArray}{t:TypeId}{x y:Operand}{K:PV->Option R}(hk:QO op m n K=some r):
  ∃v,K (.sc v)=some r/\(do eqGuard op t x y (.string m) (.string n);binOp op t (.string m) (.string n)).run P w=.ok v w:=by
 cases op<;>first
  |cases hk
  |(obtain⟨hb,hk⟩:=Am hk;have hb:=of_decide_eq_true hb;exact⟨_,hk,by
    have Jp:¬(((m.size+n.size:Nat):Int)>IntKind.i64.max):=by
     have:IntKind.i64.max=9223372036854775807:=rfl;rw[this];omega
    simp only[eqGuard,binOp,Op.stringOp,Bl Jp];rfl⟩)
  |exact⟨_,hk,by simp only[eqGuard,binOp,Op.stringOp,ByteArray.toList_eq];rfl⟩
end
open Go.RowKit
section
variable {R:Type}{r:R}{P:Program}{N:Nat}{w0:World}{X0:Jw}{Y:Nat->Prop}{β β':Bt}{s:St}{a:Act}{w w':World}{o:Oper}{A:Nat->Prop}
theorem OV{t:TypeId}(hu:P.underlying t=some .bool)(x y:Bool):(Op.equal t (.bool x) (.bool y)).run P w=.ok (x==y) w:=by
 have h:∀d,(Op.equalIn (d+1) t (.bool x) (.bool y)).run P w=.ok (x==y) w:=fun d=>by simp[Op.equalIn,run_underlying hu]
 exact h 9999
theorem Zn{t e:TypeId}(hu:P.underlying t=some (.slice e))(x:Option Addr)(n c:Nat):(Op.equal t (.slice x n c) (.slice none 0 0)).run P w=.ok x.isNone w:=by
 have h:∀d,(Op.equalIn (d+1) t (.slice x n c) (.slice none 0 0)).run P w=.ok x.isNone w:=fun d=>by
  cases x<;>simp[Op.equalIn,run_underlying hu]
 exact h 9999
theorem EZ{t k e:TypeId}(hu:P.underlying t=some (.map k e)):(Op.equal t (.map none) (.map none)).run P w=.ok true w:=by
 have h:∀d,(Op.equalIn (d+1) t (.map none) (.map none)).run P w=.ok true w:=fun d=>by
  simp[Op.equalIn,run_underlying hu]
 exact h 9999
theorem K2{t:TypeId}(d:Nat){v u:Value}(hv:(∃k m n,P.underlying t=some (.int k)/\v=.int k m/\u=.int k n)\/(∃m n,P.underlying t=some .bool/\v=.bool m/\u=.bool n)\/∃m n,P.underlying t=some .string/\v=.string m/\u=.string n){b:Bool}(hb:∀k m n,v=.int k m->u=.int k n->b=(m==n))(Jp:∀m n,v=.bool m->u=.bool n->b=(m==n))(Bcq:∀m n,v=.string m->u=.string n->b=(m==n)):(Op.equalIn (d+1) t v u).run P w=.ok b w:=by
 rcases hv with⟨k,m,n,hu,rfl,rfl⟩|⟨m,n,hu,rfl,rfl⟩|⟨m,n,hu,rfl,rfl⟩
 ·rw[hb k m n rfl rfl];simp[Op.equalIn,run_underlying hu]
 ·rw[Jp m n rfl rfl];simp[Op.equalIn,run_underlying hu]
 ·rw[Bcq m n rfl rfl];simp[Op.equalIn,run_underlying hu]
theorem Vn{t:TypeId}{dsc:TypeDesc}(hu:P.underlying t=some dsc)(hd:Cj P t=false){xs:Array Value}{i:Nat}{v:Value}(hv:xs[i]?=some v):(part t xs i).run P w=.ok v w:=by simp only[part,Sem.run_bind,Qu hu,hd,Result.andThen_ok];simp[hv]
theorem UJ(k:IntKind)(n:Int)(K:Int->Option R):Bc k (.sc (.int k n)) K=K n:=by simp[Bc]
theorem Aa7(d : Nat): ∀ (fs : List Field) (i : Nat) (xs ys : Array Value) (ps qs : Ad) (K : Bool -> Option R), Abt P fs i = true -> Oa (fs.map (fty P)) ps qs K = some r ->
    (∀ (j : Nat) p, ps[j]? = some p -> ∃ v, xs[i + j]? = some v /\ Cd w A β p v) -> (∀ (j : Nat) p, qs[j]? = some p -> ∃ v, ys[i + j]? = some v /\ Cd w A β p v) ->
    ∃ b, K b = some r /\ (forIn fs ((none, ()) : Option Bool × Unit) fun (f : Field) (_ : Option Bool × Unit) =>
            if f.name = "_" then pure (ForInStep.yield ((none, ()) : Option Bool × Unit))
            else do
              let x <- part f.type xs f.offset
              let y <- part f.type ys f.offset
              let e <- Op.equalIn (d + 1) f.type x y
              if e = false then pure (ForInStep.done ((some false, ()) : Option Bool × Unit)) else pure (ForInStep.yield ((none, ()) : Option Bool × Unit)) : Sem (Option Bool × Unit)).run P w = .ok (if b then (none, ()) else (some false, ())) w
  | [], i, xs, ys, ps, qs, K, _, hk, _, _ => by
    cases ps with
    | nil => cases qs with
      | nil => exact⟨true, hk, by simp⟩
      | cons q qs => cases hk
    | cons p ps => cases hk
  | f :: fs, i, xs, ys, ps, qs, K, IX, hk, hp, hq => by
    simp only[Abt, Er] at IX
    obtain⟨⟨⟨Tg, Aoc⟩, hty⟩, AW⟩ := IX
    have Tg := C6 Tg
    have OD : f.name ≠ "_" := by simpa using Aoc
    cases ps with
    | nil =>
      simp only[U7] at hk
      cases A00 : fty P f <;> rw[A00] at hk <;> cases hk
    | cons p ps =>
      cases qs with
      | nil =>
        simp only[U7] at hk
        cases A00 : fty P f <;> rw[A00] at hk <;> cases hk
      | cons q qs =>
        obtain⟨v, hv, GX⟩ := hp 0 p rfl
        obtain⟨u, hu, hqu⟩ := hq 0 q rfl
        rw[YI] at hv hu
        have main : ∃ b0 dsc, P.underlying f.type = some dsc /\ Cj P f.type = false /\ (Op.equalIn (d + 1) f.type v u).run P w = .ok b0 w /\ Oa (fs.map (fty P)) ps qs (fun r => K (b0 && r)) = some r := by
          simp only[U7] at hk
          unfold fty at hk
          split at hk
          · rename_i k Mq
            obtain⟨m, UQ, Ez⟩ := Fe (show Bc k p _ = some r from hk)
            obtain⟨n, RD, Fu⟩ := Fe Ez
            subst UQ RD
            have S0 : v = .int k m := At.val (w := w) (A := A) GX
            have Lk : u = .int k n := At.val (w := w) (A := A) hqu
            subst S0 Lk
            refine⟨m == n, _, Mq, by simp[Cj, Mq], K2 d (.inl ⟨k, m, n, Mq, rfl, rfl⟩) ?_ ?_ ?_, Fu⟩
            · intro k' m' n' h1 h2; injection h1 with _ h1; injection h2 with _ h2; rw[h1, h2]
            · intro m' n' h1; cases h1
            · intro m' n' h1; cases h1
          · rename_i Mq
            obtain⟨m, UQ, Ez⟩ := Eh (show Bu p _ = some r from hk)
            obtain⟨n, RD, Fu⟩ := Eh Ez
            subst UQ RD
            have S0 : v = .bool m := At.val (w := w) (A := A) GX
            have Lk : u = .bool n := At.val (w := w) (A := A) hqu
            subst S0 Lk
            refine⟨m == n, _, Mq, by simp[Cj, Mq], K2 d (.inr (.inl ⟨m, n, Mq, rfl, rfl⟩)) ?_ ?_ ?_, Fu⟩
            · intro k' m' n' h1; cases h1
            · intro m' n' h1 h2; injection h1 with h1; injection h2 with h2; rw[h1, h2]
            · intro m' n' h1; cases h1
          · rename_i Mq
            obtain⟨m, UQ, Ez⟩ := D9 (show Bv p _ = some r from hk)
            obtain⟨n, RD, Fu⟩ := D9 Ez
            subst UQ RD
            have S0 : v = .string m := At.val (w := w) (A := A) GX
            have Lk : u = .string n := At.val (w := w) (A := A) hqu
            subst S0 Lk
            refine⟨m == n, _, Mq, by simp[Cj, Mq], K2 d (.inr (.inr ⟨m, n, Mq, rfl, rfl⟩)) ?_ ?_ ?_, Fu⟩
            · intro k' m' n' h1; cases h1
            · intro m' n' h1; cases h1
            · intro m' n' h1 h2; injection h1 with h1; injection h2 with h2; rw[h1, h2]
          · cases hk
        obtain⟨b0, dsc, Mq, Hc, he, hk⟩ := main
        obtain⟨b, hkb, De⟩ := Aa7 d fs (i + 1) xs ys ps qs _ AW hk (fun j p' hj => by have := hp (j + 1) p' hj; rwa [Pi, Nat.add_comm 1 j]) (fun j p' hj => by have := hq (j + 1) p' hj; rwa [Pi, Nat.add_comm 1 j])
        refine⟨b0 && b, hkb, ?_⟩
        have hpx : (part f.type xs f.offset).run P w = .ok v w := Vn Mq Hc (by rw[Tg]; exact hv)
        have hpy : (part f.type ys f.offset).run P w = .ok u w := Vn Mq Hc (by rw[Tg]; exact hu)
        cases b0
        · simp[List.forIn_cons, OD, hpx, hpy, he]
        · simp only[WU]
          rw[<- De]
          simp[List.forIn_cons, OD, hpx, hpy, he]
theorem KS(d:Nat){t:TypeId}{fs:Array Field}(hu:P.underlying t=some (.struct fs))(G0:P.stoodInHeld t=false)(IX:Abt P fs.toList 0=true){xs ys:Ad}{vx vy:List Value}(hvx:Be (Cd w A β) xs vx)(hvy:Be (Cd w A β) ys vy){K:Bool->Option R}(hk:Oa (fs.toList.map (fty P)) xs ys K=some r):
  ∃b,K b=some r/\(Op.equalIn (d+2) t (.agg ⟨vx⟩) (.agg ⟨vy⟩)).run P w=.ok b w:=by
 obtain⟨b,hkb,De⟩:=Aa7 (P:=P) (w:=w) (A:=A) (β:=β) d fs.toList 0 ⟨vx⟩ ⟨vy⟩ xs ys K IX hk (fun j p hj=>by
   obtain⟨v,hv,hc⟩:=hvx.get hj;exact⟨v,by simpa using hv,hc⟩) (fun j p hj=>by
   obtain⟨v,hv,hc⟩:=hvy.get hj;exact⟨v,by simpa using hv,hc⟩)
 refine⟨b,hkb,?_⟩;rw[Array.forIn_toList] at De;rw[Op.equalIn];simp[run_underlying hu,G0];rw[De];cases b<;>simp
theorem FB:∀(ts1:List CT){ts2:List CT}{ps qs:Ad}{K:Bool->Option R},Oa (ts1++ts2) ps qs K=some r ->
  Oa ts1 (ps.take ts1.length) (qs.take ts1.length) (fun b=>Oa ts2 (ps.drop ts1.length) (qs.drop ts1.length) fun r'=>K (b&&r'))=some r
 |[],ts2,ps,qs,K,h=>by
  simp only[LP,List.take_zero,Ou,Oa,WU];exact h
 |t::ts1,ts2,ps,qs,K,h=>by
  rw[Zzp] at h;cases ps with
  |nil=>cases t<;>cases h
  |cons p ps=>
   cases qs with
   |nil=>cases t<;>cases h
   |cons q qs=>
    simp only[On,List.take_succ_cons,List.drop_succ_cons];cases t with
    |int k=>
     obtain⟨m,UQ,h1⟩:=Fe (show Bc k p _=some r from h);obtain⟨n,RD,h2⟩:=Fe h1;subst UQ RD;have:=FB ts1 h2;simp only[<-Bool.and_assoc] at this;exact (UJ _ _ _).trans ((UJ _ _ _).trans this)
    |bool=>
     obtain⟨m,UQ,h1⟩:=Eh (show Bu p _=some r from h);obtain⟨n,RD,h2⟩:=Eh h1;subst UQ RD;have:=FB ts1 h2;simp only[<-Bool.and_assoc] at this;exact this
    |str=>
     obtain⟨m,UQ,h1⟩:=D9 (show Bv p _=some r from h);obtain⟨n,RD,h2⟩:=D9 h1;subst UQ RD;have:=FB ts1 h2;simp only[<-Bool.and_assoc] at this;exact this
    |sl es=>cases h
    |any=>cases h
theorem Aba:∀(ts:List CT){ps qs:Ad}{K:Bool->Option R},Oa ts ps qs K=some r->ps.length=ts.length/\qs.length=ts.length
 |[],ps,qs,K,h=>by
  cases ps with
  |nil=>cases qs with
   |nil=>exact⟨rfl,rfl⟩
   |cons q qs=>cases h
  |cons p ps=>cases h
 |t::ts,ps,qs,K,h=>by
  cases ps with
  |nil=>cases t<;>cases h
  |cons p ps=>
   cases qs with
   |nil=>cases t<;>cases h
   |cons q qs=>
    have go:∃K',Oa ts ps qs K'=some r:=by
     cases t with
     |int k=>
      obtain⟨m,UQ,h1⟩:=Fe (show Bc k p _=some r from h);obtain⟨n,RD,h2⟩:=Fe h1;exact⟨_,h2⟩
     |bool=>
      obtain⟨m,UQ,h1⟩:=Eh (show Bu p _=some r from h);obtain⟨n,RD,h2⟩:=Eh h1;exact⟨_,h2⟩
     |str=>
      obtain⟨m,UQ,h1⟩:=D9 (show Bv p _=some r from h);obtain⟨n,RD,h2⟩:=D9 h1;exact⟨_,h2⟩
     |sl es=>cases h
     |any=>cases h
    obtain⟨K',h'⟩:=go;have:=Aba ts h';exact⟨by simp[this.1],by simp[this.2]⟩
theorem Acj{t:TypeId}{dsc:TypeDesc}(hu:P.underlying t=some dsc)(hd:Cj P t=true)(hi:(P.info? t).isSome=true)(xs:Array Value)(i:Nat):(part t xs i).run P w=.ok (.agg (xs.extract i (i+A7 P t))) w:=by simp only[part,Sem.run_bind,Qu hu,hd,Result.andThen_ok,if_true,Dg hi];rfl
theorem SS{xs:Array Value}{i n:Nat}{ps:Ad}(hn:n<=ps.length)(hp:∀(j:Nat) p,ps[j]?=some p->∃v,xs[i+j]?=some v/\Cd w A β p v):Be (Cd w A β) (ps.take n) (xs.extract i (i+n)).toList:=by
 rcases Nat.eq_zero_or_pos n with h0|h0
 ·subst h0;simp[Be]
 have hl:n-1<ps.length:=by omega
 obtain⟨v,hv,_⟩:=hp (n-1) _ (List.getElem?_eq_getElem hl);have Sx:=(Array.getElem?_eq_some_iff.1 hv).1;refine Be.of_at (by simp;omega) fun j a b ha hb=>?_
 rw[List.getElem?_take] at ha;split at ha
 ·rename_i hj;obtain⟨v,hv,hc⟩:=hp j a ha;rw[Array.getElem?_toList,Array.getElem?_extract] at hb;split at hb
  ·rw[hv] at hb;cases hb;exact hc
  ·cases hb
 ·cases ha
theorem KA{f:Field}{gs:Array Field}(hu:P.underlying f.type=some (.struct gs)):Abf P f=gs.toList.map (fty P):=by unfold Abf;rw[hu]
theorem Agi{f:Field}(h:∀gs,P.underlying f.type≠some (.struct gs)):Abf P f=[fty P f]:=by
 unfold Abf;split
 ·rename_i gs hu;exact absurd hu (h gs)
 ·rfl
theorem Ahl(d : Nat): ∀ (fs : List Field) (i : Nat) (xs ys : Array Value) (ps qs : Ad) (K : Bool -> Option R), Rl P fs i = true -> Oa (BJ P fs) ps qs K = some r ->
    (∀ (j : Nat) p, ps[j]? = some p -> ∃ v, xs[i + j]? = some v /\ Cd w A β p v) -> (∀ (j : Nat) p, qs[j]? = some p -> ∃ v, ys[i + j]? = some v /\ Cd w A β p v) ->
    ∃ b, K b = some r /\ (forIn fs ((none, ()) : Option Bool × Unit) fun (f : Field) (_ : Option Bool × Unit) =>
            if f.name = "_" then pure (ForInStep.yield ((none, ()) : Option Bool × Unit))
            else do
              let x <- part f.type xs f.offset
              let y <- part f.type ys f.offset
              let e <- Op.equalIn (d + 2) f.type x y
              if e = false then pure (ForInStep.done ((some false, ()) : Option Bool × Unit)) else pure (ForInStep.yield ((none, ()) : Option Bool × Unit)) : Sem (Option Bool × Unit)).run P w = .ok (if b then (none, ()) else (some false, ())) w
  | [], i, xs, ys, ps, qs, K, _, hk, _, _ => by
    cases ps with
    | nil => cases qs with
      | nil => exact⟨true, hk, by simp⟩
      | cons q qs => cases hk
    | cons p ps => cases hk
  | f :: fs, i, xs, ys, ps, qs, K, IX, hk, hp, hq => by
    simp only[Rl, Er] at IX
    obtain⟨⟨Tg, Aoc⟩, hty⟩ := IX
    have Tg := C6 Tg
    have OD : f.name ≠ "_" := by simpa using Aoc
    have main : ∃ b0 v u n, (part f.type xs f.offset).run P w = .ok v w /\ (part f.type ys f.offset).run P w = .ok u w /\ (Op.equalIn (d + 2) f.type v u).run P w = .ok b0 w /\ Rl P fs (i + n) = true /\ Oa (BJ P fs) (ps.drop n) (qs.drop n) (fun r' => K (b0 && r')) = some r := by
      have hk := FB (Abf P f) (show Oa (Abf P f ++ BJ P fs) ps qs K = some r from hk)
      have Eb := Aba _ hk
      rw[List.length_take, List.length_take] at Eb
      have plain : (∀ gs, P.underlying f.type ≠ some (.struct gs)) -> Rl P fs (i + 1) = true -> (match P.underlying f.type with | some (.int _) => true | some .bool => true | some .string => true | _ => false) = true ->
          ∃ b0 v u n, (part f.type xs f.offset).run P w = .ok v w /\ (part f.type ys f.offset).run P w = .ok u w /\ (Op.equalIn (d + 2) f.type v u).run P w = .ok b0 w /\ Rl P fs (i + n) = true /\ Oa (BJ P fs) (ps.drop n) (qs.drop n) (fun r' => K (b0 && r')) = some r := by
        intro hs Azz U5
        rw[Agi hs] at hk Eb
        simp only[List.length_singleton] at hk Eb
        obtain⟨p, ps, rfl⟩ : ∃ p ps', ps = p :: ps' := by
          cases ps with
          | nil => simp at Eb
          | cons p ps => exact⟨p, ps, rfl⟩
        obtain⟨q, qs, rfl⟩ : ∃ q qs', qs = q :: qs' := by
          cases qs with
          | nil => simp at Eb
          | cons q qs => exact⟨q, qs, rfl⟩
        obtain⟨v, hv, GX⟩ := hp 0 p rfl
        obtain⟨u, hu, hqu⟩ := hq 0 q rfl
        rw[YI] at hv hu
        simp only[List.take_succ_cons, List.take_zero, List.drop_succ_cons, Ou] at hk ⊢
        have one : ∃ b0 dsc, P.underlying f.type = some dsc /\ Cj P f.type = false /\ (Op.equalIn (d + 2) f.type v u).run P w = .ok b0 w /\ Oa (BJ P fs) ps qs (fun r' => K (b0 && r')) = some r := by
          unfold fty at hk
          split at hk
          · rename_i k Mq
            obtain⟨m, UQ, Ez⟩ := Fe (show Bc k p _ = some r from hk)
            obtain⟨n, RD, Fu⟩ := Fe Ez
            subst UQ RD
            have S0 : v = .int k m := At.val (w := w) (A := A) GX
            have Lk : u = .int k n := At.val (w := w) (A := A) hqu
            subst S0 Lk
            have e : ∀ b : Bool, (b && true) = b := Bool.and_true
            simp only[Oa, e] at Fu
            refine⟨m == n, _, Mq, by simp[Cj, Mq], K2 (d + 1) (.inl ⟨k, m, n, Mq, rfl, rfl⟩) ?_ ?_ ?_, Fu⟩
            · intro k' m' n' h1 h2; injection h1 with _ h1; injection h2 with _ h2; rw[h1, h2]
            · intro m' n' h1; cases h1
            · intro m' n' h1; cases h1
          · rename_i Mq
            obtain⟨m, UQ, Ez⟩ := Eh (show Bu p _ = some r from hk)
            obtain⟨n, RD, Fu⟩ := Eh Ez
            subst UQ RD
            have S0 : v = .bool m := At.val (w := w) (A := A) GX
            have Lk : u = .bool n := At.val (w := w) (A := A) hqu
            subst S0 Lk
            have e : ∀ b : Bool, (b && true) = b := Bool.and_true
            simp only[Oa, e] at Fu
            refine⟨m == n, _, Mq, by simp[Cj, Mq], K2 (d + 1) (.inr (.inl ⟨m, n, Mq, rfl, rfl⟩)) ?_ ?_ ?_, Fu⟩
            · intro k' m' n' h1; cases h1
            · intro m' n' h1 h2; injection h1 with h1; injection h2 with h2; rw[h1, h2]
            · intro m' n' h1; cases h1
          · rename_i Mq
            obtain⟨m, UQ, Ez⟩ := D9 (show Bv p _ = some r from hk)
            obtain⟨n, RD, Fu⟩ := D9 Ez
            subst UQ RD
            have S0 : v = .string m := At.val (w := w) (A := A) GX
            have Lk : u = .string n := At.val (w := w) (A := A) hqu
            subst S0 Lk
            have e : ∀ b : Bool, (b && true) = b := Bool.and_true
            simp only[Oa, e] at Fu
            refine⟨m == n, _, Mq, by simp[Cj, Mq], K2 (d + 1) (.inr (.inr ⟨m, n, Mq, rfl, rfl⟩)) ?_ ?_ ?_, Fu⟩
            · intro k' m' n' h1; cases h1
            · intro m' n' h1; cases h1
            · intro m' n' h1 h2; injection h1 with h1; injection h2 with h2; rw[h1, h2]
          · cases hk
        obtain⟨b0, dsc, Mq, Hc, he, hk⟩ := one
        exact⟨b0, v, u, 1, Vn Mq Hc (by rw[Tg]; exact hv), Vn Mq Hc (by rw[Tg]; exact hu), he, Azz, by simpa using hk⟩
      split at hty
      · rename_i k Mq
        exact plain (fun gs e => by rw[Mq] at e; cases e) hty (by rw[Mq])
      · rename_i Mq
        exact plain (fun gs e => by rw[Mq] at e; cases e) hty (by rw[Mq])
      · rename_i Mq
        exact plain (fun gs e => by rw[Mq] at e; cases e) hty (by rw[Mq])
      · rename_i gs Mq
        simp only[Er, Bool.not_eq_true'] at hty
        obtain⟨⟨⟨⟨hfp, G0⟩, hi⟩, Sx⟩, AW⟩ := hty
        have Sx := C6 Sx
        have O7 : (Abf P f).length = gs.size := by rw[KA Mq, List.length_map, Array.length_toList]
        rw[O7] at hk Eb
        rw[KA Mq] at hk
        have hx := SS (n := gs.size) (by omega) hp
        have hy := SS (n := gs.size) (by omega) hq
        obtain⟨b0, hkb, he⟩ := KS d Mq G0 hfp hx hy hk
        have ha : Cj P f.type = true := by simp[Cj, Mq]
        exact⟨b0, _, _, gs.size, by rw[Acj Mq ha hi, Tg, Sx], by rw[Acj Mq ha hi, Tg, Sx], he, AW, hkb⟩
      · cases hty
    obtain⟨b0, v, u, n, hpx, hpy, he, Azz, hk⟩ := main
    obtain⟨b, hkb, De⟩ := Ahl d fs (i + n) xs ys (ps.drop n) (qs.drop n) _ Azz hk (fun j p' hj => by rw[List.getElem?_drop] at hj; have := hp (n + j) p' hj; rwa [<- Pi] at this) (fun j p' hj => by rw[List.getElem?_drop] at hj; have := hq (n + j) p' hj; rwa [<- Pi] at this)
    refine⟨b0 && b, hkb, ?_⟩
    cases b0
    · simp[List.forIn_cons, OD, hpx, hpy, he]
    · simp only[WU]
      rw[<- De]
      simp[List.forIn_cons, OD, hpx, hpy, he]
theorem QP(d:Nat){t:TypeId}{fs:Array Field}(hu:P.underlying t=some (.struct fs))(G0:P.stoodInHeld t=false)(IX:Rl P fs.toList 0=true){xs ys:Ad}{vx vy:List Value}(hvx:Be (Cd w A β) xs vx)(hvy:Be (Cd w A β) ys vy){K:Bool->Option R}(hk:Oa (BJ P fs.toList) xs ys K=some r):
  ∃b,K b=some r/\(Op.equalIn (d+3) t (.agg ⟨vx⟩) (.agg ⟨vy⟩)).run P w=.ok b w:=by
 obtain⟨b,hkb,De⟩:=Ahl (P:=P) (w:=w) (A:=A) (β:=β) d fs.toList 0 ⟨vx⟩ ⟨vy⟩ xs ys K IX hk (fun j p hj=>by
   obtain⟨v,hv,hc⟩:=hvx.get hj;exact⟨v,by simpa using hv,hc⟩) (fun j p hj=>by
   obtain⟨v,hv,hc⟩:=hvy.get hj;exact⟨v,by simpa using hv,hc⟩)
 refine⟨b,hkb,?_⟩;rw[Array.forIn_toList] at De;rw[Op.equalIn];simp[run_underlying hu,G0];rw[De];cases b<;>simp
theorem UG(h:Df N w0 X0 Y β s a w){t:TypeId}{fs:Array Field}{x y:Operand}{op:BinOp}(hop:op=.eql\/op=.neq)(hu:P.underlying t=some (.struct fs))(IX:XG P t fs=true){xs ys:Ad}(hx:Ck s.tm x=.agg xs)(hy:Ck s.tm y=.agg ys){K:Bool->Option R}(hk:Oa (BJ P fs.toList) xs ys K=some r):
  ∃b,K b=some r/\(do eqGuard op t x y (a.eval x) (a.eval y);binOp op t (a.eval x) (a.eval y)).run P w=.ok (.bool (if op=.eql then b else !b)) w:=by
 have hxv:=Dj h x;have hyv:=Dj h y;rw[hx] at hxv;rw[hy] at hyv;obtain⟨vx,D4,hvx⟩:=hxv;obtain⟨vy,hay,hvy⟩:=hyv;simp only[XG,Er,Bool.not_eq_true'] at IX;obtain⟨⟨IX,G0⟩,heg⟩:=IX;obtain⟨b,hkb,heq⟩:=QP 9997 hu G0 IX hvx hvy hk;have heq:(Op.equal t (.agg ⟨vx⟩) (.agg ⟨vy⟩)).run P w=.ok b w:=heq;refine⟨b,hkb,?_⟩;rw[D4,hay];rcases hop with rfl|rfl
 ·simp[eqGuard,binOp,heq,heg]
 ·simp[eqGuard,binOp,heq,heg]
theorem Ac4(h:Df N w0 X0 Y β s a w){op:BinOp}{t ty:TypeId}{x y:Operand}(ho:o.op=.binOp op t x y ty){K:PV->Option R}(hk:Zq P op t (Ck s.tm x) (Ck s.tm y) K=some r):∃v,K v=some r/\E7 P a w o Y β s v [] []:=by
 have De:∀v,(do eqGuard op t x y (a.eval x) (a.eval y);binOp op t (a.eval x) (a.eval y)).run P w=.ok v w->(execOp a.eval o).run P w=.ok (.value v) w:=by
  intro v hv;unfold execOp;rw[ho];simp only[Sem.run_bind] at hv ⊢;rw[hv];rfl
 unfold Zq at hk;split at hk
 ·rename_i fs hu;split at hk
  ·obtain⟨IX,hk⟩:=Am hk;obtain⟨xs,hx,hk⟩:=Iw hk;obtain⟨ys,hy,hk⟩:=Iw hk;obtain⟨b,hk,hr⟩:=UG h (.inl rfl) hu IX hx hy hk;exact⟨_,hk,Cz (De _ (by rw[hr];rfl))⟩
  ·obtain⟨IX,hk⟩:=Am hk;obtain⟨xs,hx,hk⟩:=Iw hk;obtain⟨ys,hy,hk⟩:=Iw hk;obtain⟨b,hk,hr⟩:=UG h (.inr rfl) hu IX hx hy hk;exact⟨_,hk,Cz (De _ (by rw[hr];rfl))⟩
  ·cases hk
 ·unfold Aqq at hk;split at hk
  ·rename_i k hu;split at hk
   ·obtain⟨m,hx,hk⟩:=Fe hk;obtain⟨k2,n,hy,hk⟩:=Ef hk;obtain⟨hb,hk⟩:=Am hk;have hb:=of_decide_eq_true hb;refine⟨_,hk,Cz (De _ ?_)⟩;have:¬n<0:=by omega
    simp[eqGuard,binOp,Op.shift,Cl h hx,Cl h hy,this]
   ·obtain⟨m,hx,hk⟩:=Fe hk;obtain⟨k2,n,hy,hk⟩:=Ef hk;obtain⟨hb,hk⟩:=Am hk;have hb:=of_decide_eq_true hb;refine⟨_,hk,Cz (De _ ?_)⟩;have:¬n<0:=by omega
    simp[eqGuard,binOp,Op.shift,Cl h hx,Cl h hy,this]
   ·rename_i hs1 JM;obtain⟨m,hx,hk⟩:=Fe hk;obtain⟨n,hy,hk⟩:=Fe hk;obtain⟨v,hk,hr⟩:=Amj (P:=P) (w:=w) (t:=t) (x:=x) (y:=y) hs1 JM hk;exact⟨_,hk,Cz (De _ (by rw[Cl h hx,Cl h hy];exact hr))⟩
  ·rename_i hu;obtain⟨m,hx,hk⟩:=D9 hk;obtain⟨n,hy,hk⟩:=D9 hk;obtain⟨v,hk,hr⟩:=Alz (P:=P) (w:=w) (t:=t) (x:=x) (y:=y) hk;exact⟨_,hk,Cz (De _ (by rw[Cl h hx,Cl h hy];exact hr))⟩
  ·rename_i hu;split at hk
   ·obtain⟨m,hx,hk⟩:=Eh hk;obtain⟨n,hy,hk⟩:=Eh hk;refine⟨_,hk,Cz (De _ ?_)⟩;simp[eqGuard,binOp,Cl h hx,Cl h hy,OV hu]
   ·obtain⟨m,hx,hk⟩:=Eh hk;obtain⟨n,hy,hk⟩:=Eh hk;refine⟨_,hk,Cz (De _ ?_)⟩;simp[eqGuard,binOp,Cl h hx,Cl h hy,OV hu]
   ·cases hk
  ·rename_i e hu;have hx:=Dj h x
   have nilQ:∀{e:Bool} {K':PV->Option R},QK e (Ck s.tm x) K'=some r->∃q ad n c,K' q=some r/\a.eval x=.slice ad n c/\(q=.sc (.bool (if ad.isNone then e else !e))\/q=.ub):=by
    intro e K' hq;unfold QK at hq;split at hq
    ·rename_i e';exact⟨_,none,0,0,hq,Cl h e',.inl rfl⟩
    ·rename_i z es n c e';rcases Hx (.inl e') hx with⟨D4,rfl,_⟩|⟨ad,cap,D4,rfl,_⟩|⟨ad,cap,D4,rfl,rfl,_⟩
     ·rcases Qe hq with⟨_,hq⟩|⟨_,hq⟩
      ·exact⟨_,none,0,0,hq,D4,.inl rfl⟩
      ·rcases Qe hq with⟨hb,_⟩|⟨_,hq⟩
       ·exact absurd (of_decide_eq_true hb) (by omega)
       ·exact⟨_,none,0,0,hq,D4,.inr rfl⟩
     ·rcases Qe hq with⟨hz,_⟩|⟨_,hq⟩
      ·cases hz
      ·rcases Qe hq with⟨_,hq⟩|⟨_,hq⟩
       ·exact⟨_,some ad,n,cap,hq,D4,.inl rfl⟩
       ·exact⟨_,some ad,n,cap,hq,D4,.inr rfl⟩
     ·rcases Qe hq with⟨hz,_⟩|⟨_,hq⟩
      ·cases hz
      ·rcases Qe hq with⟨hb,_⟩|⟨_,hq⟩
       ·exact absurd (of_decide_eq_true hb) (by omega)
       ·exact⟨_,some ad,0,cap,hq,D4,.inr rfl⟩
    ·rename_i id es off n e';rw[e'] at hx;rcases hx with⟨_,_,rfl,ad,D4⟩|⟨b,ob,y',cap,_,D4,_⟩
     ·rcases Qe hq with⟨hb,_⟩|⟨_,hq⟩
      ·exact absurd (of_decide_eq_true hb) (by omega)
      ·exact⟨_,ad,0,0,hq,D4,.inr rfl⟩
     ·rcases Qe hq with⟨_,hq⟩|⟨_,hq⟩
      ·exact⟨_,_,n,cap,hq,D4,.inl rfl⟩
      ·exact⟨_,_,n,cap,hq,D4,.inr rfl⟩
    ·cases hq
   split at hk
   ·rename_i hy;obtain⟨q,ad,n,c,hk,D4,hb⟩:=nilQ hk;rcases hb with rfl|rfl
    ·refine⟨_,hk,Cz (De _ ?_)⟩;cases ad<;>simp[eqGuard,binOp,D4,Cl h hy,Zn hu]
    ·refine⟨_,hk,Ce (val:=.bool ad.isNone) (De _ ?_) (At.ub _) (by intro i hi;cases hi)⟩
     simp[eqGuard,binOp,D4,Cl h hy,Zn hu]
   ·rename_i hy;obtain⟨q,ad,n,c,hk,D4,hb⟩:=nilQ hk;rcases hb with rfl|rfl
    ·refine⟨_,hk,Cz (De _ ?_)⟩;cases ad<;>simp[eqGuard,binOp,D4,Cl h hy,Zn hu]
    ·refine⟨_,hk,Ce (val:=.bool !ad.isNone) (De _ ?_) (At.ub _) (by intro i hi;cases hi)⟩
     simp[eqGuard,binOp,D4,Cl h hy,Zn hu]
   ·cases hk
  ·rename_i kt vt hu;split at hk
   ·rename_i hx hy;refine⟨_,hk,Cz (De _ ?_)⟩;simp[eqGuard,binOp,Cl h hx,Cl h hy,EZ hu]
   ·rename_i hx hy;refine⟨_,hk,Cz (De _ ?_)⟩;simp[eqGuard,binOp,Cl h hx,Cl h hy,EZ hu]
   ·cases hk
  ·cases hk
end
open Go.RowKit
section
variable {R:Type}{r:R}{P:Program}{N:Nat}{w0:World}{X0:Jw}{Y:Nat->Prop}{β β':Bt}{s:St}{a:Act}{w w':World}{o:Oper}{A:Nat->Prop}
theorem JE:∀{c:Ad}{ns:Aj},Ze c=some ns->c=ns.map (fun n=>.sc (.int .i32 n))
 |[],ns,h=>by simp[Ze] at h;subst h;rfl
 |p::c,ns,h=>by
  unfold Ze at h;split at h
  ·rename_i e;cases e
  ·rename_i n r e;cases e;cases hr:Ze c with
   |none=>rw[hr] at h;cases h
   |some l'=>
    rw[hr] at h;simp at h;subst h;rw[JE hr];rfl
  ·cases h
theorem X8:∀{c:Ad}{l:List UInt8},bytesOf c=some l->∃ns:Aj,c=ns.map (fun n=>.sc (.int .u8 n))/\l=ns.map fun n=>n.toNat.toUInt8
 |[],l,h=>⟨[],rfl,by simp[bytesOf] at h;subst h;rfl⟩
 |p::c,l,h=>by
  unfold bytesOf at h;split at h
  ·rename_i e;cases e
  ·rename_i n r e;cases e;cases hr:bytesOf c with
   |none=>rw[hr] at h;cases h
   |some l'=>
    rw[hr] at h;simp at h;obtain⟨ns,rfl,rfl⟩:=X8 hr;exact⟨n::ns,rfl,h.symm⟩
  ·cases h
theorem We:∀(ns:Aj)(b:ByteArray),ns.foldl (fun r n=>r.push (UInt8.ofNat n.toNat)) b=⟨b.data++(ns.map fun n=>n.toNat.toUInt8).toArray⟩
 |[],b=>by simp
 |n::ns,b=>by
  simp only[List.foldl_cons];rw[We ns];simp[ByteArray.push]
theorem NA(h:Df N w0 X0 Y β s a w){es:Nat}{x:Operand}{K:Nat->Ad->Option R}(hk:Adf (Mm s.hp) es (Ck s.tm x) K=some r):
  ∃n c,K n c=some r/\(((∃ad,a.eval x=.slice ad 0 0)/\n=0/\c=[])\/∃ad cap,a.eval x=.slice (some ad) n cap/\n<=cap/\(c=[]\/ad.block<w.heap.size)/\RdT w (Dt s.hp β Y) ad c):=by
 have hx:=Dj h x;have RG:=F4 h x;unfold Adf at hk;split at hk
 ·rename_i id es' off n e;rw[e] at hx RG;cases hb:Nat.beq es' es
  ·rw[hb] at hk;cases hk
  ·rw[hb] at hk;obtain⟨c,hc,hk⟩:=Cs (show Ds _ _=some r from hk);obtain⟨hl,hk⟩:=Am hk;have hl:=of_decide_eq_true hl;obtain⟨f,Al8⟩:=XX hc;refine⟨_,_,hk,?_⟩;rcases hx with⟨_,rfl,rfl,ad,D4⟩|⟨b,ob,y,cap,hβ,D4,hy,hn,_,Cm⟩
   ·exact .inl ⟨⟨ad,D4⟩,rfl,by simp⟩
   ·refine .inr ⟨_,cap,D4,hn,.inr Cm,fun j p hj=>?_⟩
    have Aas:0<n*es:=by
     rcases Nat.eq_zero_or_pos (n*es) with h0|h0
     ·rw[h0] at hj;simp at hj
     ·exact h0
    have GS:n≠0:=by rintro rfl;simp at Aas
    have hy:y=ob+off:=by rcases hy with hy|⟨h0,_⟩<;>omega
    subst hy;rw[List.getElem?_take] at hj;split at hj
    ·rw[List.getElem?_drop] at hj;rcases h.box id _ Al8 with⟨h1,_⟩|⟨b',o',h1,h2,_⟩
     ·rw[hβ] at h1;cases h1
     ·rw[hβ] at h1;simp at h1;obtain⟨rfl,rfl⟩:=h1
      obtain⟨v,hv,h3,ht⟩:=h2 (off+j) p hj;rw[Ff] at hv;exact⟨v,by rw[Ff,Pi];exact hv,h3,ht⟩
    ·cases hj
 ·obtain⟨z,n,c,hk,hp⟩:=Hz hk;refine⟨n,c,hk,?_⟩;rcases Hx hp hx with h1|⟨ad,cap,D4,_,hn,h1,h2,_,h4⟩|⟨ad,cap,D4,_,rfl,rfl⟩
  ·exact .inl ⟨⟨none,h1.1⟩,h1.2⟩
  ·exact .inr ⟨ad,cap,D4,hn,.inr h2,h4⟩
  ·exact .inr ⟨ad,cap,D4,Nat.zero_le _,.inl rfl,fun j c hj=>by simp at hj⟩
theorem Akn(b:ByteArray)(j:Nat)(p:PV)(h:(Dl b)[j]?=some p):∃x,b.data[j]?=some x/\p=.sc (.int .u8 x.toNat):=by
 unfold Dl at h;rw[List.getElem?_map] at h;cases hx:b.data.toList[j]? with
 |none=>rw[hx] at h;cases h
 |some x=>
  rw[hx] at h;simp at h;exact⟨x,by simpa using hx,h.symm⟩
theorem Agx(h:Df N w0 X0 Y β s a w){src dst:TypeId}{x:Operand}(ho:o.op=.convert src dst x){d:Nat}{K:PV->List (Nat × B2)->Option R}(hk:PI P (Mm s.hp) d src dst (Ck s.tm x) K=some r):∃v nw,K v nw=some r/\E7 P a w o Y β s v [] nw:=by
 have De:∀v w',(convert src dst (a.eval x)).run P w=.ok v w'->(execOp a.eval o).run P w=.ok (.value v) w':=by
  intro v w' hv;unfold execOp;rw[ho];simp[hv]
 unfold PI at hk;split at hk
 ·rename_i k hu;obtain⟨hs,hk⟩:=Am hk;obtain⟨k',n,hx,hk⟩:=Ef hk;exact⟨_,_,hk,Cz (De _ _ (by rw[Cl h hx];obtain⟨ds,hds⟩:=Option.isSome_iff_exists.1 hs;cases ds<;>simp[convert,run_underlying hds,run_underlying hu,Conv.intToInt]))⟩
 ·rename_i hu;split at hk
  ·rename_i hs;obtain⟨b,hx,hk⟩:=D9 hk;exact⟨_,_,hk,Cz (De _ _ (by rw[Cl h hx];simp[convert,run_underlying hs,run_underlying hu]))⟩
  ·rename_i e hs;split at hk
   ·rename_i he;obtain⟨n,c,hk,hc⟩:=NA h hk;obtain⟨hl,hk⟩:=Am hk;have hl:=of_decide_eq_true hl;obtain⟨l,hb,hk⟩:=Cs hk;obtain⟨ns,rfl,rfl⟩:=X8 hb;refine⟨_,_,hk,Cz (De _ _ ?_)⟩;rcases hc with⟨⟨ad,D4⟩,rfl,hn⟩|⟨ad,cap,D4,_,_,hrd⟩
    ·have:ns=[]:=by simpa using hn
     subst this;rw[D4,run_convert_bytes_string w src dst e ad 0 0 hs he hu];cases ad<;>rfl
    ·rw[D4,run_convert_bytes_string w src dst e _ _ _ hs he hu]
     have hld:(loadCells ad n).run P w=.ok (ns.map (Value.int .u8)).toArray w:=by
      have:=run_loadCells_list (P:=P) w ad (ns.map (Value.int .u8)) (fun j v hj=>by
       rw[List.getElem?_map] at hj;cases hn:ns[j]? with
       |none=>rw[hn] at hj;cases hj
       |some m=>
        rw[hn] at hj;simp at hj;subst hj;obtain⟨v,hv,_,ht⟩:=hrd j (.sc (.int .u8 m)) (by rw[List.getElem?_map,hn];rfl)
        rw[ht.val] at hv;exact hv)
      simp only[List.length_map] at this hl;rw[hl] at this;exact this
     rw[run_bytesToString w ad n cap ns hld,We];simp
   ·rename_i he;obtain⟨n,c,hk,hc⟩:=NA h hk;obtain⟨hl,hk⟩:=Am hk;have hl:=of_decide_eq_true hl;obtain⟨ns,hb,Fu⟩:=Cs hk;have KL:=JE hb;clear hk;subst KL;refine⟨_,_,Fu,Cz (De _ _ ?_)⟩;rcases hc with⟨⟨ad,D4⟩,HQ,hn⟩|⟨ad,cap,D4,_,_,hrd⟩
    ·have:ns=[]:=by simpa using hn
     subst this;rw[D4,run_convert_runes_string w src dst e ad _ _ hs he hu];cases ad with
     |none=>rfl
     |some p=>
      have GS:n=0:=by simpa using HQ
      subst GS;exact run_runesToString w p 0 0 [] (by simpa using run_loadCells_list (P:=P) w p [] (by simp))
    ·rw[D4,run_convert_runes_string w src dst e _ _ _ hs he hu]
     have hld:(loadCells ad n).run P w=.ok (ns.map (Value.int .i32)).toArray w:=by
      have:=run_loadCells_list (P:=P) w ad (ns.map (Value.int .i32)) (fun j v hj=>by
       rw[List.getElem?_map] at hj;cases hn:ns[j]? with
       |none=>rw[hn] at hj;cases hj
       |some m=>
        rw[hn] at hj;simp at hj;subst hj;obtain⟨v,hv,_,ht⟩:=hrd j (.sc (.int .i32 m)) (by rw[List.getElem?_map,hn];rfl)
        rw[ht.val] at hv;exact hv)
      simp only[List.length_map] at this hl;rw[hl] at this;exact this
     exact run_runesToString w ad n cap ns hld
   ·cases hk
  ·cases hk
 ·rename_i e hu;split at hk
  ·rename_i he hs;obtain⟨b,hx,hk⟩:=D9 hk;obtain⟨Sx,hk⟩:=Am hk;have hr:=run_bytes_of_string (P:=P) w src dst e b hs hu he;rw[<-Cl h hx] at hr
   have CO:b.size<=grownCap w b.size 0 e:=by
    unfold grownCap;simp[Question.cut]
   have Ab8:(bytesRow b (grownCap w b.size 0 e)).size=grownCap w b.size 0 e:=by
    simp only[bytesRow,Array.size_append,Array.size_map,Array.size_replicate];have:b.data.size=b.size:=rfl;omega
   refine⟨_,_,hk,T7 (c:=bytesRow b (grownCap w b.size 0 e)) (e:=e) (by simp) (De _ _ hr) ?_ (fun j p hj=>?_) (.inr ⟨1,b.size,grownCap w b.size 0 e,rfl,rfl,CO,by rw[Ab8];omega,.inl rfl⟩)⟩
   ·exact⟨rfl,rfl,rfl,fun i hi=>Below.heap_alloc w.drew _ i hi,by show (w.heap.push _).size=_;simp,_,by show (w.heap.push _)[w.heap.size]?=_;simp;rfl,.inr (Cn _)⟩
   ·obtain⟨y,hy,rfl⟩:=Akn b j p hj;refine⟨.int .u8 y.toNat,?_,rfl,At.sc _⟩
    have Cm:j<b.data.size:=by
     rcases Id j b.data.size with h|h
     ·exact h
     ·rw[Array.getElem?_eq_none h] at hy;cases hy
    simp only[bytesRow];rw[Array.getElem?_append_left (by simpa using Cm),Array.getElem?_map,hy];rfl
  ·cases hk
 ·cases hk
end
open Go.RowKit
section
variable {R:Type}{r:R}{P:Program}{N:Nat}{w0:World}{X0:Jw}{Y:Nat->Prop}{β β':Bt}{s:St}{a:Act}{w w':World}{o:Oper}{A:Nat->Prop}
theorem GP:∀{n:Nat}{l:Ad}{j:Nat}{c:PV},(R1 n l)[j]?=some c->j<n*l.length/\l[j % l.length]?=some c
 |0,l,j,c,h=>by simp[R1] at h
 |n+1,l,j,c,h=>by
  have e:R1 (n+1) l=l++R1 n l:=by simp[R1,List.replicate_succ]
  rw[e] at h;by_cases hj:j<l.length
  ·rw[List.getElem?_append_left hj] at h;refine⟨by rw[Nat.add_mul];omega,?_⟩
   rw[Nat.mod_eq_of_lt hj];exact h
  ·rw[List.getElem?_append_right (by omega)] at h;obtain⟨h1,h2⟩:=GP h;refine⟨by rw[Nat.add_mul];omega,?_⟩
   rw[Nat.mod_eq_sub_mod (by omega)];exact h2
theorem Aao(n:Nat)(l:Ad):(R1 n l).length=n*l.length:=by
 induction n with
 |zero=>simp[R1]
 |succ n ih=>
  have e:R1 (n+1) l=l++R1 n l:=by simp[R1,List.replicate_succ]
  rw[e,Xk,ih,Nat.add_mul];omega
theorem Aax{z:Array Value}{n j:Nat}(hj:j<n){v:Value}(hv:z[j % z.size]?=some v):(madeCells z n)[j]?=some v:=by unfold madeCells;rw[Array.getElem?_map,Array.getElem?_range,Cy hj];simp only[Option.map_some];rw[getElem!_def,hv]
theorem Af2(h:Df N w0 X0 Y β s a w){t:TypeId}{x y:Operand}(ho:o.op=.makeSlice t x y){d:Nat}{K:PV->Bz->List (Nat × B2)->Option R}(hk:(match P.underlying t with
   |some (.slice e)=>Ea (Ck s.tm x) fun _ n=>Ea (Ck s.tm y) fun _ m=>
     Ar (decide (0<=n)&&decide (n<=m)&&decide (m*((P.info? e).map (·.bytes)).getD 0<=1099511627776)&&decide (m<=1099511627776))
      (Ip P e fun z=>K (.view d (A7 P e) 0 n.toNat) [] [(d,.ar false (R1 n.toNat z))])
   |_=>none)=some r):∃v fz nw,K v fz nw=some r/\E7 P a w o Y β s v fz nw:=by
 split at hk
 ·rename_i e hu;obtain⟨k1,n,hx,hk⟩:=Ef hk;obtain⟨k2,m,hy,hk⟩:=Ef hk;obtain⟨hb,hk⟩:=Am hk;simp only[Er,Xi] at hb;obtain⟨⟨⟨h0,SM⟩,Yh⟩,hm⟩:=hb;obtain⟨z,cs,hk,hz,hct,hl,Sx,hc⟩:=Sz hk
  have hzc:∃i,P.info? e=some i/\i.zero=some z:=by
   unfold Tw at hz;cases hi:P.info? e with
   |none=>rw[hi] at hz;cases hz
   |some i=>rw[hi] at hz;exact⟨i,rfl,hz⟩
  obtain⟨i,hi,hzi⟩:=hzc;have A6a:A7 P e=i.size:=by simp[A7,hi]
  simp only[hi,Option.map_some,Option.getD_some] at Yh;have hr:=run_make (P:=P) w t e i z hu hi hzi k1 k2 n m h0 SM (by rw[Int.mul_comm];omega) (by omega)
  have De:(execOp a.eval o).run P w=.ok (.value (.slice (some ⟨w.heap.size,0,none⟩) n.toNat m.toNat)) (w.alloc (.cells (madeCells z.cells (m.toNat*i.size)) e)):=by
   unfold execOp;rw[ho];simp[Cl h hx,Cl h hy,hr]
  have hzl:z.cells.size=A7 P e:=by
   have:z.cells.toList.length=z.cells.size:=by simp
   omega
  refine⟨_,_,_,hk,T7 (c:=madeCells z.cells (m.toNat*i.size)) (e:=e) (by simp) De (Ho.alloc w _ e) (fun j p hj=>?_) (.inr ⟨A7 P e,n.toNat,m.toNat,rfl,rfl,by omega,by rw[size_madeCells,A6a];exact Cn _,.inr (Ng w _ e)⟩)⟩
  obtain⟨h1,h2⟩:=GP hj;obtain⟨hT,u,Lk,XB,hv⟩:=hc _ p h2;refine⟨u,Aax ?_ ?_,XB,hv _ _⟩
  ·have:n.toNat*cs.length<=m.toNat*i.size:=by
    rw[Sx,A6a];exact Nat.mul_le_mul_right _ (by omega)
   omega
  ·rw[hzl,<-Sx]
   simpa using Lk
 ·cases hk
theorem Aki{p:PV}{v:Value}(hp:okP p=true)(hv:Fg w A β p v):Be (Cd w A β) (cellsOf p) v.cells.toList:=by
 have one:v.oneCell'=true->Cd w A β p v->(∀x,p ≠ .agg x)->Be (Cd w A β) (cellsOf p) v.cells.toList:=by
  intro h1 h2 h3;have:cellsOf p=[p]:=by cases p<;>first|rfl|exact absurd rfl (h3 _)
  rw[this,Qr h1];exact⟨h2,trivial⟩
 unfold okP at hp;split at hp
 ·obtain⟨vs,rfl,h2⟩:=hv;exact h2
 ·refine one ?_ hv (by simp);have S0:At w A _ v:=hv;cases S0<;>rfl
 ·refine one ?_ hv (by simp);rcases hv with⟨_,_,_,_,rfl⟩|⟨_,_,_,_,_,rfl,_⟩<;>rfl
 ·have:=HY hv;subst this;exact one rfl hv (by simp)
 ·have:=HY hv;subst this;exact one rfl hv (by simp)
 ·have:=HY hv;subst this;exact one rfl hv (by simp)
 ·have:=HY hv;subst this;exact one rfl hv (by simp)
 ·cases hp
theorem Ain:∀(vs:List Value)(k off:Nat)(cells:Array Value),off+k+vs.length<=cells.size ->
  ((vs.zipIdx k).foldl (fun cs (q:Value × Nat)=>cs.setIfInBounds (off+q.2) q.1) cells).toList=cells.toList.take (off+k)++vs++cells.toList.drop (off+k+vs.length)
 |[],k,off,cells,_=>by simp
 |v::vs,k,off,cells,h=>by
  simp only[List.zipIdx_cons,List.foldl_cons,On] at h ⊢;rw[Ain vs (k+1) off _ (by simp;omega)]
  have Cm:off+k<cells.toList.length:=by simp;omega
  simp only[Array.toList_setIfInBounds];rw[show off+(k+1)=off+k+1 from by omega,List.take_succ_eq_append_getElem (by simpa using Cm)];rw[List.getElem_set_self,List.take_set_of_le (Cn _),List.drop_set_of_lt (by omega)];simp only[Zzv,Zzp,NK];rw[show off+k+1+vs.length=off+k+(vs.length+1) from by omega]
theorem QA(h:Df N w0 X0 Y β s a w){Ii:Nat->Option (Nat × Nat)}:∀{parts:List (Nat × Operand)} {pc:Ad}{vc:Array Value}{K:Ad->Option R},
  Yf Ii (parts.map fun q=>(q.1,Ck s.tm q.2)) pc K=some r->Be (Cd w (Dt s.hp β Y) β) pc vc.toList->(∀c∈pc,∀id∈As c,s.hp id≠none) ->
  ∃pc' vc',K pc'=some r/\Instr.fill Ii vc (parts.map fun q=>(q.1,a.eval q.2))=some vc'/\Be (Cd w (Dt s.hp β Y) β) pc' vc'.toList/\pc'.length=pc.length/\∀c∈pc',∀id∈As c,s.hp id≠none
 |[],pc,vc,K,hk,hv,hr=>⟨pc,vc,hk,rfl,hv,rfl,hr⟩
 |(i,x)::parts,pc,vc,K,hk,hv,hr=>by
  simp only[U7] at hk;unfold Yf at hk;obtain⟨⟨off,size⟩,U5,hk⟩:=Cs hk;obtain⟨hb,hk⟩:=Am hk;simp only[Er] at hb;obtain⟨⟨hok,Sx⟩,FS⟩:=hb;have Sx:(cellsOf (Ck s.tm x)).length=size:=C6 Sx;have FS:off+size<=pc.length:=Oj FS;have hxc:=Aki hok (Dj h x);have hxl:=hxc.len;have hvl:=hv.len;have Wx:vc.toList.length=vc.size:=by simp
  have KL:(a.eval x).cells.toList.length=(a.eval x).cells.size:=by simp
  have Abm:=Ain (a.eval x).cells.toList 0 off vc (by omega);simp only[YI] at Abm
  have A30:((a.eval x).cells.zipIdx.foldl (fun cs (q:Value × Nat)=>cs.setIfInBounds (off+q.2) q.1) vc).toList=vc.toList.take off++(a.eval x).cells.toList++vc.toList.drop (off+(a.eval x).cells.toList.length):=by
   rw[<-Abm,<-Array.foldl_toList];simp
  obtain⟨pc',vc',hk,hf,h2,hl,hr'⟩:=QA h (pc:=B1 pc (cellsOf (Ck s.tm x)) off) (vc:=(a.eval x).cells.zipIdx.foldl (fun cs (q:Value × Nat)=>cs.setIfInBounds (off+q.2) q.1) vc) hk (by
    rw[A30,<-hxl];exact (((hv.take off).app hxc).app (hv.drop _))) (by
    intro c hc id Bx;unfold B1 at hc;rcases Bn.1 hc with hc|hc
    ·rcases Bn.1 hc with hc|hc
     ·exact hr c (List.mem_of_mem_take hc) id Bx
     ·refine F4 h x id ?_;cases hp:Ck s.tm x with
      |agg cs=>rw[hp] at hc;exact List.mem_flatMap.2 ⟨c,hc,Bx⟩
      |tup cs=>rw[hp] at hc;simp[cellsOf] at hc;subst hc;cases Bx
      |_=>rw[hp] at hc;simp[cellsOf] at hc;subst hc;exact Bx
    ·exact hr c (List.mem_of_mem_drop hc) id Bx)
  refine⟨pc',vc',hk,?_,h2,?_,hr'⟩
  ·simp only[U7,Instr.fill,U5];rw[Bl (by simp;omega)]
   exact hf
  ·rw[hl];simp[B1];omega
theorem Acg{t:TypeId}{z:Value}{cs:Ad}(hl:cs.length=z.cells.toList.length)(hc:∀(j:Nat) c,cs[j]?=some c->BG c/\∃u,z.cells.toList[j]?=some u/\u.oneCell'=true/\∀(w:World)(A:Nat->Prop),At w A c u)(_ht:Tw P t=some z):
  Be (Cd w A β) cs z.cells.toList/\∀c∈cs,As c=[]:=by
 refine⟨Be.of_at hl fun i c u hci hu=>?_,fun c hcm=>?_⟩
 ·obtain⟨hT,u',Lk,_,hv⟩:=hc i c hci;rw[hu] at Lk;cases Lk;exact (Og hT).2 (hv _ _)
 ·obtain⟨j,hj⟩:=List.mem_iff_getElem?.1 hcm;exact Jh (hc j c hj).1
theorem PG:∀{fs:List Field},(fs.all fun f=>QR P f.type)=true->fs.mapM (fun f=>(P.info? f.type).map fun i=>(f.offset,i.size))=some (fs.map fun f=>(f.offset,A7 P f.type))
 |[],_=>rfl
 |f::fs,h=>by
  simp only[List.all_cons,Er] at h;obtain⟨i,hi⟩:=Option.isSome_iff_exists.1 h.1;simp[List.mapM_cons,hi,PG h.2,A7]
theorem CU{p q:Nat->Option (Nat × Nat)}(h:∀i,p i=q i)(cells:Array Value)(parts:List (Nat × Value)):Instr.fill p cells parts=Instr.fill q cells parts:=by have:p=q:=funext h;rw[this]
theorem Abg(h:Df N w0 X0 Y β s a w){t:TypeId}{ps:Array (Nat × Operand)}(ho:o.op=.build t ps){K:PV->Option R}(hk:(Ar (Uh P t&&Cj P t)<|Ip P t fun z=>Yf (U8 P t) (ps.toList.map fun q=>(q.1,Ck s.tm q.2)) z fun cs=>R5 (J7 P t) cs 0 fun cs'=>K (.agg cs'))=some r):∃v,K v=some r/\E7 P a w o Y β s v [] []:=by
 obtain⟨U5,hk⟩:=Am hk;simp only[Er] at U5;obtain⟨U5,Hc⟩:=U5;obtain⟨z,cs,hk,hz,hct,hl,Sx,hc⟩:=Sz hk;obtain⟨hzr,PZ⟩:=Acg (w:=w) (A:=Dt s.hp β Y) (β:=β) hl hc hz;obtain⟨pc',vc',hk,hf,h2,Nj,hr'⟩:=QA h hk hzr (fun c hcm id Bx=>by rw[PZ c hcm] at Bx;cases Bx)
 obtain⟨qs,hk,hql,HE,hq⟩:=Xr hk
 have A0w:P.built t (ps.toList.map fun q=>(q.1,a.eval q.2))=some vc':=by
  have hzi:∃i,P.info? t=some i/\i.zero=some z:=by
   unfold Tw at hz;cases hi:P.info? t with
   |none=>rw[hi] at hz;cases hz
   |some i=>rw[hi] at hz;exact⟨i,rfl,hz⟩
  obtain⟨i,hi,hzi⟩:=hzi;unfold Uh at U5;unfold Program.built;split at U5
  ·rename_i fs hu
   have hf':Instr.fill (((fs.toList.map fun f=>(f.offset,A7 P f.type)).toArray)[·]?) z.cells (ps.toList.map fun q=>(q.1,a.eval q.2))=some vc':=by
    rw[<-hf];refine CU (fun j=>?_) _ _;simp[U8,hu]
   simp only[hi,hu,hzi,PG U5];exact hf'
  ·rename_i n e hu;obtain⟨ie,hie⟩:=Option.isSome_iff_exists.1 U5
   have hf':Instr.fill (fun j=>some (j*ie.size,ie.size)) z.cells (ps.toList.map fun q=>(q.1,a.eval q.2))=some vc':=by
    rw[<-hf];refine CU (fun j=>?_) _ _;simp[U8,hu,A7,hie]
   simp only[hi,hu,hzi,hie];exact hf'
  ·rename_i e hu;simp[Cj,hu] at Hc
  ·cases U5
 refine⟨_,hk,Ce (val:=.agg vc') ?_ ⟨vc'.toList,rfl,?_⟩ ?_⟩
 ·unfold execOp;rw[ho];have:=run_build (P:=P) w t (ps.map fun q=>(q.1,a.eval q.2)) vc' (by simpa using A0w);simp[this]
 ·refine Be.of_at (by have:=h2.len;omega) fun j c u hcj hu=>?_
  obtain⟨p,hp,_,_,GX⟩:=hq j c hcj;rw[Ig] at hp;exact (GX _ _ _ _ (h2.at_ hp hu)).1
 ·intro id Bx;obtain⟨c,hcm,Bx⟩:=List.mem_flatMap.1 (show id∈qs.flatMap As from Bx);obtain⟨j,hj⟩:=List.mem_iff_getElem?.1 hcm;obtain⟨p,hp,_,hpr,_⟩:=hq j c hj;rw[Ig] at hp;exact hr' p (List.mem_of_getElem? hp) id (hpr id Bx)
end
open Go.RowKit
section
variable {R:Type}{r:R}{P:Program}{N:Nat}{w0:World}{X0:Jw}{Y:Nat->Prop}{β β':Bt}{s:St}{a:Act}{w w':World}{o:Oper}{A:Nat->Prop}
theorem Ae0(h:Df N w0 X0 Y β s a w){fz:Bz}(HO:∀id∈fz,∃f c,s.hp id=some (.ar f c)){id:Nat}(hm:id∈fz){f:Bool}{c:Ad}(hb:s.hp id=some (.ar f c)){b ob:Nat}(hβ:β id=some (b,ob)):
  ¬Dt (Af s.hp fz) β Y b/\RdT w (Dt (Af s.hp fz) β Y) ⟨b,ob,none⟩ c/\b<w.heap.size:=by
 have hf:=h.freeze HO;have he:Af s.hp fz id=some (.ar true c):=by rw[Ca,Cy hm,hb];rfl
 rcases hf.box id _ he with⟨h1,_⟩|⟨b',o',h1,h2,_,h4⟩
 ·rw[hβ] at h1;cases h1
 ·rw[hβ] at h1;simp at h1;obtain⟨rfl,rfl⟩:=h1;exact⟨h4 rfl,h2,h.blt id b ob (by rw[hb];simp) hβ⟩
theorem Al2(h:Df N w0 X0 Y β s a w){fz:Bz}(HO:∀id∈fz,∃f c,s.hp id=some (.ar f c)){id es off n:Nat}(hm:id∈fz){f:Bool}{c:Ad}(hb:s.hp id=some (.ar f c)){v:Value}(hv:Cd w (Dt s.hp β Y) β (.view id es off n) v):At w (Dt (Af s.hp fz) β Y) (.lst false es n ((c.drop off).take (n*es))) v:=by
 rcases hv with⟨_,rfl,rfl,ad,rfl⟩|⟨b,ob,y,cap,hβ,rfl,hy,hn,_,Cm⟩
 ·simp only[Nat.zero_mul,List.take_zero];cases ad with
  |none=>exact At.lnil false es
  |some p=>exact At.lemp es p 0
 ·obtain⟨h1,h2,_⟩:=Ae0 h HO hm hb hβ;by_cases GS:n*es=0
  ·rw[GS,List.take_zero];exact At.lst es n [] ⟨b,y,none⟩ cap (fun _=>undef) rfl Cm h1 hn (by simp) (by simp) (by simp)
  ·have hy:y=ob+off:=by
    rcases hy with hy|⟨h0,_⟩
    ·exact hy
    ·rw[h0] at GS;simp at GS
   subst hy
   have hcell:∀(j:Nat) q,((c.drop off).take (n*es))[j]?=some q->c[off+j]?=some q:=by
    intro j q hq;rw[List.getElem?_take] at hq;split at hq
    ·rw[List.getElem?_drop] at hq;exact hq
    ·cases hq
   refine At.lst es n _ ⟨b,ob+off,none⟩ cap (fun j=>(w.cell? ⟨b,ob+off+j,none⟩).getD undef) rfl Cm h1 hn (fun j q hq=>?_) (fun j q hq=>?_) (fun j q hq=>?_)
   ·obtain⟨v,hv,_⟩:=h2 _ q (hcell j q hq);rw[Ff,<-Pi] at hv;rw[Ff,hv];rfl
   ·obtain⟨v,hv,h3,_⟩:=h2 _ q (hcell j q hq);rw[Ff,<-Pi] at hv;rw[hv];exact h3
   ·obtain⟨v,hv,_,ht⟩:=h2 _ q (hcell j q hq);rw[Ff,<-Pi] at hv;rw[hv];exact ht
theorem At.zf{A:Nat->Prop}{z:Bool}{es n:Nat}{c:Ad}{v:Value}(h:At w A (.lst z es n c) v):At w A (.lst false es n c) v:=by
 cases h with
 |lnil=>exact .lnil _ _
 |lemp=>exact .lemp _ _ _
 |lst _ _ _ a cap f hs hb hA hn hc h1 hr=>exact .lst _ _ _ a cap f hs hb hA hn hc h1 hr
theorem MW(h:Df N w0 X0 Y β s a w){t:CT}{p:PV}{K:PV->Bz->Option R}(hk:R6 (Mm s.hp) t p K=some r):
  ∃c m,K c m=some r/\BG c/\RP p/\(∀id∈m,∃f cc,s.hp id=some (.ar f cc))/\∀fz:Bz,(∀id∈m,id∈fz)->(∀id∈fz,∃f cc,s.hp id=some (.ar f cc))->∀v,Cd w (Dt s.hp β Y) β p v->At w (Dt (Af s.hp fz) β Y) c v/\v.oneCell'=true:=by
 have tree:∀t',(IJ t' p fun c=>K c [])=some r->∃c m,K c m=some r/\BG c/\RP p/\(∀id∈m,∃f cc,s.hp id=some (.ar f cc))/\∀fz:Bz,(∀id∈m,id∈fz)->(∀id∈fz,∃f cc,s.hp id=some (.ar f cc))->∀v,Cd w (Dt s.hp β Y) β p v->At w (Dt (Af s.hp fz) β Y) c v/\v.oneCell'=true:=by
  intro t' hk;obtain⟨c,hk,hT,NV,hv⟩:=Qk hk;refine⟨c,[],hk,hT,Vu NV,by simp,fun fz _ HO v GX=>?_⟩;obtain⟨h1,h2⟩:=hv _ _ _ _ GX;exact⟨h1.step (Cq.refl _ _) (fun b _ hb=>hb.imp Uu id),h2⟩
 cases t with
 |sl es=>
  unfold R6 at hk;dsimp only at hk;split at hk
  ·rename_i id es' off n;cases hb:Nat.beq es' es
   ·rw[hb] at hk;cases hk
   ·rw[hb] at hk;have:=C6 hb;subst this;obtain⟨c,hc,hk⟩:=Cs (show Ds _ _=some r from hk);obtain⟨_,hk⟩:=Am hk;obtain⟨f,O8⟩:=XX hc;refine⟨_,[id],hk,trivial,trivial,?_,fun fz hm HO v hv=>⟨Al2 h HO (hm id (by simp)) O8 hv,?_⟩⟩
    ·intro i hi;simp at hi;subst hi;exact⟨f,c,O8⟩
    ·rcases hv with⟨_,_,_,_,rfl⟩|⟨_,_,_,_,_,rfl,_⟩<;>rfl
  ·obtain⟨z,n,c,hk,hp⟩:=Hz hk;refine⟨_,[],hk,trivial,?_,by simp,fun fz _ HO v GX=>?_⟩
   ·rcases hp with rfl|⟨rfl,_⟩<;>trivial
   ·have ht:=BP hp GX;refine⟨At.zf (ht.step (Cq.refl _ _) (fun b _ hb=>hb.imp Uu id)),?_⟩;cases ht<;>rfl
 |int k=>exact tree (.int k) hk
 |bool=>exact tree .bool hk
 |str=>exact tree .str hk
 |any=>exact tree .any hk
theorem Ul(h:Df N w0 X0 Y β s a w):∀{ts:List CT}{ps:Ad}{K:Ad->Bz->Option R},Rn (Mm s.hp) ts ps K=some r ->
  ∃cs m,K cs m=some r/\cs.length=ts.length/\ps.length=ts.length/\(∀c∈cs,BG c)/\(∀p∈ps,RP p)/\(∀id∈m,∃f cc,s.hp id=some (.ar f cc)) /\
   ∀fz:Bz,(∀id∈m,id∈fz)->(∀id∈fz,∃f cc,s.hp id=some (.ar f cc))->∀vs,Be (Cd w (Dt s.hp β Y) β) ps vs->Be (At w (Dt (Af s.hp fz) β Y)) cs vs/\∀v∈vs,v.oneCell'=true
 |[],[],K,hk=>⟨[],[],hk,rfl,rfl,by simp,by simp,by simp,fun fz _ _ vs hv=>by
   cases vs with
   |nil=>exact⟨trivial,by simp⟩
   |cons v vs=>exact hv.elim⟩
 |[],_::_,K,hk=>by cases hk
 |_::_,[],K,hk=>by cases hk
 |t::ts,p::ps,K,hk=>by
  unfold Rn at hk;obtain⟨c,m,hk,hT,hF,hm,hv⟩:=MW h hk;obtain⟨cs,ms,hk,hl,Nj,hTs,hFs,OK,Wx⟩:=Ul h hk;refine⟨c::cs,m++ms,hk,by simp[hl],by simp[Nj],?_,?_,?_,fun fz hfm HO vs h2=>?_⟩
  ·intro x hx;rcases List.mem_cons.1 hx with rfl|hx
   ·exact hT
   ·exact hTs x hx
  ·intro x hx;rcases List.mem_cons.1 hx with rfl|hx
   ·exact hF
   ·exact hFs x hx
  ·intro x hx;rcases Bn.1 hx with hx|hx
   ·exact hm x hx
   ·exact OK x hx
  ·cases vs with
   |nil=>exact h2.elim
   |cons v vs=>
    obtain⟨h3,h4⟩:=hv fz (fun i hi=>hfm i (by simp[hi])) HO v h2.1;obtain⟨h5,h6⟩:=Wx fz (fun i hi=>hfm i (by simp[hi])) HO vs h2.2;refine⟨⟨h3,h5⟩,?_⟩;intro x hx;rcases List.mem_cons.1 hx with rfl|hx
    ·exact h4
    ·exact h6 x hx
theorem Alj{R':PV->Value->Prop}{cs:Ad}{z:Array Value}(h:Be R' cs z.toList)(n:Nat):Be R' (R1 n cs) (madeCells z (n*cs.length)).toList:=by
 have hzl:z.size=cs.length:=by have:=h.len;simp at this;exact this.symm
 refine Be.of_at ?_ fun j c v hc hv=>?_
 ·rw[Aao];simp[size_madeCells]
 ·obtain⟨h1,h2⟩:=GP hc
  have Cm:j % cs.length<cs.length:=by
   rcases Id (j % cs.length) cs.length with h|h
   ·exact h
   ·rw[List.getElem?_eq_none h] at h2;cases h2
  obtain⟨u,hu,hcu⟩:=h.get h2;have:(madeCells z (n*cs.length))[j]?=some u:=Aax h1 (by rw[hzl];simpa using hu)
  have S0:(madeCells z (n*cs.length))[j]?=some v:=by simpa using hv
  rw[this] at S0;cases S0;exact hcu
theorem VS{A':Nat->Prop}:∀{ps cs:Ad}{vs:List Value},Be (Cd w (Dt s.hp β Y) β) ps vs->Be (At w A') cs vs->Be (At w A') (Ach true ps cs) vs
 |[],_,_,_,h=>h
 |_::_,[],_,_,h=>h
 |p::ps,c::cs,[],_,h=>h.elim
 |p::ps,c::cs,v::vs,hp,h=>by
  refine⟨?_,VS hp.2 h.2⟩;split
  ·have h1:At w (Dt s.hp β Y) (.lst true _ 0 []) v:=hp.1;cases h1;exact .lnil true _
  ·exact h.1
theorem HU(h:Df N w0 X0 Y β s a w){nz:Bool}{t:TypeId}{n:Nat}{ps:Array (Nat × Operand)}(ho:o.op=.buildSlice t n ps){d:Nat}{K:PV->Bz->List (Nat × B2)->Option R}(hk:(match P.underlying t with
   |some (.slice e)=>Ar (Uh P t&&Nat.ble (n*A7 P e) 16777216) (Ip P e fun z=>Yf (U8 P t) (ps.toList.map fun q=>(q.1,Ck s.tm q.2)) (R1 n z) fun cs=>
     Rn (Mm s.hp) (List.replicate n (J7 P e)).flatten cs fun cs' m=>K (.view d (A7 P e) 0 n) m [(d,.ar false (bif nz then Ach true cs cs' else cs'))])
   |_=>none)=some r):∃v fz nw,K v fz nw=some r/\E7 P a w o Y β s v fz nw:=by
 split at hk
 ·rename_i e hu;obtain⟨hb,hk⟩:=Am hk;simp only[Er] at hb;have FS:n*A7 P e<=16777216:=Oj hb.2;have Ts:(P.info? e).isSome=true:=by have:=hb.1;unfold Uh at this;rw[hu] at this;exact this
  obtain⟨z,cs,hk,hz,hct,hl,Sx,hc⟩:=Sz hk;obtain⟨hzr,PZ⟩:=Acg (w:=w) (A:=Dt s.hp β Y) (β:=β) hl hc hz;have Bah:=Alj hzr n
  obtain⟨pc',vc',hk,hf,h2,Nj,hr'⟩:=QA h hk Bah (fun c hcm id Bx=>by
   obtain⟨j,hj⟩:=List.mem_iff_getElem?.1 hcm;obtain⟨_,hg⟩:=GP hj;rw[PZ c (List.mem_of_getElem? hg)] at Bx;cases Bx)
  obtain⟨qs,m,hk,hql,U5,hqT,_,hm,hqv⟩:=Ul h hk;obtain⟨h3,h3'⟩:=hqv m (fun _ hi=>hi) hm _ h2
  have h3:Be (At w (Dt (Af s.hp m) β Y)) (bif nz then Ach true pc' qs else qs) vc'.toList:=by
   cases nz
   ·exact h3
   ·exact VS h2 h3
  have hf':Instr.fill (fun i=>some (i*A7 P e,A7 P e)) (madeCells z.cells (n*cs.length)) (ps.toList.map fun q=>(q.1,a.eval q.2))=some vc':=by
   rw[<-hf];refine CU (fun i=>?_) _ _;simp[U8,hu]
  have hvl:vc'.size=n*A7 P e:=by
   have h4:=h2.len;rw[Nj,Aao] at h4;simp at h4;rw[<-h4,Sx]
  have De:(execOp a.eval o).run P w=.ok (.value (.slice (some ⟨w.heap.size,0,none⟩) n n)) (w.alloc (.cells vc' e)):=by
   unfold execOp;rw[ho];have A43:¬(n*A7 P e>2 ^ 24):=by omega
   rw[Sx] at hf';by_cases GS:n*A7 P e=0
   ·simp only[Instr.buildSlice,Sem.run_bind,run_underlying hu,Result.andThen_ok,Dg Ts,Bl A43,GS];rw[GS] at hf';have e0:madeCells z.cells 0=(Array.range 0).map (fun _=>default):=by simp[madeCells]
    rw[e0] at hf';simp[hf',newRow]
   ·simp only[Instr.buildSlice,Sem.run_bind,run_underlying hu,Result.andThen_ok,Dg Ts,Bl A43,Bl GS,BH hz];unfold madeCells at hf';simp[hf',newRow]
  refine⟨_,_,_,hk,T7 (c:=vc') (e:=e) hm De (Ho.alloc w vc' e) (fun j p hj=>?_) (.inr ⟨A7 P e,n,n,rfl,rfl,Cn _,by rw[hvl];exact Cn _,.inr (Ng w vc' e)⟩)⟩
  obtain⟨u,Lk,hp⟩:=h3.get hj;exact⟨u,by simpa using Lk,h3' u (List.mem_of_getElem? Lk),hp⟩
 ·cases hk
theorem ZN(h:Df N w0 X0 Y β s a w){t:TypeId}{x k:Operand}{ok:Bool}(ho:o.op=.lookup t x k ok){K:PV->Option R}(hk:(match P.underlying t with
   |some (.map kt vt)=>Ar (match P.underlying kt with|some .string=>true|_=>false) (
    match Ck s.tm x with
    |.sc (.map none)=>Bv (Ck s.tm k) fun _=>Ds (Tw P vt) fun z=>cvK P vt z fun v=>Ar (match v with | .tup _=>false|_=>true) (K (bif ok then .tup [v,.sc (.bool false)] else v))
    |_=>none)
   |_=>none)=some r):∃v,K v=some r/\E7 P a w o Y β s v [] []:=by
 split at hk
 ·rename_i kt vt hu;obtain⟨hkt,hk⟩:=Am hk
  have hkt:P.underlying kt=some .string:=by
   split at hkt
   ·assumption
   ·cases hkt
  split at hk
  ·rename_i hx;obtain⟨b,hkk,hk⟩:=D9 hk;obtain⟨z,hz,hk⟩:=Cs hk;obtain⟨v,hk,hr,hv⟩:=Aig hk;obtain⟨hnt,hk⟩:=Am hk
   have hnt:∀cs,v ≠ .tup cs:=by
    rintro cs rfl
    cases hnt
   have hzr:∀w:World,(zeroValue vt).run P w=.ok z w:=by
    intro w;unfold Tw at hz;cases hi:P.info? vt with
    |none=>rw[hi] at hz;cases hz
    |some i=>
     rw[hi] at hz;simp[zeroValue,typeInfo,hi,show i.zero=some z from hz]
   have De:(execOp a.eval o).run P w=.ok (.value (if ok then .tuple #[z,.bool false] else z)) w:=by
    unfold execOp;rw[ho];have hck:∀c (n:Nat),(Instr.checkKey c (n+1) kt (.string b)).run P w=.ok () w:=fun c n=>by simp[Instr.checkKey,run_underlying hkt]
    have RL:∀c,(Instr.checkKey c 10000 kt (.string b)).run P w=.ok () w:=fun c=>hck c 9999;cases ok<;>simp[Instr.lookup,run_underlying hu,Cl h hx,Cl h hkk,RL,Instr.findKey,Instr.findNow,run_underlying hkt,hzr]
   refine⟨_,hk,Ce De ?_ ?_⟩
   ·cases ok
    ·exact hv _ _ _
    ·refine⟨[z,.bool false],rfl,(Sj hnt).1 (hv _ _ _),?_,trivial⟩;exact At.sc _
   ·cases ok
    ·intro id Bx;simp only[cond_false] at Bx;rw[hr] at Bx;cases Bx
    ·intro id Bx;have:Cc (.tup [v,.sc (.bool false)])=Ct v++[]:=by simp[Cc,Ct,As]
     simp only[cond_true] at Bx;rw[this,List.append_nil] at Bx;have e:Ct v=Cc v:=by cases v<;>first|rfl|exact absurd rfl (hnt _)
     rw[e,hr] at Bx;cases Bx
  ·cases hk
 ·cases hk
end
end
end
end Go.Proofs.YtamoegpkglhedaaGreatDoor.Pv
