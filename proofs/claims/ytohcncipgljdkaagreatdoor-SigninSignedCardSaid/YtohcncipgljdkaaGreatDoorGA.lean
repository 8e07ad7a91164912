/-
  The proof of SigninSigned, part 1.
-/
import Derived.Orders
import Derived.LoopN
import Derived.Below
import Derived.Laws.Cover4
import Derived.Lib.ValidU
import Derived.Lib.Bytealg
import Derived.IntWalk
import Derived.WalkKit
import Derived.WalkLawsBesides
import Derived.Laws.IdiomStrings
import Derived.Laws.MakeOwn
import Derived.Laws.Tables
set_option linter.unusedSimpArgs false
set_option linter.unusedVariables false
namespace Go.Proofs.YtohcncipgljdkaaGreatDoor.Pv
set_option maxRecDepth 1000000
noncomputable section
theorem F1:type_of% @Bool.not_true:=@Bool.not_true
theorem Hb:type_of% @Bool.not_false:=@Bool.not_false
theorem Jc:type_of% @Nat.mul_one:=@Nat.mul_one
theorem Ir:type_of% @Nat.zero_add:=@Nat.zero_add
theorem Ls:type_of% @List.drop_zero.{0}:=@List.drop_zero
theorem Iu:type_of% @List.take_of_length_le.{0}:=@List.take_of_length_le
theorem Vk:type_of% @List.length_append.{0}:=@List.length_append
theorem YX:type_of% @List.length_nil.{0}:=@List.length_nil
theorem Tt:type_of% @List.length_cons.{0}:=@List.length_cons
theorem Iq:type_of% @Int.toNat_natCast:=@Int.toNat_natCast
theorem Br:type_of% @if_neg.{1}:=@if_neg
theorem Ch:type_of% @if_pos.{1}:=@if_pos
theorem Zzm:type_of% @Bool.true_and:=@Bool.true_and
theorem Zzp:type_of% @List.cons_append.{0}:=@List.cons_append
theorem WU:type_of% @List.nil_append.{0}:=@List.nil_append
theorem ZS:type_of% @Nat.add_zero:=@Nat.add_zero
theorem VO:type_of% @Bool.false_and:=@Bool.false_and
theorem Zzv:type_of% @List.append_assoc.{0}:=@List.append_assoc
theorem Xv:type_of% @List.map_cons.{0,0}:=@List.map_cons
theorem Fe:type_of% @Bool.and_eq_true:=@Bool.and_eq_true
theorem FJ:type_of% @decide_eq_true_eq:=@decide_eq_true_eq
theorem Dz:type_of% @Nat.eq_of_beq_eq_true:=@Nat.eq_of_beq_eq_true
theorem Ce:type_of% @List.mem_cons.{0}:=@List.mem_cons
theorem B2:type_of% @List.mem_append.{0}:=@List.mem_append
theorem J4:type_of% @List.flatMap_cons.{0,0}:=@List.flatMap_cons
theorem Vv:type_of% @List.mem_singleton_self.{0}:=@List.mem_singleton_self
theorem F4:type_of% @Nat.lt_of_lt_of_le:=@Nat.lt_of_lt_of_le
theorem Tu:type_of% @List.mem_cons_of_mem.{0}:=@List.mem_cons_of_mem
theorem Sn:type_of% @Nat.le_of_ble_eq_true:=@Nat.le_of_ble_eq_true
theorem Is:type_of% @Nat.lt_or_ge:=@Nat.lt_or_ge
theorem Q2:type_of% @List.mem_singleton.{0}:=@List.mem_singleton
theorem Cd:type_of% @Nat.le_refl:=@Nat.le_refl
theorem Jq:type_of% @Nat.add_assoc:=@Nat.add_assoc
theorem Oq:type_of% @Nat.beq_refl:=@Nat.beq_refl
theorem HS:type_of% @List.mem_cons_self.{0}:=@List.mem_cons_self
theorem AE:type_of% @List.not_mem_nil.{0}:=@List.not_mem_nil
inductive PV where
 |sc (v:Value)
 |lst (z:Bool) (es n:Nat) (cells:List PV)
 |own (es n:Nat) (cells:List PV)
 |view (id es off n:Nat)
 |ptr (id off:Nat)
 |iptr (cells:List PV) (off:Nat)
 |pbox (cells:List PV)
 |agg (cells:List PV)
 |tup (vs:List PV)
 |top
 |ub
abbrev Ae:=List PV
abbrev Al:=List Int
abbrev B7:=List Nat
inductive Ca where
 |st (cells:Ae)
 |ar (fz:Bool) (cells:Ae)
 |mv
structure St where
 tm:Nat->PV
 hp:Nat->Option Ca
structure Bq where
 vals:Ae
 outs:List Ae
structure Iz where
 shr:FuncId->Bool
 mvd:FuncId->Nat->Bool
 lnd:FuncId->Nat->Bool
 kz:FuncId->Bool
 ext:FuncId->Option (Ae->Option Bq)
 nz:Nat->Bool
def Iz.core(C:Iz):Iz:={ C with ext:=fun _=>none }
def Dt{α:Type}(f:Nat->α)(i:Nat)(v:α):Nat->α:=fun j=>bif Nat.beq j i then v else f j
def rd(hp:Nat->Option Ca)(id:Nat):Option Ae:=
 match hp id with
 |some (.st c)=>some c
 |some (.ar _ c)=>some c
 |_=>none
def M3(hp:Nat->Option Ca)(id:Nat):Option Ae:=
 match hp id with
 |some (.ar _ c)=>some c
 |_=>none
inductive CT where
 |int (k:IntKind)
 |bool
 |str
 |sl (es:Nat)
 |any
def Bp(P:Program)(t:TypeId):Nat:=((P.info? t).map (·.size)).getD 0
def Cw(P:Program)(t:TypeId):Bool:=
 match P.underlying t with
 |some (.struct _)=>true
 |some (.array _ _)=>true
 |_=>false
def A5h(P:Program):Nat->TypeId->List CT
 |0,_=>[]
 |d+1,t=>
  match P.underlying t with
  |some (.int k)=>[.int k]
  |some .bool=>[.bool]
  |some .string=>[.str]
  |some (.slice e)=>[.sl (Bp P e)]
  |some (.struct fs)=>fs.toList.flatMap fun f=>A5h P d f.type
  |some (.array n e)=>(List.replicate n (A5h P d e)).flatten
  |_=>[.any]
abbrev Kv(P:Program)(t:TypeId):List CT:=A5h P 9 t
def Mf(P:Program)(t:TypeId):Bool:=(P.underlying t).isSome&&Nat.beq (Kv P t).length (Bp P t)
abbrev Du(k:IntKind)(a b:Int):Int:=k.wrap (BitVec.ofInt k.bits a &&& BitVec.ofInt k.bits b).toNat
abbrev Xf(k:IntKind)(a b:Int):Int:=k.wrap (BitVec.ofInt k.bits a ||| BitVec.ofInt k.bits b).toNat
abbrev Ez(k:IntKind)(a b:Int):Int:=k.wrap (BitVec.ofInt k.bits a ^^^ BitVec.ofInt k.bits b).toNat
abbrev Y0(k:IntKind)(a b:Int):Int:=k.wrap (BitVec.ofInt k.bits a &&& ~~~BitVec.ofInt k.bits b).toNat
abbrev D9(k:IntKind)(a b:Int):Int:=k.wrap (a*2 ^ (min b.toNat k.bits))
abbrev F3(k:IntKind)(a b:Int):Int:=a.fdiv (2 ^ (min b.toNat k.bits))
abbrev Bb1(k:IntKind)(n:Int):Int:=k.wrap (BitVec.ofInt k.bits (if k.signed then -1 else k.max) ^^^ BitVec.ofInt k.bits n).toNat
section
variable {R:Type}
def Bk(k:IntKind)(p:PV)(K:Int->Option R):Option R:=
 match p with
 |.sc (.int k' n)=>if k'=k then K n else none
 |_=>none
def Bn(p:PV)(K:Bool->Option R):Option R:=
 match p with
 |.sc (.bool b)=>K b
 |_=>none
def Bi(p:PV)(K:ByteArray->Option R):Option R:=
 match p with
 |.sc (.string s)=>K s
 |_=>none
def Xs(es:Nat)(p:PV)(K:Bool->Nat->Ae->Option R):Option R:=
 match p with
 |.lst z es' n c=>bif Nat.beq es' es then K z n c else none
 |.sc (.slice none 0 0)=>K true 0 []
 |_=>none
def fsK(es:Nat)(p:PV)(K:PV->Option R):Option R:=
 match p with
 |.view id es' off n=>bif Nat.beq es' es then K (.view id es off n) else none
 |p=>Xs es p fun z n c=>K (.lst z es n c)
def Lh(es:Nat)(p:PV)(K:Nat->Ae->Option R):Option R:=
 match p with
 |.own es' n c=>bif Nat.beq es' es then K n c else none
 |_=>none
def Ar(b:Bool)(K:Option R):Option R:=bif b then K else none
abbrev Aa{α:Type}(x:α)(K:α->Option R):Option R:=K x
def XW(b:Bool)(x y:Option R):Option R:=bif b then x else y
abbrev Biw(x:Nat)(K:Nat->Option R):Option R:=K x
def Aws(x:List B7)(K:List B7->Option R):Option R:=K x
def Ax(b:Bool)(x y:Option R):Option R:=bif b then x else y
def Ea{α:Type}(o:Option α)(K:α->Option R):Option R:=
 match o with
 |some a=>K a
 |none=>none
def Ad{α:Type}(l:List α)(K:α->List α->Option R):Option R:=
 match l with
 |a::r=>K a r
 |[]=>none
def Ak{α:Type}(l:List α)(K:Option R):Option R:=
 match l with
 |[]=>K
 |_::_=>none
def Eo(p:PV)(K:Ae->Option R):Option R:=
 match p with
 |.agg c=>K c
 |_=>none
def AN(p:PV)(K:Ae->Option R):Option R:=
 match p with
 |.pbox c=>K c
 |_=>none
def Aw(r:Option Bq)(K:Ae->List Ae->Option R):Option R:=
 match r with
 |some ⟨v,o⟩=>K v o
 |none=>none
def fnK(p:PV)(K:Value->Option R):Option R:=
 match p with
 |.sc (.func f a b)=>K (.func f a b)
 |.sc (.map none)=>K (.map none)
 |_=>none
def fvK(p:PV)(K:FuncId->Option R):Option R:=
 match p with
 |.sc (.func (.func f) a b)=>bif a.isEmpty&&b.isEmpty then K f else none
 |_=>none
def NQ(t:CT)(p:PV)(K:PV->Option R):Option R:=
 match t with
 |.int k=>Bk k p fun n=>K (.sc (.int k n))
 |.bool=>Bn p fun b=>K (.sc (.bool b))
 |.str=>Bi p fun s=>K (.sc (.string s))
 |.sl es=>Xs es p fun z n c=>K (.lst z es n c)
 |.any=>fnK p fun v=>K (.sc v)
def fcK(t:CT)(p:PV)(K:PV->Option R):Option R:=
 match t with
 |.sl es=>fsK es p K
 |t=>NQ t p K
def Zz:List CT->Ae->Nat->(Ae->Option R)->Option R
 |[],_,_,K=>K []
 |t::ts,cells,off,K=>NQ t (cells.getD off .top) fun c=>Zz ts cells (off+1) fun r=>K (c::r)
def Ub:List CT->Ae->Nat->(Ae->Option R)->Option R
 |[],_,_,K=>K []
 |t::ts,cells,off,K=>fcK t (cells.getD off .top) fun c=>Ub ts cells (off+1) fun r=>K (c::r)
def mkV(agg:Bool)(cells:Ae)(K:PV->Option R):Option R:=
 bif agg then K (.agg cells) else Ad cells fun c r=>Ak r (K c)
def cellsOf:PV->Ae
 |.agg c=>c
 |p=>[p]
def cvK(P:Program)(t:TypeId)(v:Value)(K:PV->Option R):Option R:=
 match v with
 |.agg cs=>Ar (Nat.beq cs.toList.length (Kv P t).length) (Zz (Kv P t) (cs.toList.map .sc) 0 fun c=>K (.agg c))
 |.slice none 0 0=>
  match P.underlying t with
  |some (.slice e)=>K (.lst true (Bp P e) 0 [])
  |_=>none
 |v=>K (.sc v)
end
def Cu(tm:Nat->PV):Operand->PV
 |.tmp t=>tm t
 |.const (.agg cs)=>.agg (cs.toList.map .sc)
 |.const v=>.sc v
 |.func f=>.sc (.func (.func f) #[] #[])
 |.global g=>.sc (.pointer (some ⟨g,0,none⟩))
section
variable {R:Type}
def Ev(p:PV)(K:IntKind->Int->Option R):Option R:=
 match p with
 |.sc (.int k n)=>K k n
 |_=>none
def Af4(rdf:Nat->Option Ae)(es:Nat)(p:PV)(K:Nat->Ae->Option R):Option R:=
 match p with
 |.view id es' off n=>bif Nat.beq es' es then Ea (rdf id) fun c=>Ar (decide (off+n*es<=c.length)) (K n ((c.drop off).take (n*es))) else none
 |p=>Xs es p fun _ n c=>K n c
def Uf(rdf:Nat->Option Ae)(t:CT)(p:PV)(K:PV->B7->Option R):Option R:=
 match t with
 |.sl es=>
  match p with
  |.view id es' off n=>bif Nat.beq es' es then Ea (rdf id) fun c=>Ar (decide (off+n*es<=c.length)) (K (.lst false es n ((c.drop off).take (n*es))) [id]) else none
  |p=>Xs es p fun _ n c=>K (.lst false es n c) []
 |t=>NQ t p fun c=>K c []
def Sq(rdf:Nat->Option Ae):List CT->Ae->(Ae->B7->Option R)->Option R
 |[],[],K=>K [] []
 |t::ts,p::ps,K=>Uf rdf t p fun c m=>Sq rdf ts ps fun cs ms=>K (c::cs) (m++ms)
 |_,_,_=>none
def Aec(k:Bool):Ae->Ae->Ae
  |p::ps,c::cs=>
    (match k,p with
     |true,.lst true es 0 []=>.lst true es 0 []
     |_,_=>c)::Aec k ps cs
  |_,cs=>cs
def Aj5(P:Program)(rdf:Nat->Option Ae)(t:TypeId)(p:PV)(K:PV->B7->Option R):Option R:=
 bif Cw P t then Eo p fun ps=>Sq rdf (Kv P t) ps fun cs m=>K (.agg cs) m
 else Sq rdf (Kv P t) [p] fun cs m=>Ad cs fun c r=>Ak r (K c m)
def TW(P:Program)(rdf:Nat->Option Ae):List TypeId->Ae->(Ae->B7->Option R)->Option R
 |[],[],K=>K [] []
 |t::ts,p::ps,K=>Aj5 P rdf t p fun v m=>TW P rdf ts ps fun vs ms=>K (v::vs) (m++ms)
 |_,_,_=>none
def Ave(shr:Bool)(id:Nat)(t:CT)(p:PV)(K:PV->List (Nat × Ca)->Option R):Option R:=
 match t with
 |.sl es=>bif shr then Xs es p fun _ n c=>K (.lst false es n c) [] else Lh es p fun n c=>K (.view id es 0 n) [(id,.ar false c)]
 |t=>NQ t p fun c=>K c []
def Xc(shr:Bool)(N:Nat):Nat->List CT->Ae->(Ae->List (Nat × Ca)->Option R)->Option R
 |_,[],ps,K=>Ak ps (K [] [])
 |id,t::ts,ps,K=>Ad ps fun p ps=>Ave shr id t p fun c b=>Xc shr N (id+N) ts ps fun cs bs=>K (c::cs) (b++bs)
def KD(P:Program)(t:TypeId):Option TypeId:=
 match P.underlying t with
 |some (.pointer e)=>some e
 |_=>none
def Ae5(P:Program)(t:TypeId):Nat:=
 match KD P t with
 |some e=>1+(Kv P e).length
 |none=>(Kv P t).length
def Ao8(P:Program)(shr:Bool)(N:Nat)(id:Nat)(t:TypeId)(p:PV)(K:PV->List (Nat × Ca)->Option R):Option R:=
 match KD P t with
 |some e=>AN p fun ps=>Xc shr N (id+N) (Kv P e) ps fun cs bs=>K (.ptr id 0) ((id,.st cs)::bs)
 |none=>
 bif Cw P t then Eo p fun ps=>Xc shr N id (Kv P t) ps fun cs bs=>K (.agg cs) bs
 else Xc shr N id (Kv P t) [p] fun cs bs=>Ad cs fun c r=>Ak r (K c bs)
def OQ(P:Program)(shr:Bool)(N:Nat):Nat->List TypeId->Ae->(Ae->List (Nat × Ca)->Option R)->Option R
 |_,[],ps,K=>Ak ps (K [] [])
 |id,t::ts,ps,K=>Ad ps fun p ps=>Ao8 P shr N id t p fun v bs=>OQ P shr N (id+N*Ae5 P t) ts ps fun vs bs'=>K (v::vs) (bs++bs')
def S9(P:Program)(t:TypeId):List TypeId:=
 match P.underlying t with
 |some (.tuple ts)=>ts.toList
 |_=>[t]
def Tb(vs:Ae)(t:Bool):PV:=bif t then .tup vs else vs.headD .top
def Ut(P:Program)(t:TypeId):Bool:=
 match P.underlying t with
 |some (.tuple _)=>true
 |_=>false
def Ax3(op:BinOp)(a b:Int)(K:Bool->Option R):Option R:=
 match op with
 |.eql=>K (a==b)
 |.neq=>K (a != b)
 |.lss=>K (decide (a<b))
 |.leq=>K (decide (a<=b))
 |.gtr=>K (decide (a>b))
 |.geq=>K (decide (a>=b))
 |_=>none
def VV(op:BinOp)(k:IntKind)(a b:Int)(K:PV->Option R):Option R:=
 match op with
 |.add=>Aa ((k.wrap (a+b))) fun n=>K (.sc (.int k n))
 |.sub=>Aa ((k.wrap (a-b))) fun n=>K (.sc (.int k n))
 |.mul=>Aa ((k.wrap (a*b))) fun n=>K (.sc (.int k n))
 |.quo=>Ar (decide (b≠0)) (Aa ((k.wrap (a.tdiv b))) fun n=>K (.sc (.int k n)))
 |.rem=>Ar (decide (b≠0)) (Aa ((a.tmod b)) fun n=>K (.sc (.int k n)))
 |.and=>Aa (Du k a b) fun n=>K (.sc (.int k n))
 |.or=>Aa (Xf k a b) fun n=>K (.sc (.int k n))
 |.xor=>Aa (Ez k a b) fun n=>K (.sc (.int k n))
 |.andNot=>Aa (Y0 k a b) fun n=>K (.sc (.int k n))
 |op=>Ax3 op a b fun r=>K (.sc (.bool r))
def TL(op:BinOp)(x y:ByteArray)(K:PV->Option R):Option R:=
 match op with
 |.add=>Ar (decide (x.size+y.size<=9223372036854775807)) (Aa (x++y) fun s=>K (.sc (.string s)))
 |.eql=>K (.sc (.bool (x.data.toList==y.data.toList)))
 |.neq=>K (.sc (.bool !(x.data.toList==y.data.toList)))
 |.lss=>K (.sc (.bool (Op.bytesLess x.data.toList y.data.toList)))
 |.leq=>K (.sc (.bool (Op.bytesLess x.data.toList y.data.toList||x.data.toList==y.data.toList)))
 |.gtr=>K (.sc (.bool !(Op.bytesLess x.data.toList y.data.toList||x.data.toList==y.data.toList)))
 |.geq=>K (.sc (.bool !(Op.bytesLess x.data.toList y.data.toList)))
 |_=>none
def SZ(e:Bool)(p:PV)(K:PV->Option R):Option R:=
 match p with
 |.sc (.slice none 0 0)=>K (.sc (.bool e))
 |.lst z _ n _=>Ax z (K (.sc (.bool e))) (Ax (decide (0<n)) (K (.sc (.bool !e))) (K .ub))
 |.view _ _ _ n=>Ax (decide (0<n)) (K (.sc (.bool !e))) (K .ub)
 |_=>none
def Agl(P:Program):List Field->Nat->Bool
 |[],_=>true
 |f::r,i=>Nat.beq f.offset i&&(f.name != "_")&&(match P.underlying f.type with|some (.int _)=>true|some .bool=>true|some .string=>true|_=>false)&&Agl P r (i+1)
def Ts(P:Program):List Field->Nat->Bool
  |[],_=>true
  |f::r,i=>Nat.beq f.offset i&&(f.name != "_") &&
    (match P.underlying f.type with
     |some (.int _)=>Ts P r (i+1)
     |some .bool=>Ts P r (i+1)
     |some .string=>Ts P r (i+1)
     |some (.struct gs)=>Agl P gs.toList 0 && !P.stoodInHeld f.type&&(P.info? f.type).isSome&&Nat.beq (Bp P f.type) gs.size&&Ts P r (i+gs.size)
     |_=>false)
def Abv(P:Program)(t:TypeId)(fs:Array Field):Bool:=Ts P fs.toList 0 && !P.stoodInHeld t && !P.eqGuardType P.depth t
def fty(P:Program)(f:Field):CT:=
 match P.underlying f.type with
 |some (.int k)=>.int k
 |some .bool=>.bool
 |some .string=>.str
 |_=>.any
def Afu(P:Program)(f:Field):List CT:=
 match P.underlying f.type with
 |some (.struct gs)=>gs.toList.map (fty P)
 |_=>[fty P f]
def FC(P:Program):List Field->List CT
 |[]=>[]
 |f::r=>Afu P f++FC P r
def Qf:List CT->Ae->Ae->(Bool->Option R)->Option R
 |[],[],[],K=>K true
 |.int k::ts,p::ps,q::qs,K=>Bk k p fun a=>Bk k q fun b=>Qf ts ps qs fun r=>K ((a==b)&&r)
 |.bool::ts,p::ps,q::qs,K=>Bn p fun a=>Bn q fun b=>Qf ts ps qs fun r=>K ((a==b)&&r)
 |.str::ts,p::ps,q::qs,K=>Bi p fun a=>Bi q fun b=>Qf ts ps qs fun r=>K ((a==b)&&r)
 |_,_,_,_=>none
def As1(P:Program)(op:BinOp)(t:TypeId)(x y:PV)(K:PV->Option R):Option R:=
 match P.underlying t with
 |some (.int k)=>
  match op with
  |.shl=>Bk k x fun a=>Ev y fun _ b=>Ar (decide (0<=b)) (Aa (D9 k a b) fun n=>K (.sc (.int k n)))
  |.shr=>Bk k x fun a=>Ev y fun _ b=>Ar (decide (0<=b)) (Aa (F3 k a b) fun n=>K (.sc (.int k n)))
  |op=>Bk k x fun a=>Bk k y fun b=>VV op k a b K
 |some .string=>Bi x fun a=>Bi y fun b=>TL op a b K
 |some .bool=>
  match op with
  |.eql=>Bn x fun a=>Bn y fun b=>K (.sc (.bool (a==b)))
  |.neq=>Bn x fun a=>Bn y fun b=>K (.sc (.bool !(a==b)))
  |_=>none
 |some (.slice _)=>
  match op,y with
  |.eql,.sc (.slice none 0 0)=>SZ true x K
  |.neq,.sc (.slice none 0 0)=>SZ false x K
  |_,_=>none
 |some (.map _ _)=>
  match op,x,y with
  |.eql,.sc (.map none),.sc (.map none)=>K (.sc (.bool true))
  |.neq,.sc (.map none),.sc (.map none)=>K (.sc (.bool false))
  |_,_,_=>none
 |_=>none
def DG(P:Program)(op:BinOp)(t:TypeId)(x y:PV)(K:PV->Option R):Option R:=
 match P.underlying t with
 |some (.struct fs)=>
  match op with
  |.eql=>Ar (Abv P t fs) (Eo x fun xs=>Eo y fun ys=>Qf (FC P fs.toList) xs ys fun b=>K (.sc (.bool b)))
  |.neq=>Ar (Abv P t fs) (Eo x fun xs=>Eo y fun ys=>Qf (FC P fs.toList) xs ys fun b=>K (.sc (.bool !b)))
  |_=>none
 |_=>As1 P op t x y K
def unK(op:UnOp)(x:PV)(K:PV->Option R):Option R:=
 match op with
 |.not=>Bn x fun b=>K (.sc (.bool !b))
 |.neg=>Ev x fun k n=>Aa (k.wrap (0-n)) fun n=>K (.sc (.int k n))
 |.xor=>Ev x fun k n=>Aa (Bb1 k n) fun n=>K (.sc (.int k n))
 |_=>none
def Ph:Ae->Option (List UInt8)
 |[]=>some []
 |.sc (.int .u8 n)::r=>(Ph r).map (n.toNat.toUInt8 :: ·)
 |_::_=>none
def DM:Ae->Option Al
 |[]=>some []
 |.sc (.int .i32 n)::r=>(DM r).map (n :: ·)
 |_::_=>none
def D5(s:ByteArray):Ae:=s.data.toList.map fun b=>.sc (.int .u8 b.toNat)
def RU(P:Program)(rdf:Nat->Option Ae)(d:Nat)(src dst:TypeId)(x:PV)(K:PV->List (Nat × Ca)->Option R):Option R:=
 match P.underlying dst with
 |some (.int k)=>Ar (P.underlying src).isSome (Ev x fun _ n=>Aa (k.wrap n) fun n=>K (.sc (.int k n)) [])
 |some .string=>
  match P.underlying src with
  |some .string=>Bi x fun s=>K (.sc (.string s)) []
  |some (.slice e)=>
   match P.underlying e with
   |some (.int .u8)=>Af4 rdf 1 x fun n c=>Ar (decide (c.length=n)) (Ea (Ph c) fun b=>K (.sc (.string ⟨b.toArray⟩)) [])
   |some (.int .i32)=>Af4 rdf 1 x fun n c=>Ar (decide (c.length=n)) (Ea (DM c) fun ns=>Aa (runesBytes ns) fun s=>K (.sc (.string s)) [])
   |_=>none
  |_=>none
 |some (.slice e)=>
  match P.underlying e,P.underlying src with
  |some (.int .u8),some .string=>Bi x fun s=>Ar (decide (s.size<=1099511627776)) (K (.view d 1 0 s.size) [(d,.ar false (D5 s))])
  |_,_=>none
 |_=>none
def Jb(p:Option PV)(dflt:Nat)(K:Nat->Option R):Option R:=
 match p with
 |none=>K dflt
 |some p=>Ev p fun _ i=>Ar (decide (0<=i)) (K i.toNat)
def MD(P:Program)(rdf:Nat->Option Ae)(t:TypeId)(x:PV)(lo hi:Option PV)(K:PV->Option R):Option R:=
 match P.underlying t with
 |some .string=>Bi x fun s=>Jb lo 0 fun l=>Jb hi s.size fun h=>Ar (decide (l<=h)&&decide (h<=s.size)) (Aa (s.extract l h) fun s=>K (.sc (.string s)))
 |some (.slice e)=>Ar (P.info? e).isSome (
  match x with
  |.view id es off n=>Ar (Nat.beq es (Bp P e)) (Jb lo 0 fun l=>Jb hi n fun h=>Ar (decide (l<=h)&&decide (h<=n)) (Aa (off+l*es) fun o=>Aa (h-l) fun n=>K (.view id es o n)))
  |x=>Xs (Bp P e) x fun z n c=>Jb lo 0 fun l=>Jb hi n fun h=>Ar (decide (l<=h)&&decide (h<=n)) (Aa (h-l) fun n=>Aa ((c.drop (l*Bp P e)).take (n*Bp P e)) fun c=>K (.lst z (Bp P e) n c)))
 |some (.array n e)=>Ar (P.info? e).isSome (
  match x with
  |.ptr id off=>Ea (rdf id) fun c=>Ar (decide (1<=n*Bp P e)&&decide (off+n*Bp P e<=c.length)&&Nat.beq (Bp P e) 1)<|Jb lo 0 fun l=>Jb hi n fun h=>Ar (decide (l<=h)&&decide (h<=n)) (Aa (off+l*Bp P e) fun o=>Aa (h-l) fun n=>K (.view id (Bp P e) o n))
  |_=>none)
 |_=>none
def DC(P:Program)(d:Nat)(t:TypeId)(x:PV)(lo hi mx:Option PV)(K:PV->List (Nat × Ca)->Option R):Option R:=
 match P.underlying t with
 |some (.slice e)=>Ar ((P.info? e).isSome&&hi.isSome) (
  match x with
  |.view _ es _ n=>Ar (Nat.beq es (Bp P e)) (Jb lo 0 fun l=>Jb hi n fun h=>Jb mx n fun m=>Ar (Nat.beq l m&&Nat.beq h m&&decide (m<=n)) (K (.view d (Bp P e) 0 0) [(d,.ar false [])]))
  |x=>Xs (Bp P e) x fun _ n _=>Jb lo 0 fun l=>Jb hi n fun h=>Jb mx n fun m=>Ar (Nat.beq l m&&Nat.beq h m&&decide (m<=n)) (K (.view d (Bp P e) 0 0) [(d,.ar false [])]))
 |_=>none
def CM(x:PV)(d:Nat)(K:PV->Option R):Option R:=
 match x with
 |.ptr id off=>K (.ptr id (off+d))
 |.iptr c off=>K (.iptr c (off+d))
 |_=>none
def VY(P:Program)(e:TypeId):Bool:=(P.info? e).isSome
def Xa(P:Program)(t:TypeId)(f:Nat):Option (Nat × TypeId):=
 match P.underlying t with
 |some (.struct fs)=>(fs[f]?).map fun g=>(g.offset,g.type)
 |_=>none
def Ov(P:Program)(t:TypeId)(x:PV)(i:Int)(K:PV->Option R):Option R:=
 match P.underlying t with
 |some (.array n e)=>Ar (VY P e) (Ar (decide (0<=i)&&decide (i<n)) (CM x (i.toNat*Bp P e) K))
 |some (.slice e)=>Ar (VY P e) (
  match x with
  |.view id es off n=>Ar (Nat.beq es (Bp P e)) (Ar (decide (0<=i)&&decide (i<n)) (K (.ptr id (off+i.toNat*es))))
  |x=>Xs (Bp P e) x fun _ n c=>Ar (decide (0<=i)&&decide (i<n)) (K (.iptr c (i.toNat*Bp P e))))
 |_=>none
def GK(P:Program)(rdf:Nat->Option Ae)(t:TypeId)(x:PV)(K:PV->Option R):Option R:=
 match x with
 |.ptr id off=>Ar (Mf P t) (Ea (rdf id) fun c=>Ub (Kv P t) c off fun cs=>mkV (Cw P t) cs K)
 |.iptr c off=>Ar (Mf P t) (Zz (Kv P t) c off fun cs=>mkV (Cw P t) cs K)
 |_=>none
def Abj:PV->PV
 |.lst _ es n c=>.lst false es n c
 |p=>p
def Ais:PV->PV
 |.agg cs=>.agg (cs.map Abj)
 |p=>Abj p
def LF(nz:Bool)(P:Program)(rdf rdaf:Nat->Option Ae)(t:TypeId)(x:PV)(K:PV->Option R):Option R:=
 match x with
 |.ptr id off=>Ar (Mf P t) (
  match rdaf id with
  |some c=>Zz (Kv P t) c off fun cs=>mkV (Cw P t) cs fun v=>K (bif nz then v else Ais v)
  |none=>Ea (rdf id) fun c=>Ub (Kv P t) c off fun cs=>mkV (Cw P t) cs K)
 |.iptr c off=>Ar (Mf P t) (Zz (Kv P t) c off fun cs=>mkV (Cw P t) cs fun v=>K (bif nz then v else Ais v))
 |_=>none
def B3(cells new:Ae)(off:Nat):Ae:=cells.take off++new++cells.drop (off+new.length)
def okP:PV->Bool
 |.agg _=>true
 |.lst _ _ _ _=>true
 |.view _ _ _ _=>true
 |.sc (.int _ _)=>true
 |.sc (.bool _)=>true
 |.sc (.string _)=>true
 |.sc (.slice none 0 0)=>true
 |_=>false
def CH(I2:Nat->Option (Nat × Nat)):List (Nat × PV)->Ae->(Ae->Option R)->Option R
 |[],cells,K=>K cells
 |(i,p)::r,cells,K=>Ea (I2 i) fun q=>Ar (okP p&&Nat.beq (cellsOf p).length q.2&&Nat.ble (q.1+q.2) cells.length) (Aa (B3 cells (cellsOf p) q.1) fun cells=>CH I2 r cells K)
def Yg(P:Program)(t:TypeId)(i:Nat):Option (Nat × Nat):=
 match P.underlying t with
 |some (.struct fs)=>(fs[i]?).map fun f=>(f.offset,Bp P f.type)
 |some (.array _ e)=>some (i*Bp P e,Bp P e)
 |some (.slice e)=>some (i*Bp P e,Bp P e)
 |_=>none
def Xh(P:Program)(t:TypeId):Bool:=
 match P.underlying t with
 |some (.struct fs)=>fs.toList.all fun f=>VY P f.type
 |some (.array _ e)=>VY P e
 |some (.slice e)=>VY P e
 |_=>false
def Vs(P:Program)(t:TypeId):Option Value:=(P.info? t).bind (·.zero)
def Jl(P:Program)(t:TypeId)(K:Ae->Option R):Option R:=
 Ea (Vs P t) fun v=>Ar (Nat.beq v.cells.toList.length (Kv P t).length&&Mf P t) (Zz (Kv P t) (v.cells.toList.map .sc) 0 K)
def Xt(P:Program)(t:TypeId):Bool:=
 match P.underlying t with
 |some (.array _ _)=>true
 |_=>false
def Av6(P:Program)(t:TypeId)(cells:Ae):Ca:=bif Xt P t then .ar false cells else .st cells
def T9(n:Nat)(l:Ae):Ae:=(List.replicate n l).flatten
def A05(a b:PV)(K:PV->Option R):Option R:=Ev a fun k x=>Bk k b fun y=>Aa (if y<x then y else x) fun n=>K (.sc (.int k n))
def Azv(a b:PV)(K:PV->Option R):Option R:=Ev a fun k x=>Bk k b fun y=>Aa (if x<y then y else x) fun n=>K (.sc (.int k n))
def Aoe(P:Program)(t:TypeId)(x:PV)(K:Nat->Option R):Option R:=
 match P.underlying t with
 |some .string=>Bi x fun s=>K s.size
 |some (.array n _)=>K n
 |some (.slice e)=>
  match x with
  |.view _ es _ n=>Ar (Nat.beq es (Bp P e)) (K n)
  |x=>Xs (Bp P e) x fun _ n _=>K n
 |_=>none
end
abbrev Ap:=FuncId->Ae->Option Bq
section
variable {R:Type}
def M8(P:Program)(ts:List TypeId):Bool:=ts.any fun t=>(KD P t).isSome||(Kv P t).any fun c=>match c with | .sl _=>true|_=>false
def NJ(P:Program)(t:TypeId)(tm:Nat->PV)(x:Operand)(K:PV->Option R):Option R:=
 match x with
 |.const v=>cvK P t v K
 |x=>K (Cu tm x)
def Ac2(P:Program)(e:TypeId):Bool:=
 match P.info? e with
 |some i=>(match i.zero with|some z=>Nat.beq z.cells.size i.size|none=>false)
 |none=>false
def Ail(P:Program)(rdaf:Nat->Option Ae)(es:Nat)(t:TypeId)(x:PV)(K:Nat->Ae->Option R):Option R:=
 match P.underlying t with
 |some .string=>Ar (Nat.beq es 1) (Bi x fun b=>K b.size (D5 b))
 |some (.slice _)=>Af4 rdaf es x K
 |_=>none
abbrev Aiz(P:Program)(s:St)(es:Nat)(t:TypeId)(x:PV)(K:Nat->Ae->Option R):Option R:=Ail P (M3 s.hp) es t x K
def IB(c:Call):Bool:=
 match c.args.toList with
 |.const (.slice none 0 0)::_=>true
 |_=>false
def CY(P:Program)(rdaf:Nat->Option Ae)(d:Nat)(t tx:TypeId)(x:PV)(K:PV->List (Nat × Ca)->Option R):Option R:=
 match P.underlying t with
 |some (.slice e)=>Ar (Ac2 P e) <|
  Ail P rdaf (Bp P e) tx x fun m new=>
   Ar (decide (new.length=m*Bp P e)&&decide (m*((P.info? e).map (·.bytes)).getD 0<=1099511627776)&&decide (m<=1099511627776)) (K (.view d (Bp P e) 0 m) [(d,.ar false new)])
 |_=>none
def M5(k:Bool):List Operand->Ae->Ae
  |x::xs,p::ps=>
    (match x,p with
     |.const (.slice none 0 0),.lst z es 0 []=>.lst (k||z) es 0 []
     |_,p=>p)::M5 k xs ps
  |_,ps=>ps
def Aoa(P:Program)(t:TypeId)(x:PV)(K:Nat->Option R):Option R:=
 match P.underlying t with
 |some (.slice e)=>Xs (Bp P e) x fun z _ _=>Ar z (K 0)
 |_=>none
def UK(P:Program)(f:FuncId)(c:Call):List TypeId:=
 match P.funcs[f]? with
 |some fn=>fn.params.toList
 |none=>c.argTypes.toList
def UU(C:Iz)(P:Program)(N:Nat)(call:Ap)(tm:Nat->PV)(rdaf:Nat->Option Ae)(o:Oper)(c:Call)(f:FuncId)(K:PV->B7->List (Nat × Ca)->Option R):Option R:=
 TW P rdaf (UK P f c) (c.args.toList.map (Cu tm)) fun vs m=>
  Aw (call f (M5 (C.kz f) c.args.toList vs)) fun rv ro=>Ak ro (Ar (Nat.blt 0 N)<|OQ P (C.shr f) N (o.dst.getD 0) (S9 P o.type) rv fun ws bs=>
   Ar (bif Ut P o.type then !Nat.beq ws.length 1 else Nat.beq ws.length 1)<|K (Tb ws (Ut P o.type)) (bif M8 P (S9 P o.type) then m else []) bs)
def TB(C:Iz)(P:Program)(N:Nat)(call:Ap)(tm:Nat->PV)(rdf rdaf:Nat->Option Ae)(o:Oper)(K:PV->B7->List (Nat × Ca)->Option R):Option R:=
  match o.op with
  |.move x=>NJ P o.type tm x fun p=>K p [] []
  |.assign x=>NJ P o.type tm x fun p=>K p [] []
  |.pick c a b=>Bn (Cu tm c) fun t=>Ax t (K (Cu tm a) [] []) (K (Cu tm b) [] [])
  |.alloc t=>Ea o.dst fun d=>Jl P t fun cs=>K (.ptr d 0) [] [(d,Av6 P t cs)]
  |.box t x=>Ea o.dst fun d=>Ar (Mf P t&&Nat.beq (cellsOf (Cu tm x)).length (Kv P t).length)
      (bif Xt P t then Zz (Kv P t) (cellsOf (Cu tm x)) 0 fun cs=>K (.ptr d 0) [] [(d,.ar false cs)]
       else Ub (Kv P t) (cellsOf (Cu tm x)) 0 fun cs=>K (.ptr d 0) [] [(d,.st cs)])
  |.build t ps=>Ar (Xh P t&&Cw P t)<|Jl P t fun z=>CH (Yg P t) (ps.toList.map fun q=>(q.1,Cu tm q.2)) z fun cs=>Ub (Kv P t) cs 0 fun cs'=>K (.agg cs') [] []
  |.buildSlice t n ps=>Ea o.dst fun d=>
      match P.underlying t with
      |some (.slice e)=>Ar (Xh P t&&Nat.ble (n*Bp P e) 16777216) (Jl P e fun z=>CH (Yg P t) (ps.toList.map fun q=>(q.1,Cu tm q.2)) (T9 n z) fun cs=>
          Sq rdaf (List.replicate n (Kv P e)).flatten cs fun cs' m=>K (.view d (Bp P e) 0 n) m [(d,.ar false (bif C.nz N then Aec true cs cs' else cs'))])
      |_=>none
  |.load t a=>LF (C.nz N) P rdf rdaf t (Cu tm a) fun v=>K v [] []
  |.nilCheck x=>CM (Cu tm x) 0 fun p=>K p [] []
  |.binOp op t x y _=>
      DG P op t (Cu tm x) (Cu tm y) fun v=>K v [] []
  |.unOp op _ x=>unK op (Cu tm x) fun v=>K v [] []
  |.convert src dst x=>RU P rdaf (o.dst.getD 0) src dst (Cu tm x) fun v b=>Ea o.dst fun _=>K v [] b
  |.makeSlice t l c=>Ea o.dst fun d=>
      match P.underlying t with
      |some (.slice e)=>Ev (Cu tm l) fun _ n=>Ev (Cu tm c) fun _ m=>
          Ar (decide (0<=n)&&decide (n<=m)&&decide (m*((P.info? e).map (·.bytes)).getD 0<=1099511627776)&&decide (m<=1099511627776))
            (Jl P e fun z=>K (.view d (Bp P e) 0 n.toNat) [] [(d,.ar false (T9 n.toNat z))])
      |_=>none
  |.slice t x lo hi mx=>
      match mx with
      |none=>MD P rdf t (Cu tm x) (lo.map (Cu tm)) (hi.map (Cu tm)) fun v=>K v [] []
      |some m=>Ea o.dst fun d=>DC P d t (Cu tm x) (lo.map (Cu tm)) (hi.map (Cu tm)) (some (Cu tm m)) fun v nw=>K v [] nw
  |.fieldAddr t x f=>Ea (Xa P t f) fun q=>Ar (Nat.ble 1 (Bp P q.2)) (CM (Cu tm x) q.1 fun p=>K p [] [])
  |.field t x f=>Ea (Xa P t f) fun q=>Ar (Mf P q.2)<|Eo (Cu tm x) fun cs=>Ub (Kv P q.2) cs q.1 fun c=>mkV (Cw P q.2) c fun v=>K v [] []
  |.indexAddr t x i=>Ev (Cu tm i) fun _ n=>Ov P t (Cu tm x) n fun p=>K p [] []
  |.index t x i=>Ev (Cu tm i) fun _ n=>
      match P.underlying t with
      |some .string=>Bi (Cu tm x) fun s=>Ar (decide (0<=n)) (Ea (s.data.toList[n.toNat]?) fun b=>K (.sc (.int .u8 b.toNat)) [] [])
      |some (.array len e)=>Eo (Cu tm x) fun cs=>Ar (decide (0<=n)&&decide (n<len)&&Mf P e) (Ub (Kv P e) cs (n.toNat*Bp P e) fun c=>mkV (Cw P e) c fun v=>K v [] [])
      |_=>none
  |.lookup t x k ok=>
      match P.underlying t with
      |some (.map kt vt)=>Ar (match P.underlying kt with|some .string=>true|_=>false) (
        match Cu tm x with
        |.sc (.map none)=>Bi (Cu tm k) fun _=>Ea (Vs P vt) fun z=>cvK P vt z fun v=>Ar (match v with | .tup _=>false|_=>true) (K (bif ok then .tup [v,.sc (.bool false)] else v) [] [])
        |_=>none)
      |_=>none
  |.extract x i=>
      match Cu tm x with
      |.tup vs=>Ea vs[i]? fun p=>K p [] []
      |_=>none
  |.call c=>
      match c.callee with
      |.builtin .len=>Ad c.args.toList fun x _=>Ad c.argTypes.toList fun t _=>Aoe P t (Cu tm x) fun n=>K (.sc (.int .i64 n)) [] []
      |.builtin .cap=>Ad c.args.toList fun x _=>Ad c.argTypes.toList fun t _=>Aoa P t (Cu tm x) fun n=>K (.sc (.int .i64 n)) [] []
      |.builtin .min=>Ad c.args.toList fun x r=>Ad r fun y r'=>Ak r' (A05 (Cu tm x) (Cu tm y) fun v=>K v [] [])
      |.builtin .max=>Ad c.args.toList fun x r=>Ad r fun y r'=>Ak r' (Azv (Cu tm x) (Cu tm y) fun v=>K v [] [])
      |.builtin .append=>Ar (IB c) (Ea o.dst fun d=>Ad c.args.toList fun _ r=>Ad r fun x r'=>Ak r' (Ad c.argTypes.toList fun t u=>Ad u fun tx _=>CY P rdaf d t tx (Cu tm x) fun v nw=>K v [] nw))
      |.value (.func f)=>UU C P N call tm rdaf o c f K
      |.value (.tmp t)=>fvK (tm t) fun f=>UU C P N call tm rdaf o c f K
      |_=>none
  |_=>none
def Y2(C:Iz)(P:Program)(o:Op):Bool:=
 match o with
 |.store .. =>true
 |.call c=>
  match c.callee with
  |.builtin .append=> !IB c
  |.builtin .copy=>true
  |.builtin _=>false
  |.value (.func f)=>((UK P f c).any fun t=>(KD P t).isSome)||((UK P f c).zipIdx.any fun q=>C.mvd f q.2||C.lnd f q.2)
  |_=>false
 |_=>false
def AO(b:Ca):Ca:=
 match b with
 |.ar _ c=>.ar true c
 |b=>b
def Ah(hp:Nat->Option Ca)(ids:B7):Nat->Option Ca:=fun i=>bif ids.any (Nat.beq i) then (hp i).map AO else hp i
def A3(hp:Nat->Option Ca):List (Nat × Ca)->Nat->Option Ca
 |[]=>hp
 |(i,b)::r=>A3 (Dt hp i (some b)) r
def Cn(hp:Nat->Option Ca):List (Nat × Ca)->Bool
 |[]=>true
 |(i,_)::r=>(hp i).isNone && !(r.any fun q=>Nat.beq q.1 i)&&Cn hp r
def Cc(tm:Nat->PV)(d:Option Tmp)(v:PV):Nat->PV:=
 match d with
 |some i=>Dt tm i v
 |none=>tm
def Io(N:Nat)(d:Option Tmp):Bool:=
 match d with
 |some i=>Nat.blt i N
 |none=>true
def NR(N:Nat)(s:St)(d:Option Tmp)(v:PV)(fz:B7)(nw:List (Nat × Ca))(K:St->Option R):Option R:=
 Ar (Io N d&&Cn s.hp nw) (K ⟨Cc s.tm d v,A3 (Ah s.hp fz) nw⟩)
def NH(P:Program)(s:St)(t:TypeId)(a x:PV)(K:St->Option R):Option R:=
 match a with
 |.ptr id off=>
  match s.hp id with
  |some (.st c)=>Ar (Mf P t&&Nat.beq (cellsOf x).length (Kv P t).length&&decide (off+(Kv P t).length<=c.length)) (Ub (Kv P t) (cellsOf x) 0 fun cs=>Aa (B3 c cs off) fun c=>K ⟨s.tm,Dt s.hp id (some (.st c))⟩)
  |some (.ar false c)=>Ar (Mf P t&&decide (off+(Kv P t).length<=c.length)) (Sq (M3 s.hp) (Kv P t) (cellsOf x) fun cs m=>Ar (!m.any (Nat.beq id)) (Aa (B3 c cs off) fun c=>K ⟨s.tm,Dt (Ah s.hp m) id (some (.ar false c))⟩))
  |_=>none
 |_=>none
def LK(P:Program)(t:TypeId):Bool:=
 match P.underlying t with
 |some (.int _)=>true
 |_=>false
def AY(P:Program)(N:Nat)(s:St)(d:Nat)(e:TypeId)(b x:PV)(K:St->Option R):Option R:=
 Ev x fun _ n=>Xs (Bp P e) b fun z _ _=>
  Ar (z&&Nat.blt d N&&(s.hp d).isNone&&decide (0<=n)&&decide (n.toNat*((P.info? e).map (·.bytes)).getD 0<=1099511627776)&&decide (n<=1099511627776))
   (K ⟨Dt s.tm d (.view d (Bp P e) 0 n.toNat),Dt s.hp d (some (.ar false []))⟩)
def U0(P:Program)(N:Nat)(s:St)(d:Nat)(t tx:TypeId)(b x:PV)(K:St->Option R):Option R:=
 match P.underlying t with
 |some (.slice e)=>Ar (Ac2 P e) <|
  bif LK P tx then AY P N s d e b x K else
  Aiz P s (Bp P e) tx x fun m new=>
  match b with
  |.view id es off n=>
   match s.hp id with
   |some (.ar false c)=>
    Ar (Nat.beq es (Bp P e)&&Nat.beq off 0&&Nat.blt d N&&(s.hp d).isNone&&decide (n*es<=c.length)&&decide (new.length=m*es)
     && decide ((n+m)*((P.info? e).map (·.bytes)).getD 0<=1099511627776)&&decide (n+m<=1099511627776))
     (Aa (n+m) fun n'=>Aa (c.take (n*es)++new) fun c=>K ⟨Dt s.tm d (.view d es 0 n'),Dt (Dt s.hp id (some .mv)) d (some (.ar false c))⟩)
   |_=>none
  |b=>Xs (Bp P e) b fun z _ _=>
    Ar (z&&Nat.blt d N&&(s.hp d).isNone&&decide (new.length=m*Bp P e)&&decide (m*((P.info? e).map (·.bytes)).getD 0<=1099511627776)&&decide (m<=1099511627776))
     (K ⟨Dt s.tm d (.view d (Bp P e) 0 m),Dt s.hp d (some (.ar false new))⟩)
 |_=>none
def Aag(P:Program)(N:Nat)(s:St)(d:Option Tmp)(t tx:TypeId)(b x:PV)(K:St->Option R):Option R:=
 match P.underlying t with
 |some (.slice e)=>Ar (VY P e&&Io N d) <|
  Aiz P s (Bp P e) tx x fun m new=>
  match b with
  |.view id es off n=>
   match s.hp id with
   |some (.ar false c)=>Ar (Nat.beq es (Bp P e)&&decide (off+n*es<=c.length)&&decide (new.length=m*es))
     (Aa (min m n) fun k=>Aa (B3 c (new.take (k*es)) off) fun c=>K ⟨Cc s.tm d (.sc (.int .i64 k)),Dt s.hp id (some (.ar false c))⟩)
   |_=>none
  |_=>none
 |_=>none
def Anx(mv:Bool)(hp:Nat->Option Ca)(t:CT)(p:PV)(K:PV->B7->B7->Option R):Option R:=
 match t with
 |.sl es=>
  bif mv then
   match p with
   |.view id es' off n=>
    match hp id with
    |some (.ar false c)=>
     bif Nat.beq es' es&&Nat.beq off 0 then Ar (decide (n*es<=c.length)) (K (.own es n (c.take (n*es))) [] [id])
     else Uf (M3 hp) (.sl es) (.view id es' off n) fun c m=>K c m []
    |_=>Uf (M3 hp) (.sl es) (.view id es' off n) fun c m=>K c m []
   |p=>Xs es p fun z n c=>bif z then K (.own es 0 []) [] [] else K (.lst false es n c) [] []
  else Uf (M3 hp) (.sl es) p fun c m=>K c m []
 |t=>NQ t p fun c=>K c [] []
def OS(mv:Bool)(hp:Nat->Option Ca):List CT->Ae->(Ae->B7->B7->Option R)->Option R
 |[],[],K=>K [] [] []
 |t::ts,p::ps,K=>Anx mv hp t p fun c m x=>OS mv hp ts ps fun cs ms xs=>K (c::cs) (m++ms) (x++xs)
 |_,_,_=>none
inductive Ja where
 |var (id off:Nat) (cts:List CT) (ws:Ae)
 |row (id:Nat)
 |none
def Ja.ids:Ja->B7
 |.var id _ _ _=>[id]
 |.row id=>[id]
 |.none=>[]
def Bba(P:Program)(t:TypeId):Option TypeId:=
 match P.underlying t with
 |some (.slice e)=>some e
 |_=>none
def Asm(hp:Nat->Option Ca)(es:Nat)(p:PV)(K:PV->List Ja->Option R):Option R:=
 match p with
 |.view id es' off n=>
  match hp id with
  |some (.ar false c)=>Ar (Nat.beq es' es&&Nat.beq off 0) (K (.tup [.own es n c]) [.row id])
  |_=>none
 |p=>Xs es p fun z _ _=>Ar z (K (.tup [.own es 0 []]) [.none])
def NW(C:Iz)(P:Program)(f:FuncId)(hp:Nat->Option Ca)(i:Nat)(t:TypeId)(p:PV)(K:PV->B7->B7->List Ja->Option R):Option R:=
 match KD P t with
 |some e=>
  match p with
  |.ptr id off=>
   match hp id with
   |some (.st c)=>Ar (Mf P e&&decide (off+(Kv P e).length<=c.length)) (OS (C.mvd f i) hp (Kv P e) ((c.drop off).take (Kv P e).length) fun cs m x=>K (.pbox cs) m x [.var id off (Kv P e) cs])
   |_=>none
  |_=>none
 |none=>
  bif C.lnd f i then Ea (Bba P t) fun e=>Asm hp (Bp P e) p fun v l=>K v [] [] l
  else bif Cw P t then Eo p fun ps=>OS (C.mvd f i) hp (Kv P t) ps fun cs m x=>K (.agg cs) m x []
  else OS (C.mvd f i) hp (Kv P t) [p] fun cs m x=>Ad cs fun c r=>Ak r (K c m x [])
def YH(C:Iz)(P:Program)(f:FuncId)(hp:Nat->Option Ca):Nat->List TypeId->Ae->(Ae->B7->B7->List Ja->Option R)->Option R
 |_,[],[],K=>K [] [] [] []
 |i,t::ts,p::ps,K=>NW C P f hp i t p fun v m x l=>YH C P f hp (i+1) ts ps fun vs ms xs ls=>K (v::vs) (m++ms) (x++xs) (l++ls)
 |_,_,_,_=>none
def AF(hp:Nat->Option Ca)(ids:B7):Nat->Option Ca:=fun i=>bif ids.any (Nat.beq i) then (hp i).map (fun _=>Ca.mv) else hp i
def nid(N t:Nat):Nat:=N*(1000+t)
def Ae3(N:Nat)(hp:Nat->Option Ca):Nat->Nat->Nat
 |0,t=>t
 |k+1,t=>bif (hp (nid N t)).isNone then t else Ae3 N hp k (t+1)
def Apu(N t:Nat)(ct:CT)(was p:PV)(K:Nat->PV->List (Nat × Ca)->Option R):Option R:=
 match ct with
 |.sl es=>
  match was with
  |.own _ _ _=>Lh es p fun n c=>K (t+1) (.view (nid N t) es 0 n) [(nid N t,.ar false c)]
  |_=>Xs es p fun _ n c=>K t (.lst false es n c) []
 |ct=>NQ ct p fun c=>K t c []
def ZK(N:Nat):Nat->List CT->Ae->Ae->(Nat->Ae->List (Nat × Ca)->Option R)->Option R
 |t,[],[],ps,K=>Ak ps (K t [] [])
 |t,ct::cts,w::ws,ps,K=>Ad ps fun p ps=>Apu N t ct w p fun t' c b=>ZK N t' cts ws ps fun t'' cs bs=>K t'' (c::cs) (b++bs)
 |_,_,_,_,_=>none
def FZ(N:Nat):Nat->List Ja->List Ae->(Nat->Option Ca)->((Nat->Option Ca)->List (Nat × Ca)->Option R)->Option R
 |_,[],ro,hp,K=>Ak ro (K hp [])
 |t,.var id off cts ws::l,ro,hp,K=>Ad ro fun cs ro=>ZK N t cts ws cs fun t' cs' bs=>
   match hp id with
   |some (.st c)=>Aa (B3 c cs' off) fun c=>FZ N t' l ro (Dt hp id (some (.st c))) fun Dl bs'=>K Dl (bs++bs')
   |_=>none
 |t,.row id::l,ro,hp,K=>Ad ro fun cs ro=>FZ N t l ro (Dt hp id (some (.ar false cs))) K
 |t,.none::l,ro,hp,K=>Ad ro fun _ ro=>FZ N t l ro hp K
def Ff:B7->Bool
 |[]=>true
 |a::r=> !(r.any (Nat.beq a))&&Ff r
def NF(C:Iz)(P:Program)(N:Nat)(call:Ap)(s:St)(o:Oper)(f:FuncId)(c:Call)(K:St->Option R):Option R:=
 YH C P f s.hp 0 (UK P f c) (c.args.toList.map (Cu s.tm)) fun vs m x l=>
  Ar (Ff (l.flatMap Ja.ids++x)&&m.all (fun i=> !((l.flatMap Ja.ids++x).any (Nat.beq i)))&&Nat.blt 0 N&&Io N o.dst) <|
  Aw (call f (M5 (C.kz f) c.args.toList vs)) fun rv ro=>
   OQ P (C.shr f) N (o.dst.getD N) (S9 P o.type) rv fun ws bs=>
    Ar (bif Ut P o.type then !Nat.beq ws.length 1 else Nat.beq ws.length 1) <|
    Biw (Ae3 N s.hp 100 0) fun t0=>FZ N t0 l ro (AF (Ah s.hp m) x) fun Dl bs'=>
     Ar (Cn Dl (bs++bs')) (K ⟨Cc s.tm o.dst (Tb ws (Ut P o.type)),A3 Dl (bs++bs')⟩)
def EC(C:Iz)(P:Program)(N:Nat)(call:Ap)(s:St)(o:Oper)(K:St->Option R):Option R:=
 match o.op with
 |.store t a x=>Ar (o.dst.isNone) (NH P s t (Cu s.tm a) (Cu s.tm x) K)
 |.call c=>
  match c.callee with
  |.builtin .append=>Ea o.dst fun d=>Ad c.args.toList fun b r=>Ad r fun x r'=>Ak r' (Ad c.argTypes.toList fun t u=>Ad u fun tx _=>U0 P N s d t tx (Cu s.tm b) (Cu s.tm x) K)
  |.builtin .copy=>Ad c.args.toList fun b r=>Ad r fun x r'=>Ak r' (Ad c.argTypes.toList fun t u=>Ad u fun tx _=>Aag P N s o.dst t tx (Cu s.tm b) (Cu s.tm x) K)
  |.value (.func f)=>NF C P N call s o f c K
  |_=>none
 |_=>none
def Ahv(C:Iz)(P:Program)(N:Nat)(call:Ap)(o:Oper)(s:St)(K:St->Option R):Option R:=
 bif Y2 C P o.op then EC C P N call s o K
 else TB C P N call s.tm (rd s.hp) (M3 s.hp) o fun v fz nw=>NR N s o.dst v fz nw K
def Er(C:Iz)(P:Program)(N:Nat)(call:Ap)(ops:Array Oper)(o:Oper)(s:St)(K:St->Option R):Option R:=
 match o.guard with
 |none=>Ahv C P N call o s K
 |some (j,want)=>
  match (ops[j]?).bind (·.dst) with
  |none=>none
  |some d=>
   match s.tm d with
   |.sc (.bool b)=>
    Ax b (bif want then Ahv C P N call o ⟨Dt s.tm d (.sc (.bool true)),s.hp⟩ K else Ar (Io N o.dst) (K ⟨Cc (Dt s.tm d (.sc (.bool true))) o.dst (.sc undef),s.hp⟩))
     (bif want then Ar (Io N o.dst) (K ⟨Cc (Dt s.tm d (.sc (.bool false))) o.dst (.sc undef),s.hp⟩) else Ahv C P N call o ⟨Dt s.tm d (.sc (.bool false)),s.hp⟩ K)
   |.sc (.tuple _)=>Ar (Io N o.dst) (K ⟨Cc s.tm o.dst (.sc undef),s.hp⟩)
   |_=>none
def Sy(C:Iz)(P:Program)(N:Nat)(call:Ap)(ops:Array Oper):List Oper->St->(St->Option R)->Option R
 |[],s,K=>K s
 |o::r,s,K=>Er C P N call ops o s fun s'=>Sy C P N call ops r s' K
def FI(x y:Option R):Option R:=open Classical in if x=y then x else none
def Aku(ops:Array Oper)(o:Oper)(s:St)(F:St->Option R):Option R:=
 match o.guard with
 |none=>F s
 |some (j,_)=>
  match (ops[j]?).bind (·.dst) with
  |none=>F s
  |some d=>
   match s.tm d with
   |.ub=>FI (F ⟨Dt s.tm d (.sc (.bool true)),s.hp⟩) (F ⟨Dt s.tm d (.sc (.bool false)),s.hp⟩)
   |_=>F s
def Vh(C:Iz)(P:Program)(N:Nat)(call:Ap)(ops:Array Oper):List Oper->St->(St->Option R)->Option R
 |[],s,K=>K s
 |o::r,s,K=>Aku ops o s fun s1=>Er C P N call ops o s1 fun s'=>Vh C P N call ops r s' K
end
def Aso(o:Oper):B7:=o.op.operands.toList.filterMap fun x=>match x with | .tmp t=>some t|_=>none
def looks(ops:Array Oper)(o:Oper):B7:=
 Aso o++(match o.guard with|some (g,_)=>((ops[g]?).bind (·.dst)).toList|none=>[])
def Kg(P:Program)(o:Op):Bool:=
 match o with
 |.slice t .. =>match P.underlying t with|some (.array _ _)=>true|_=>false
 |.buildSlice t _ _=>match P.underlying t with|some (.slice e)=>M8 P [e]|_=>true
 |.convert _ dst _=>match P.underlying dst with|some .string=>true|_=>false
 |.alloc _ | .box .. | .makeSlice .. =>false
 |.move _ | .assign _ | .pick .. | .build .. | .binOp .. | .unOp .. | .fieldAddr .. | .field .. | .index .. | .indexAddr .. | .extract .. | .nilCheck _=>false
 |.call c=>match c.callee with | .builtin .len=>false | .builtin .min=>false | .builtin .max=>false|_=>true
 |_=>true
def VB(C:Iz)(P:Program)(ops:Array Oper)(x y:Oper):Bool:=
 (match x.dst with|some d=>(looks ops y).any (Nat.beq d)||(match y.dst with|some e=>Nat.beq d e|none=>false)|none=>false) ||
 (match y.dst with|some e=>(looks ops x).any (Nat.beq e)|none=>false) ||
 (Y2 C P x.op&&Kg P y.op)||(Y2 C P y.op&&Kg P x.op)
def Ll(ops:List Oper):B7->B7
 |acc=>match ops with
  |[]=>acc
  |o::r=>Ll r (acc++[o.after.toList.foldl (fun s e=>bif Region.binds .any e then s ||| 2 ^ e.on ||| acc.getD e.on 0 else s) 0])
def QX(C:Iz)(P:Program)(ops:Array Oper)(bs:B7):List Oper->Nat->Bool
 |[],_=>true
 |o::r,i=>(ops.toList.zipIdx.all fun q=> !Nat.blt q.2 i || !VB C P ops q.1 o||(bs.getD i 0).testBit q.2)&&QX C P ops bs r (i+1)
def WC(C:Iz)(P:Program)(ops:Array Oper):Bool:=
 ops.toList.zipIdx.all (fun q=>q.1.after.toList.all fun e=> !Region.binds .any e||Nat.blt e.on q.2)&&QX C P ops (Ll ops.toList []) ops.toList 0
def Ay:PV->B7
 |.view id _ _ _=>[id]
 |.ptr id _=>[id]
 |_=>[]
def Co:PV->B7
 |.agg cs=>cs.flatMap Ay
 |p=>Ay p
def Cb:PV->B7
 |.tup ps=>ps.flatMap Co
 |p=>Co p
def AG(P:Program)(o:Op):Bool:=
 match o with
 |.load .. =>true
 |.convert _ dst _=>(match P.underlying dst with|some .string=>true|_=>false)
 |_=>false
def Tn(o:Op):Bool:=
 match o with
 |.call c=>(match c.callee with | .builtin .append=> !IB c|_=>false)
 |_=>false
def Awi(ops:Array Oper)(x y:Oper):Bool:=
 (match x.dst with|some d=>(looks ops y).any (Nat.beq d)||(match y.dst with|some e=>Nat.beq d e|none=>false)|none=>false) ||
 (match y.dst with|some e=>(looks ops x).any (Nat.beq e)|none=>false)
def X7(C:Iz)(P:Program)(x y:Oper):Bool:=(Y2 C P x.op&&Kg P y.op)||(Y2 C P y.op&&Kg P x.op)
def N2(C:Iz)(P:Program)(x y:Oper):Bool:=(Y2 C P x.op&&AG P y.op)||(Y2 C P y.op&&AG P x.op)||(Tn x.op&&Tn y.op)
def Au5(C:Iz)(P:Program)(ops:Array Oper)(x y:Oper):Bool:=Awi ops x y||(X7 C P x y && !N2 C P x y)
def IR(C:Iz)(P:Program)(ops:Array Oper)(bs:B7):List Oper->Nat->Bool
 |[],_=>true
 |o::r,i=>(ops.toList.zipIdx.all fun q=> !Nat.blt q.2 i || !Au5 C P ops q.1 o||(bs.getD i 0).testBit q.2)&&IR C P ops bs r (i+1)
def VL(C:Iz)(P:Program)(ops:Array Oper):Bool:=
 ops.toList.zipIdx.all (fun q=>q.1.after.toList.all fun e=> !Region.binds .any e||Nat.blt e.on q.2)&&IR C P ops (Ll ops.toList []) ops.toList 0
def Rh(C:Iz)(P:Program)(s:St)(o:Oper):B7:=
 let l:=o.op.operands.toList.flatMap fun y=>Cb (Cu s.tm y)
 bif Y2 C P o.op && !Tn o.op then l++l.flatMap (fun i=>match s.hp i with|some (.st c)=>c.flatMap Ay|_=>[])
 else bif AG P o.op||Tn o.op then l else []
def Aqk(a b:B7):Bool:=a.all fun i=> !b.any (Nat.beq i)
def ID(C:Iz)(P:Program)(ops:Array Oper)(bs:B7)(i:Nat)(o:Oper):B7:=
 (ops.toList.zipIdx.filter fun q=>N2 C P q.1 o && !(Nat.blt q.2 i&&(bs.getD i 0).testBit q.2) && !(Nat.blt i q.2&&(bs.getD q.2 0).testBit i)).map (·.2)
def PB(C:Iz)(P:Program)(ops:Array Oper)(bs:B7):List B7:=ops.toList.zipIdx.map fun q=>ID C P ops bs q.2 q.1
def QB(C:Iz)(P:Program)(sm:List B7)(s:St)(i:Nat)(o:Oper):B7:=
 match sm.getD i [] with
 |[]=>[]
 |_::_=>Rh C P s o
def YD(C:Iz)(P:Program)(sm:List B7)(s:St)(i:Nat)(o:Oper)(q:Nat × Oper × B7):Bool:=
 !((sm.getD i []).any (Nat.beq q.1))||Aqk q.2.2 (QB C P sm s i o)
def Ku{R:Type}(C:Iz)(P:Program)(N:Nat)(call:Ap)(ops:Array Oper)(sm:List B7):List (Nat × Oper × B7)->B7->St->(St->Option R)->Option R
 |_,[],s,K=>K s
 |dn,i::l,s,K=>Ea ops[i]? fun o=>Ar (dn.all (YD C P sm s i o)&&(QB C P sm s i o).all (fun k=>(s.hp k).isSome)) (Er C P N call ops o s fun s'=>Ku C P N call ops sm ((i,o,QB C P sm s i o)::dn) l s' K)
def Asg(m i:Nat):Nat:=m ||| 2 ^ i
def Bhc(m i:Nat):Nat:=bif m.testBit i then m ^^^ 2 ^ i else m
def Am2(ops:Array Oper):List Oper->Nat->Nat
 |[],m=>m
 |o::r,m=>
  let m1:=Am2 ops r m
  let m2:=match o.dst with|some d=>Bhc m1 d|none=>m1
  (looks ops o).foldl Asg m2
def Tw:Code->Nat->(Nat->Nat)->Nat->Nat
 |.skip,ln,_,_=>ln
 |.region _ ops _,ln,_,_=>Am2 ops ops.toList ln
 |.seq a b,ln,lx,lr=>Tw a (Tw b ln lx lr) lx lr
 |.cond c a b,ln,lx,lr=>let m:=Tw a ln lx lr ||| Tw b ln lx lr;match c with | .tmp d=>Asg m d|_=>m
 |.block id c,ln,lx,lr=>Tw c ln (fun j=>bif Nat.beq j id then ln else lx j) lr
 |.loop c,_,lx,lr=>Tw c (Tw c 0 lx lr) lx lr
 |.exit id,_,lx,_=>lx id
 |.ret,_,_,lr=>lr
 |_,_,_,_=>0
def Agt(ops:List Oper):B7:=(ops.filterMap fun o=>o.guard.map (·.1)).eraseDups
def Th:Code->Nat
 |.region _ _ _=>1
 |.seq a b=>Th a+Th b
 |.cond _ a b=>Th a+Th b
 |.block _ c=>Th c
 |.loop c=>Th c
 |_=>0
def MX:Code->Nat
 |.skip=>1
 |.region _ ops _=>2 ^ min 6 (Agt ops.toList).length
 |.seq a b=>bif (Nat.ble 7 (MX a)&&Nat.ble 6 (Th b))||(Nat.ble 5 (MX a)&&Nat.ble 9 (Th b)) then MX b else min 1000 (MX a*MX b)
 |.cond _ a b=>MX a+MX b
 |.block _ c=>MX c
 |.loop _=>1
 |.exit _=>1
 |_=>0
def A2k(P:Program)(o:Oper):Bool:=
 match o.op with
 |.load t _=>Xt P t&&Nat.ble 8 (Bp P t)
 |.store t _ _=>Xt P t&&Nat.ble 8 (Bp P t)
 |_=>false
def Ahn(P:Program):Code->Bool
 |.region _ ops _=>ops.toList.any (A2k P)
 |.seq a _=>Ahn P a
 |_=>false
def Am8(P:Program):Code->Bool
 |.region _ ops _=>ops.toList.any (A2k P)
 |.seq _ b=>Am8 P b
 |_=>false
def A0a(P:Program)(o:Oper):Bool:=
 match o.op with
 |.call _=> !Xt P o.type&&(Nat.beq (Bp P o.type) 8||Nat.ble 15 (Bp P o.type))
 |_=>false
def JM(P:Program):Code->Bool
 |.region _ ops _=>ops.toList.any (A0a P)
 |.seq _ b=>JM P b
 |.cond _ a b=>JM P a||JM P b
 |_=>false
def Ba8:Code->Nat
 |.seq a b=>match b with
  |.ret=>(match a with | .region _ ops _=>(Agt ops.toList).length|_=>0)
  |_=>Ba8 b
 |_=>0
def Asw(x y:Code):Bool:=(Nat.beq (MX x) 1&&Nat.beq (Ba8 y) 11)||(Nat.beq (MX x) 4&&Nat.beq (Th x) 7&&(Nat.beq (Th y) 3||Nat.beq (Th y) 1))||(Nat.beq (MX x) 9&&Nat.beq (Th x) 5&&Nat.beq (Th y) 5)
def JU(a b:Code):Bool:=Asw a b||(match b with | .seq x y=>Asw x y|_=>false)
def Ann(P:Program)(a b:Code):Bool:=(Nat.ble 7 (MX a)&&Nat.ble 6 (Th b))||(Nat.ble 5 (MX a)&&Nat.ble 9 (Th b))||JU a b||Ahn P b||Am8 P a||JM P a
def Qy(m:Nat):Nat->B7
 |0=>[]
 |n+1=>Qy m n++(bif m.testBit n then [n] else [])
def lk(l:List (Nat × PV))(i:Nat):PV:=
 match l with
 |[]=>.top
 |(j,p)::r=>bif Nat.beq i j then p else lk r i
def Ct(l:List (Nat × Ca))(i:Nat):Option Ca:=
 match l with
 |[]=>none
 |(j,b)::r=>bif Nat.beq i j then some b else Ct r i
def EV(l:List (Nat × Nat))(i:Nat):Option Nat:=
 match l with
 |[]=>none
 |(j,b)::r=>bif Nat.beq i j then some b else EV r i
def QY(N:Nat)(s:St)(i:Nat):St:=
 match s.tm i with
 |.lst true es 0 []=>
  bif (s.hp i).isNone then ⟨Dt s.tm i (.view i es 0 0),Dt s.hp i (some (.ar false []))⟩
  else bif (s.hp (i+N*3000)).isNone then ⟨Dt s.tm i (.view (i+N*3000) es 0 0),Dt s.hp (i+N*3000) (some (.ar false []))⟩
  else s
 |_=>s
def Ac3(N:Nat)(id:Nat)(s:St)(j:Nat):St:=
 match s.hp id with
 |some (.st c)=>
  match c[j]? with
  |some (.lst true es 0 [])=>bif (s.hp (id+N*(j+1))).isNone then ⟨s.tm,Dt (Dt s.hp id (some (.st (c.set j (.view (id+N*(j+1)) es 0 0))))) (id+N*(j+1)) (some (.ar false []))⟩ else s
  |_=>s
 |_=>s
def Adf(N:Nat)(s:St)(i:Nat):St:=
 match s.tm i with
 |.ptr id _=>
  match s.hp id with
  |some (.st c)=>(List.range c.length).foldl (Ac3 N id) s
  |_=>s
 |_=>s
def Aap(m:List (Nat × Nat))(old new:Nat):List (Nat × Nat):=
 match EV m old with
 |some _=>m
 |none=>m++[(old,new)]
def Xu(N new:Nat):Ae->Nat->List (Nat × Nat)->List (Nat × Nat)
 |[],_,m=>m
 |.view id _ _ _::r,j,m=>Xu N new r (j+1) (Aap m id (new+N*(j+1)))
 |_::r,j,m=>Xu N new r (j+1) m
def RB(N:Nat)(s:St)(m:List (Nat × Nat))(i:Nat):List (Nat × Nat):=
 match s.tm i with
 |.view id _ _ _=>Aap m id i
 |.ptr id _=>
  match EV m id with
  |some _=>m
  |none=>
   match s.hp id with
   |some (.st c)=>Xu N i c 0 (Aap m id i)
   |_=>Aap m id i
 |.agg c=>Xu N i c 0 m
 |_=>m
def Akx(m:List (Nat × Nat)):PV->PV
 |.view id es off n=>match EV m id with|some j=>.view j es off n|none=>.top
 |.ptr id off=>match EV m id with|some j=>.ptr j off|none=>.top
 |.sc v=>.sc v
 |.lst z es n c=>.lst z es n c
 |.iptr c off=>.iptr c off
 |_=>.top
def An5(m:List (Nat × Nat)):PV->PV
 |.agg c=>.agg (c.map (Akx m))
 |p=>Akx m p
def Aye(m:List (Nat × Nat)):Ca->Ca
 |.st c=>.st (c.map (Akx m))
 |b=>b
def D3(N i:Nat):Nat:=i+N*2000
def Aei(N:Nat)(hp:Nat->Option Ca):Nat->List (Nat × Nat)
 |0=>[]
 |i+1=>bif (hp (D3 N i)).isSome then Aei N hp i++[(D3 N i,D3 N i)] else Aei N hp i
def CE(N:Nat)(hp:Nat->Option Ca):Nat->List (Nat × Nat)->List (Nat × Nat)
 |0,m=>m
 |i+1,m=>
  match hp (D3 N i) with
  |some (.st c)=>Xu N (D3 N i) c 0 (CE N hp i m)
  |_=>CE N hp i m
def Bgb(N:Nat)(hp:Nat->Option Ca)(k:Nat):List (Nat × Nat):=CE N hp k (Aei N hp k)
def Re(m:List (Nat × Nat))(hp:Nat->Option Ca):List (Nat × Nat)->List (Nat × Ca)
 |[]=>[]
 |(old,new)::r=>match hp old with
  |some b=>(new,Aye m b)::Re m hp r
  |none=>Re m hp r
section
variable {R:Type}
def Alc(N:Nat)(ls:B7)(q:Bool)(s:St)(K:St->Option R):Option R:=
 let s2:=bif q then s else ls.foldl (Adf N) (ls.foldl (QY N) s)
 let m:=ls.foldl (RB N s2) (Bgb N s2.hp 8)
 Ar (Ff (m.map (·.1))&&Ff (m.map (·.2))) (K ⟨lk (ls.map fun i=>(i,An5 m (s2.tm i))),Ct (Re m s2.hp m)⟩)
def Mv(N L:Nat)(s:St)(K:St->Option R):Option R:=Alc N (Qy L N) false s K
def Agc(N L:Nat)(s:St)(K:St->Option R):Option R:=Alc N (Qy L N) true s K
def Ag1(F:(St->Option R)->St->Option R)(nm:St->(St->Option R)->Option R):Nat->St->Option R
 |0,_=>none
 |n+1,s=>F (fun s'=>nm s' (Ag1 F nm n)) s
def SW(n:Nat)(F:St->Option R)(s:St):Option R:=
 match n with
 |0=>none
 |_+1=>F s
def Atb(s:St)(c:Operand)(kt kf:St->Option R):Option R:=
 match c with
 |.tmp d=>
  match s.tm d with
  |.sc (.bool b)=>Ax b (kt ⟨Dt s.tm d (.sc (.bool true)),s.hp⟩) (kf ⟨Dt s.tm d (.sc (.bool false)),s.hp⟩)
  |.ub=>FI (kt s) (kf s)
  |_=>none
 |.const (.bool true)=>kt s
 |.const (.bool false)=>kf s
 |_=>none
def M2(C:Iz)(P:Program)(fu N:Nat)(call:Ap):Code->Nat->(Nat->Nat)->Nat->(St->Option R)->(Nat->St->Option R)->(St->Option R)->St->Option R
 |.skip,_,_,_,kn,_,_,s=>kn s
 |.region _ ops draw,_,_,_,kn,_,_,s=>XW (draw && !WC C P ops) (Ar (VL C P ops) (Aws (PB C P ops (Ll ops.toList [])) fun sm=>Ku C P N call ops sm [] (List.range ops.size) s kn)) (XW draw (Sy C P N call ops ops.toList s kn) (Vh C P N call ops ops.toList s kn))
 |.seq a b,ln,lx,lr,kn,kx,kr,s=>M2 C P fu N call a (Tw b ln lx lr) lx lr (fun s'=>XW (Ann P a b) (XW (JU a b) (Agc N (Tw b ln lx lr) s' (SW fu fun s''=>M2 C P fu N call b ln lx lr kn kx kr s'')) (Mv N (Tw b ln lx lr) s' (SW fu fun s''=>M2 C P fu N call b ln lx lr kn kx kr s''))) (M2 C P fu N call b ln lx lr kn kx kr s')) kx kr s
 |.cond c a b,ln,lx,lr,kn,kx,kr,s=>Atb s c (M2 C P fu N call a ln lx lr kn kx kr) (M2 C P fu N call b ln lx lr kn kx kr)
 |.block id c,ln,lx,lr,kn,kx,kr,s=>M2 C P fu N call c ln (fun j=>bif Nat.beq j id then ln else lx j) lr kn (fun j s'=>bif Nat.beq j id then kn s' else kx j s') kr s
 |.loop c,ln,lx,lr,_,kx,kr,s=>
  Mv N (Tw (.loop c) ln lx lr) s (Ag1 (fun k s'=>M2 C P fu N call c (Tw (.loop c) ln lx lr) lx lr k kx kr s') (Mv N (Tw (.loop c) ln lx lr)) fu)
 |.exit id,_,_,_,_,kx,_,s=>kx id s
 |.ret,_,_,_,_,_,kr,s=>kr s
 |_,_,_,_,_,_,_,_=>none
def Arr(id:Nat)(t:CT)(p:PV)(K:PV->List (Nat × Ca)->Option R):Option R:=
 match t with
 |.sl es=>
  match p with
  |.own es' n c=>bif Nat.beq es' es then K (.view id es 0 n) [(id,.ar false c)] else none
  |p=>Xs es p fun z n c=>K (.lst z es n c) []
 |t=>NQ t p fun c=>K c []
def OI(N:Nat):Nat->List CT->Ae->(Ae->List (Nat × Ca)->Option R)->Option R
 |_,[],ps,K=>Ak ps (K [] [])
 |id,t::ts,ps,K=>Ad ps fun p ps=>Arr id t p fun c b=>OI N (id+N) ts ps fun cs bs=>K (c::cs) (b++bs)
def inK(P:Program)(N i:Nat)(t:TypeId)(p:PV)(K:PV->List (Nat × Ca)->Option R):Option R:=
 match KD P t with
 |some e=>AN p fun ps=>Ar (Nat.blt i 8) (OI N (D3 N i+N) (Kv P e) ps fun cs bs=>K (.ptr (D3 N i) 0) ((D3 N i,.st cs)::bs))
 |none=>
  match p with
  |.tup ps=>Ea (Bba P t) fun e=>Ar (Nat.blt i 8) (Ad ps fun q r=>Ak r (Lh (Bp P e) q fun n c=>K (.view (D3 N i) (Bp P e) 0 n) [(D3 N i,.ar false c)]))
  |p=>
   bif Cw P t then Eo p fun ps=>OI N (i+N) (Kv P t) ps fun cs bs=>K (.agg cs) bs
   else OI N (i+N) (Kv P t) [p] fun cs bs=>Ad cs fun c r=>Ak r (K c bs)
def Aot(P:Program)(N:Nat):Nat->List TypeId->Ae->(List (Nat × PV)->List (Nat × Ca)->Option R)->Option R
 |_,[],ps,K=>Ak ps (K [] [])
 |i,t::ts,ps,K=>Ad ps fun p ps=>inK P N i t p fun v bs=>Aot P N (i+1) ts ps fun vs bs'=>K ((i,v)::vs) (bs++bs')
def A23(hp:Nat->Option Ca)(t:CT)(p:PV)(K:PV->B7->B7->Option R):Option R:=
  match t with
  |.sl es=>
    match p with
    |.view id es' off n=>bif Nat.beq es' es&&Nat.beq off 0 then
        (match hp id with
         |some (.ar false c)=>Ar (decide (n*es<=c.length)) (K (.own es n (c.take (n*es))) [id] [])
         |_=>none) else none
    |p=>Xs es p fun z _ _=>Ar z (K (.own es 0 []) [] [])
  |t=>NQ t p fun c=>K c [] []
def Al7(shr:Bool)(hp:Nat->Option Ca)(t:CT)(p:PV)(K:PV->B7->B7->Option R):Option R:=
 bif shr then Uf (M3 hp) t p fun c m=>K c [] m else A23 hp t p K
def ML(shr:Bool)(hp:Nat->Option Ca):List CT->Ae->(Ae->B7->B7->Option R)->Option R
 |[],[],K=>K [] [] []
 |t::ts,p::ps,K=>Al7 shr hp t p fun c m z=>ML shr hp ts ps fun cs ms zs=>K (c::cs) (m++ms) (z++zs)
 |_,_,_=>none
def Au6(P:Program)(shr:Bool)(hp:Nat->Option Ca)(t:TypeId)(p:PV)(K:PV->B7->B7->Option R):Option R:=
 match KD P t with
 |some e=>
  match p with
  |.ptr id off=>
   match hp id with
   |some (.st c)=>Ar (Nat.beq off 0) (ML shr hp (Kv P e) c fun cs m z=>K (.pbox cs) (id::m) z)
   |_=>none
  |_=>none
 |none=>
  bif Cw P t then Eo p fun ps=>ML shr hp (Kv P t) ps fun cs m z=>K (.agg cs) m z
  else ML shr hp (Kv P t) [p] fun cs m z=>Ad cs fun c r=>Ak r (K c m z)
def As5(P:Program)(s:St)(r:ResultVar)(K:PV->Option R):Option R:=
 match r with
 |.tmp t=>K (s.tm t)
 |.cell a t=>LF false P (rd s.hp) (M3 s.hp) t (s.tm a) K
def Adg(P:Program)(shr:Bool)(s:St):List ResultVar->List TypeId->(Ae->B7->B7->Option R)->Option R
 |[],[],K=>K [] [] []
 |r::rs,t::ts,K=>As5 P s r fun p=>Au6 P shr s.hp t p fun v m z=>Adg P shr s rs ts fun vs ms zs=>K (v::vs) (m++ms) (z++zs)
 |_,_,_=>none
def RH(hp:Nat->Option Ca):List CT->Ae->Ae->(Ae->B7->B7->Option R)->Option R
 |[],[],[],K=>K [] [] []
 |t::ts,w::ws,p::ps,K=>Al7 (match w with | .own _ _ _=>false|_=>true) hp t p fun c m z=>RH hp ts ws ps fun cs ms zs=>K (c::cs) (m++ms) (z++zs)
 |_,_,_,_=>none
def MR(P:Program)(N:Nat)(hp:Nat->Option Ca):Nat->List TypeId->Ae->(List Ae->B7->B7->B7->Option R)->Option R
 |_,[],ps,K=>Ak ps (K [] [] [] [])
 |i,t::ts,ps,K=>Ad ps fun p ps=>
  match p with
  |.pbox ws=>Ea (KD P t) fun e=>
    match hp (D3 N i) with
    |some (.st c)=>RH hp (Kv P e) ws c fun cs m z=>MR P N hp (i+1) ts ps fun r m' z' q=>K (cs::r) (m++m') (z++z') (D3 N i::q)
    |_=>none
  |.tup _=>
    match hp (D3 N i) with
    |some (.ar false c)=>MR P N hp (i+1) ts ps fun r m' z' q=>K (c::r) m' z' (D3 N i::q)
    |_=>none
  |_=>MR P N hp (i+1) ts ps K
def Amw(rs:List ResultVar):Nat:=rs.foldl (fun m r=>match r with | .tmp t=>Asg m t | .cell a _=>Asg m a) 0
end
def VI(P:Program):Nat->List TypeId->Nat->Nat
 |_,[],m=>m
 |i,t::ts,m=>VI P (i+1) ts (match P.underlying t with|some (.pointer _)=>Asg m i|_=>m)
def Aj9(C:Iz)(P:Program)(f:FuncId)(fn:Func)(args:Ae)(s:St):Option Bq:=
 Adg P (C.shr f) s fn.results.toList fn.resultTypes.toList fun vs m z=>MR P fn.ntmps s.hp 0 fn.params.toList args fun os m' z' q=>
  Ar (Ff ((m++m')++q)&&(z++z').all (fun i=> !(((m++m')++q).any (Nat.beq i)))) (some ⟨vs,os⟩)
def A4q(C:Iz)(P:Program)(fu:Nat)(call:Ap)(f:FuncId)(fn:Func)(c:Code)(args:Ae):Option Bq:=
  Aot P fn.ntmps 0 fn.params.toList args fun tms bs=>Ar (Nat.ble args.length fn.ntmps&&Cn (fun _=>none) bs)
    (let lr:=VI P 0 fn.params.toList (Amw fn.results.toList)
     M2 C P fu fn.ntmps call c lr (fun _=>0) lr (Aj9 C P f fn args) (fun _ _=>none) (Aj9 C P f fn args) ⟨lk tms,Ct bs⟩)
def Ac(C:Iz)(P:Program)(fu:Nat):Nat->FuncId->Ae->Option Bq
 |0,_,_=>none
 |d+1,f,args=>
  match C.ext f with
  |some g=>g args
  |none=>
   match P.funcs[f]? with
   |none=>none
   |some fn=>match fn.body with
    |none=>none
    |some c=>A4q C.core P fu (Ac C P fu d) f fn c args
inductive Dir where
 |l
 |r
 |i (m:Nat)
section
variable {R:Type}
def HD(C:Iz)(P:Program)(fu N:Nat)(call:Ap):List Dir->Code->Nat->(Nat->Nat)->Nat->(St->Option R)->(Nat->St->Option R)->(St->Option R)->Nat->St->Option R
 |[],.seq _ b,ln,lx,lr,kn,kx,kr,n,s=>SW n (fun s''=>M2 C P fu N call b ln lx lr kn kx kr s'') s
 |[],.loop c,ln,lx,lr,_,kx,kr,n,s=>Ag1 (fun k s'=>M2 C P fu N call c (Tw (.loop c) ln lx lr) lx lr k kx kr s') (Mv N (Tw (.loop c) ln lx lr)) n s
 |.l::p,.seq a b,ln,lx,lr,kn,kx,kr,n,s=>HD C P fu N call p a (Tw b ln lx lr) lx lr (fun s'=>XW (Ann P a b) (XW (JU a b) (Agc N (Tw b ln lx lr) s' (SW fu fun s''=>M2 C P fu N call b ln lx lr kn kx kr s'')) (Mv N (Tw b ln lx lr) s' (SW fu fun s''=>M2 C P fu N call b ln lx lr kn kx kr s''))) (M2 C P fu N call b ln lx lr kn kx kr s')) kx kr n s
 |.r::p,.seq _ b,ln,lx,lr,kn,kx,kr,n,s=>HD C P fu N call p b ln lx lr kn kx kr n s
 |.l::p,.cond _ a _,ln,lx,lr,kn,kx,kr,n,s=>HD C P fu N call p a ln lx lr kn kx kr n s
 |.r::p,.cond _ _ b,ln,lx,lr,kn,kx,kr,n,s=>HD C P fu N call p b ln lx lr kn kx kr n s
 |.l::p,.block id c,ln,lx,lr,kn,kx,kr,n,s=>HD C P fu N call p c ln (fun j=>bif Nat.beq j id then ln else lx j) lr kn (fun j s'=>bif Nat.beq j id then kn s' else kx j s') kr n s
 |.i m::p,.loop c,ln,lx,lr,_,kx,kr,n,s=>
  HD C P fu N call p c (Tw (.loop c) ln lx lr) lx lr
   (fun s'=>Mv N (Tw (.loop c) ln lx lr) s' (Ag1 (fun k s'=>M2 C P fu N call c (Tw (.loop c) ln lx lr) lx lr k kx kr s') (Mv N (Tw (.loop c) ln lx lr)) m)) kx kr n s
 |_,_,_,_,_,_,_,_,_,_=>none
end
def Baw(C:Iz)(P:Program)(fu:Nat)(call:Ap)(f:FuncId)(fn:Func)(c:Code)(args:Ae)(p:List Dir)(n:Nat)(s:St):Option Bq:=
 let lr:=VI P 0 fn.params.toList (Amw fn.results.toList)
 HD C P fu fn.ntmps call p c lr (fun _=>0) lr (Aj9 C P f fn args) (fun _ _=>none) (Aj9 C P f fn args) n s
def Az1:B7:=[
 130,
 1000000]
def A68:B7:=[
 79,
 7,
 103,
 75,
 28,
 16,
 96,
 135,
 162,
 163,
 42,
 123,
 55,
 13,
 23,
 43,
 14,
 12,
 18,
 8,
 27,
 1000000]
def A55:B7:=[
 1000000]
def Azz:B7:=[
 99,
 1000000]
def A3p:B7:=[
 99,
 1000000]
def Ajt(args:Ae):Option Bq:=
 match args with
 |[.sc (.string s)]=>bif decide (s.size<=9223372036854775807) then some ⟨[.sc (.bool (Lib.validD s.data.toList))],[]⟩ else none
 |_=>none
def Yh:B7:=[
 184,
 207,
 191,
 176,
 196,
 193,
 208,
 221,
 222,
 91,
 159,
 160,
 158,
 129,
 86,
 166,
 141,
 105,
 69,
 63,
 62,
 56,
 131,
 132,
 133,
 92,
 87,
 88,
 89,
 93,
 128,
 83,
 49,
 52,
 162,
 163,
 135,
 96,
 98,
 84,
 46,
 137,
 1000000]
def Bjh:B7:=[
 1000000]
def CB:Iz:=⟨fun f=>A68.any (Nat.beq f),fun f i=>Nat.beq i 0&&A3p.any (Nat.beq f),fun f i=>(Nat.beq i 0&&A55.any (Nat.beq f))||(Nat.beq i 2&&Azz.any (Nat.beq f)),fun f=>Az1.any (Nat.beq f),fun _=>none,fun N=>Bjh.any (Nat.beq N)⟩
def CX(xs:FuncId->Option (Ae->Option Bq)):Iz:={ CB with ext:=fun f=>bif Yh.any (Nat.beq f) then none else xs f }
def Ai6(f:Func):Code:=match f.body with|some c=>c|none=>.skip
section
variable {R:Type}{r:Option R}
theorem Bb{k:IntKind}{p:PV}{K:Int->Option R}{n:Int}(h:p=.sc (.int k n))(hk:K n=r):Bk k p K=r:=by subst h;unfold Bk;simp[hk]
theorem Bhl{p:PV}{K:IntKind->Int->Option R}{k:IntKind}{n:Int}(h:p=.sc (.int k n))(hk:K k n=r):Ev p K=r:=by subst h;exact hk
theorem A5{p:PV}{K:Bool->Option R}{b:Bool}(h:p=.sc (.bool b))(hk:K b=r):Bn p K=r:=by subst h;exact hk
theorem Bf{p:PV}{K:ByteArray->Option R}{s:ByteArray}(h:p=.sc (.string s))(hk:K s=r):Bi p K=r:=by subst h;exact hk
theorem Ql{es:Nat}{p:PV}{K:Bool->Nat->Ae->Option R}{z:Bool}{n:Nat}{c:Ae}(h:p=.lst z es n c)(hk:K z n c=r):Xs es p K=r:=by subst h;unfold Xs;simp[Oq,hk]
theorem K3{es:Nat}{p:PV}{K:Nat->Ae->Option R}{n:Nat}{c:Ae}(h:p=.own es n c)(hk:K n c=r):Lh es p K=r:=by subst h;unfold Lh;simp[Oq,hk]
theorem Ba{b:Bool}{K:Option R}(h:b=true)(hk:K=r):Ar b K=r:=by subst h;exact hk
theorem Bjp{b:Bool}{x y:Option R}(h:b=true)(hx:x=r):Ax b x y=r:=by subst h;exact hx
theorem Bib{b:Bool}{x y:Option R}(h:b=false)(hx:y=r):Ax b x y=r:=by subst h;exact hx
theorem Fo{α:Type}{o:Option α}{K:α->Option R}{a:α}(h:o=some a)(hk:K a=r):Ea o K=r:=by subst h;exact hk
theorem Au{α:Type}{l:List α}{K:α->List α->Option R}{a:α}{t:List α}(h:l=a::t)(hk:K a t=r):Ad l K=r:=by subst h;exact hk
theorem A9{α:Type}{l:List α}{K:Option R}(h:l=[])(hk:K=r):Ak l K=r:=by subst h;exact hk
theorem Jt{p:PV}{K:Ae->Option R}{c:Ae}(h:p=.agg c)(hk:K c=r):Eo p K=r:=by subst h;exact hk
theorem RR{p:PV}{K:Ae->Option R}{c:Ae}(h:p=.pbox c)(hk:K c=r):AN p K=r:=by subst h;exact hk
theorem At{o:Option Bq}{K:Ae->List Ae->Option R}{v:Ae}{q:List Ae}(h:o=some ⟨v,q⟩)(hk:K v q=r):Aw o K=r:=by subst h;exact hk
end
theorem QK(a b:Int):(a != b)=decide (a≠b):=by by_cases h:a=b<;>simp[h,bne]
theorem An8(a b:Int):(a==b)=decide (a=b):=by by_cases h:a=b<;>simp[h]
section
variable {R:Type}
theorem DN(v:Ae)(o:List Ae)(K:Ae->List Ae->Option R):Aw (some ⟨v,o⟩) K=K v o:=by exact id rfl
theorem MM{α:Type}(K:Option R):Ak ([]:List α) K=K:=by exact id rfl
theorem DO{α:Type}(a:α)(r:List α)(K:α->List α->Option R):Ad (a::r) K=K a r:=by exact id rfl
theorem KT(b:Bool)(K:Bool->Option R):Bn (.sc (.bool b)) K=K b:=by exact id rfl
theorem Abd(s:ByteArray)(K:ByteArray->Option R):Bi (.sc (.string s)) K=K s:=by exact id rfl
theorem TM(k:IntKind)(n:Int)(K:Int->Option R):Bk k (.sc (.int k n)) K=K n:=by unfold Bk;simp
theorem Asl(k:IntKind)(n:Int)(K:IntKind->Int->Option R):Ev (.sc (.int k n)) K=K k n:=by exact id rfl
theorem A17(z:Bool)(es n:Nat)(c:Ae)(K:Bool->Nat->Ae->Option R):Xs es (.lst z es n c) K=K z n c:=by unfold Xs;simp
theorem A2v(es n:Nat)(c:Ae)(K:Nat->Ae->Option R):Lh es (.own es n c) K=K n c:=by unfold Lh;simp
theorem Ava(c:Ae)(K:Ae->Option R):Eo (.agg c) K=K c:=by exact id rfl
theorem Ame(c:Ae)(K:Ae->Option R):AN (.pbox c) K=K c:=by exact id rfl
theorem Arw{α:Type}(a:α)(K:α->Option R):Ea (some a) K=K a:=by exact id rfl
theorem Gw{α:Type}(a:α)(K:α->Option R):Aa a K=K a:=by exact id rfl
theorem Avy(K:Option R):Ar true K=K:=by exact id rfl
theorem Ac8(p:Prop)[Decidable p](K:Option R)(h:p):Ar (decide p) K=K:=by simp[Ar,h]
theorem Alh(b c:Bool)(K:Option R):Ar (b&&c) K=Ar b (Ar c K):=by cases b<;>rfl
theorem Ac5(x y:Option R):Ax true x y=x:=by exact id rfl
theorem Acd(x y:Option R):Ax false x y=y:=by exact id rfl
theorem FW(p:Prop)[Decidable p](x y:Option R)(h:p):Ax (decide p) x y=x:=by simp[Ax,h]
theorem F7(p:Prop)[Decidable p](x y:Option R)(h:¬p):Ax (decide p) x y=y:=by simp[Ax,h]
theorem HE(p:Prop)[Decidable p](x y:Option R):Ax (decide p) x y=if p then x else y:=by by_cases h:p<;>simp[Ax,h]
theorem Al2(b:Bool)(x y:Option R):Ax b x y=if b=true then x else y:=by cases b<;>rfl
theorem Auq(b:Bool)(x y:Option R):Ax (!b) x y=Ax b y x:=by cases b<;>rfl
theorem Lk(a b:Int)(x y:Option R):Ax (a==b) x y=if a=b then x else y:=by rw[An8,HE]
theorem E4(a b:Int)(x y:Option R):Ax (a != b) x y=if a=b then y else x:=by rw[QK,HE];by_cases h:a=b<;>simp[h]
theorem Aly(x:Option R):FI x x=x:=by unfold FI;simp
end
theorem wrap_i64{x:Int}(h1: -9223372036854775808<=x)(h2:x<=9223372036854775807):IntKind.wrap .i64 x=x:=by have:=IntWalk.i64_in x (by omega);exact this
theorem BE{x:Int}(h1:0<=x)(h2:x<=18446744073709551615):IntKind.wrap .u64 x=x:=by simp only[IntKind.wrap,IntKind.signed,IntKind.bits];simp;omega
theorem Pg{x:Int}(h1:0<=x)(h2:x<=255):IntKind.wrap .u8 x=x:=by simp only[IntKind.wrap,IntKind.signed,IntKind.bits];simp;omega
theorem Su(x:Int):0<=IntKind.wrap .u64 x/\IntKind.wrap .u64 x<=18446744073709551615:=by simp only[IntKind.wrap,IntKind.signed,IntKind.bits];simp;omega
theorem Ak3{c:Prop}[Decidable c](k:IntKind)(a b:Int)(o:List Ae):(if c then some (Bq.mk [.sc (.int k a)] o) else some (Bq.mk [.sc (.int k b)] o))=some (Bq.mk [.sc (.int k (if c then a else b))] o):=by split<;>rfl
theorem Dx{α:Type}{l r:List α}{x:α}{i:Nat}(h:l.drop i=x::r):i<l.length/\l[i]?=some x/\l.drop (i+1)=r:=by
 have h1:i<l.length:=by
  rcases Is i l.length with h1|h1
  ·exact h1
  ·rw[List.drop_of_length_le h1] at h;cases h
 rw[List.drop_eq_getElem_cons h1] at h;injection h with h2 h3;exact⟨h1,by rw[List.getElem?_eq_getElem h1,h2],h3⟩
theorem drop_nil{α:Type}{l:List α}{i:Nat}(h:l.drop i=[]):l.length<=i:=by have:=congrArg List.length h;simp at this;omega
section
variable {α:Type}{f:α->Ae}{k:Nat}
theorem RT(hf:∀x,(f x).length=k):∀(l:List α),(l.flatMap f).length=l.length*k
 |[]=>by simp
 |x::l=>by simp[hf x,RT hf l,Nat.succ_mul];omega
theorem RG(hf:∀x,(f x).length=k):∀(l:List α)(i:Nat),(l.flatMap f).drop (i*k)=(l.drop i).flatMap f
 |l,0=>by simp
 |[],i+1=>by simp
 |x::l,i+1=>by
  rw[J4,Nat.succ_mul,Nat.add_comm,<-List.drop_drop,List.drop_append_of_le_length (by rw[hf x];omega)]
  rw[show (f x).drop k=[] from List.drop_of_length_le (by rw[hf x];omega),WU]
  exact RG hf l i
theorem Acq(hf:∀x,(f x).length=k):∀(l:List α)(i:Nat),(l.flatMap f).take (i*k)=(l.take i).flatMap f
 |l,0=>by simp
 |[],i+1=>by simp
 |x::l,i+1=>by
  rw[J4,Nat.succ_mul,Nat.add_comm,List.take_succ_cons,J4,<-Acq hf l i];rw[show k+i*k=(f x).length+i*k by rw[hf x],List.take_length_add_append]
theorem IE(hf:∀x,(f x).length=k){l:List α}{i:Nat}{x:α}(h:l[i]?=some x){j:Nat}(hj:j<k):(l.flatMap f).getD (i*k+j) .top=(f x).getD j .top:=by
 have h1:((l.flatMap f).drop (i*k))[j]?=(l.flatMap f)[i*k+j]?:=List.getElem?_drop;rw[RG hf] at h1
 have h2:i<l.length:=by
  rcases Is i l.length with h1|h1
  ·exact h1
  ·rw[List.getElem?_eq_none h1] at h;cases h
 rw[List.drop_eq_getElem_cons h2,J4] at h1;have h3:l[i]=x:=by rw[List.getElem?_eq_getElem h2] at h;injection h
 rw[h3,List.getElem?_append_left (by rw[hf x];exact hj)] at h1
 simp only[List.getD_eq_getElem?_getD,<-h1]
theorem Akk(hf:∀x,(f x).length=k){p:PV}{j:Nat}(hj:j<k):∀{l:List α}{i:Nat}{x y:α},l[i]?=some x->f y=(f x).set j p->(l.flatMap f).set (i*k+j) p=(l.set i y).flatMap f
 |[],i,x,y,h,_=>by simp at h
 |a::l,0,x,y,h,hy=>by
  simp at h;subst h;rw[Nat.zero_mul,Ir,J4,List.set_cons_zero,J4,hy,List.set_append_left _ _ (by rw[hf];exact hj)]
 |a::l,i+1,x,y,h,hy=>by
  simp at h;rw[J4,List.set_cons_succ,J4,List.set_append_right _ _ (by rw[hf,Nat.succ_mul];omega),hf]
  congr 1
  rw[show (i+1)*k+j-k=i*k+j by rw[Nat.succ_mul];omega]
  exact Akk hf hj h hy
theorem Iv{c:Ae}{p:PV}{i:Nat}(h:i<c.length):B3 c [p] i=c.set i p:=by unfold B3;rw[List.set_eq_take_append_cons_drop,Ch h];simp
end
theorem Yr{α:Type}{l:List α}{i:Nat}{x:α}(h:l[i]?=some x):i<l.length:=by
 rcases Is i l.length with h1|h1
 ·exact h1
 ·rw[List.getElem?_eq_none h1] at h;cases h
abbrev Ayx(k:IntKind)(n:Int):Ae:=[.sc (.int k n)]
abbrev Af(k:IntKind)(l:Al):Ae:=l.flatMap (Ayx k)
theorem CN(k:IntKind)(n:Int):(Ayx k n).length=1:=rfl
theorem R6{k:IntKind}{l:Al}{i:Nat}{n:Int}(h:l[i]?=some n):(Af k l).getD i .top=.sc (.int k n):=by
 have:=IE (CN k) h (j:=0) (by omega)
 simpa using this
theorem An(k:IntKind)(l:Al):(Af k l).length=l.length:=by rw[RT (CN k)];omega
theorem Nd(k:IntKind)(l:Al)(n:Int):Af k l++[.sc (.int k n)]=Af k (l++[n]):=by simp
theorem LY(k:IntKind)(l:Al):List.take l.length (Af k l)=Af k l:=Iu (by rw[An];omega)
theorem Agw{a m:Int}(h0:0<=m)(h1:m<9223372036854775808):0<=Du .i64 a m/\Du .i64 a m<=m:=by
 have Ys:(BitVec.ofInt 64 a &&& BitVec.ofInt 64 m).toNat<=m.toNat:=by
  rw[BitVec.toNat_and];refine Nat.le_trans Nat.and_le_right ?_;rw[BitVec.toNat_ofInt];omega
 have:Du .i64 a m=((BitVec.ofInt 64 a &&& BitVec.ofInt 64 m).toNat:Int):=by
  unfold Du;exact wrap_i64 (by omega) (by show ((BitVec.ofInt 64 a &&& BitVec.ofInt 64 m).toNat:Int)<=_;omega)
 rw[this];omega
theorem Be:type_of% @DN/\type_of% @MM/\type_of% @DO/\type_of% @KT/\type_of% @Abd/\type_of% @TM/\type_of% @Asl/\type_of% @A17/\type_of% @A2v/\type_of% @Ava/\type_of% @Ame/\type_of% @Arw/\type_of% @Gw/\type_of% @Avy/\type_of% @Ac8/\type_of% @Alh/\type_of% @Ac5/\type_of% @Acd/\type_of% @FW/\type_of% @F7/\type_of% @Aly/\type_of% @Bool.not_true/\type_of% @Bool.not_false/\type_of% @Bool.false_eq_true/\type_of% @if_true.{1}/\type_of% @if_false.{1}/\type_of% @Bool.true_and/\type_of% @Bool.and_true/\type_of% @Bool.false_and/\type_of% @Bool.and_false/\type_of% @decide_true/\type_of% @decide_false:=
 ⟨@DN,@MM,@DO,@KT,@Abd,@TM,@Asl,@A17,@A2v,@Ava,@Ame,@Arw,@Gw,@Avy,@Ac8,@Alh,@Ac5,@Acd,@FW,@F7,@Aly,@Bool.not_true,@Bool.not_false,@Bool.false_eq_true,@if_true.{1},@if_false.{1},@Bool.true_and,@Bool.and_true,@Bool.false_and,@Bool.and_false,@decide_true,@decide_false⟩
theorem gT:type_of% @Bool.and_eq_true/\type_of% @decide_eq_true_eq/\type_of% @beq_iff_eq.{0}/\type_of% @bne_iff_ne.{0}/\type_of% @ne_eq.{1}/\type_of% @Bool.not_eq_true'/\type_of% @true_and/\type_of% @and_true:=
 ⟨@Bool.and_eq_true,@decide_eq_true_eq,@beq_iff_eq.{0},@bne_iff_ne.{0},@ne_eq.{1},@Bool.not_eq_true',@true_and,@and_true⟩
theorem gF:type_of% @decide_eq_false_iff_not/\type_of% @beq_eq_false_iff_ne.{0}/\type_of% @bne_eq_false_iff_eq.{0}/\type_of% @ne_eq.{1}/\type_of% @Bool.not_eq_false':=
 ⟨@decide_eq_false_iff_not,@beq_eq_false_iff_ne.{0},@bne_eq_false_iff_eq.{0},@ne_eq.{1},@Bool.not_eq_false'⟩
section
open Go.RowKit
def Bw{α β:Type}(R:α->β->Prop):List α->List β->Prop
 |[],[]=>True
 |a::zs,b::bs=>R a b/\Bw R zs bs
 |_,_=>False
section
variable {α β γ:Type}{R S:α->β->Prop}
theorem Bw.len:∀{zs:List α}{bs:List β},Bw R zs bs->zs.length=bs.length
 |[],[],_=>rfl
 |_::_,_::_,h=>by simp[Bw.len h.2]
 |[],_::_,h=>h.elim
 |_::_,[],h=>h.elim
theorem Bw.at_:∀{zs:List α}{bs:List β},Bw R zs bs->∀{i:Nat} {a b},zs[i]?=some a->bs[i]?=some b->R a b
 |[],[],_,i,a,b,h,_=>by simp at h
 |_::_,_::_,h,0,a,b,ha,hb=>by simp at ha hb;subst ha;subst hb;exact h.1
 |_::_,_::_,h,i+1,a,b,ha,hb=>by simp at ha hb;exact Bw.at_ h.2 ha hb
 |[],_::_,h,_,_,_,_,_=>h.elim
 |_::_,[],h,_,_,_,_,_=>h.elim
theorem Bw.of_at:∀{zs:List α}{bs:List β},zs.length=bs.length->(∀(i:Nat) a b,zs[i]?=some a->bs[i]?=some b->R a b)->Bw R zs bs
 |[],[],_,_=>trivial
 |a::zs,b::bs,hl,h=>⟨h 0 a b rfl rfl,Bw.of_at (by simpa using hl) fun i x y hx hy=>h (i+1) x y hx hy⟩
 |[],_::_,hl,_=>by simp at hl
 |_::_,[],hl,_=>by simp at hl
theorem Bw.mono(hRS:∀a b,R a b->S a b):∀{zs:List α}{bs:List β},Bw R zs bs->Bw S zs bs
 |[],[],_=>trivial
 |_::_,_::_,h=>⟨hRS _ _ h.1,Bw.mono hRS h.2⟩
 |[],_::_,h=>h.elim
 |_::_,[],h=>h.elim
theorem Bw.mono_mem:∀{zs:List α}{bs:List β},(∀a∈zs,∀b,R a b->S a b)->Bw R zs bs->Bw S zs bs
 |[],[],_,_=>trivial
 |a::_,_::_,hRS,h=>⟨hRS a (by simp) _ h.1,Bw.mono_mem (fun x hx=>hRS x (by simp[hx])) h.2⟩
 |[],_::_,_,h=>h.elim
 |_::_,[],_,h=>h.elim
theorem Bw.app:∀{zs:List α}{bs:List β}{as':List α}{bs':List β},Bw R zs bs->Bw R as' bs'->Bw R (zs++as') (bs++bs')
 |[],[],_,_,_,h'=>h'
 |_::_,_::_,_,_,h,h'=>⟨h.1,Bw.app h.2 h'⟩
 |[],_::_,_,_,h,_=>h.elim
 |_::_,[],_,_,h,_=>h.elim
theorem Bw.take:∀(n:Nat){zs:List α}{bs:List β},Bw R zs bs->Bw R (zs.take n) (bs.take n)
 |0,_,_,_=>by simp[Bw]
 |_+1,[],[],_=>trivial
 |n+1,_::_,_::_,h=>⟨h.1,Bw.take n h.2⟩
 |_+1,[],_::_,h=>h.elim
 |_+1,_::_,[],h=>h.elim
theorem Bw.drop:∀(n:Nat){zs:List α}{bs:List β},Bw R zs bs->Bw R (zs.drop n) (bs.drop n)
 |0,_,_,h=>h
 |_+1,[],[],_=>trivial
 |n+1,_::_,_::_,h=>Bw.drop n h.2
 |_+1,[],_::_,h=>h.elim
 |_+1,_::_,[],h=>h.elim
end
inductive Az(w:World)(A:Nat->Prop):PV->Value->Prop where
 |sc (v:Value):Az w A (.sc v) v
 |top (v:Value):Az w A .top v
 |ub (b:Bool):Az w A .ub (.bool b)
 |lnil (z:Bool) (es:Nat):Az w A (.lst z es 0 []) (.slice none 0 0)
 |lemp (es:Nat) (a:Addr) (cap:Nat):Az w A (.lst false es 0 []) (.slice (some a) 0 cap)
 |lst (es n:Nat) (cells:Ae) (a:Addr) (cap:Nat) (f:Nat->Value) (hs:a.spot=none) (hb:a.block<w.heap.size) (hA:¬A a.block) (hn:n<=cap)
   (hc:∀j c,cells[j]?=some c->w.cell? (a.add j)=some (f j)) (h1:∀j c,cells[j]?=some c->(f j).oneCell'=true) (hr:∀j c,cells[j]?=some c->Az w A c (f j)):Az w A (.lst false es n cells) (.slice (some a) n cap)
def bsz(w:World)(b:Nat):Nat:=
 match w.heap[b]? with
 |some (.cells c _ _)=>c.size
 |_=>0
def endF(w:World)(b:Nat):Bool:=w.frozen? ⟨b,bsz w b,none⟩
def Fit(w:World)(es b e:Nat):Prop:=e<=bsz w b/\(es=1\/endF w b=false)
def Fp(w w':World)(b:Nat):Prop:=bsz w b<=bsz w' b/\(endF w b=false->endF w' b=false)
theorem Fp.refl(w:World)(b:Nat):Fp w w b:=⟨Cd _,id⟩
theorem Fp.same{w w':World}{b:Nat}(h:w'.heap[b]?=w.heap[b]?):Fp w w' b:=by
 have e:bsz w' b=bsz w b:=by unfold bsz;rw[h]
 refine⟨by rw[e];exact Cd _,fun q=>?_⟩
 unfold endF at q ⊢;rw[e];unfold World.frozen? at q ⊢;simp only[h];exact q
theorem Fp.trans{w w' w'':World}{b:Nat}(h:Fp w w' b)(h':Fp w' w'' b):Fp w w'' b:=⟨Nat.le_trans h.1 h'.1,fun q=>h'.2 (h.2 q)⟩
theorem Fit.step{w w':World}{es b e:Nat}(h:Fit w es b e)(hb:Fp w w' b):Fit w' es b e:=⟨Nat.le_trans h.1 hb.1,h.2.imp id hb.2⟩
def WO(w:World)(A:Nat->Prop)(a:Addr)(cells:Ae):Prop:=∀j c,cells[j]?=some c->∃v,w.cell? (a.add j)=some v/\v.oneCell'=true/\Az w A c v
def Cj(w:World)(A:Nat->Prop)(β:Nat->Option (Nat × Nat))(p:PV)(v:Value):Prop:=
 match p with
 |.view id es off n=>(β id=none/\off=0/\n=0/\∃ad,v=.slice ad 0 0) \/
   ∃b o x cap,β id=some (b,o)/\v=.slice (some ⟨b,x,none⟩) n cap/\(x=o+off\/(n=0/\off≠0))/\n<=cap/\Fit w es b (x+cap*es)/\b<w.heap.size
 |.ptr id off=>∃b o,β id=some (b,o)/\v=.pointer (some ⟨b,o+off,none⟩)
 |.iptr c off=>∃a:Addr,v=.pointer (some (a.add off))/\a.spot=none/\a.block<w.heap.size/\¬A a.block/\WO w A a c
 |p=>Az w A p v
def H8(w:World)(A:Nat->Prop)(β:Nat->Option (Nat × Nat))(p:PV)(v:Value):Prop:=
 match p with
 |.agg cs=>∃vs,v=.agg ⟨vs⟩/\Bw (Cj w A β) cs vs
 |p=>Cj w A β p v
def E2(w:World)(A:Nat->Prop)(β:Nat->Option (Nat × Nat))(p:PV)(v:Value):Prop:=
 match p with
 |.tup ps=>∃vs,v=.tuple ⟨vs⟩/\Bw (H8 w A β) ps vs
 |p=>H8 w A β p v
structure Cs(A:Nat->Prop)(w w':World):Prop where
 size:w.heap.size<=w'.heap.size
 keep:∀b,b<w.heap.size->¬A b->w'.heap[b]?=w.heap[b]?
 bs:∀b,b<w.heap.size->Fp w w' b
theorem F5(a:Addr)(j:Nat):(a.add j).block=a.block:=by unfold Addr.add;split<;>rfl
theorem add_add(a:Addr)(i j:Nat):(a.add i).add j=a.add (i+j):=by unfold Addr.add;by_cases hi:i=0<;>by_cases hj:j=0<;>simp[hi,hj,Jq]
theorem Et(b o j:Nat):(⟨b,o,none⟩:Addr).add j=⟨b,o+j,none⟩:=by unfold Addr.add;by_cases hj:j=0<;>simp[hj]
theorem Awr{a:Addr}(h:a.spot=none)(j:Nat):(a.add j).spot=none:=by unfold Addr.add;split<;>simp[h]
section
variable {w w':World}{A A':Nat->Prop}{β β':Nat->Option (Nat × Nat)}
theorem Cs.cell(h:Cs A w w'){a:Addr}(hb:a.block<w.heap.size)(hA:¬A a.block):w'.cell? a=w.cell? a:=
 World.cell?_of_block (h.keep a.block hb hA)
theorem Az.step(h:Cs A w w')(hA:∀b,b<w.heap.size->A' b->A b){p:PV}{v:Value}(t:Az w A p v):Az w' A' p v:=by
 induction t with
 |sc v=>exact .sc v
 |top v=>exact .top v
 |ub b=>exact .ub b
 |lnil z es=>exact .lnil z es
 |lemp es a cap=>exact .lemp es a cap
 |lst es n cells a cap f hs hb hA1 hn hc h1 hr ih=>
  refine .lst es n cells a cap f hs (F4 hb h.size) (fun x=>hA1 (hA _ hb x)) hn (fun j c hj=>?_) h1 (fun j c hj=>ih j c hj);rw[h.cell (by rw[F5];exact hb) (by rw[F5];exact hA1)]
  exact hc j c hj
theorem WO.step(h:Cs A w w')(hA:∀b,b<w.heap.size->A' b->A b){a:Addr}(hb:a.block<w.heap.size)(hn:¬A a.block){cells:Ae}(t:WO w A a cells):WO w' A' a cells:=by intro j c hj;obtain⟨v,hv,h1,ht⟩:=t j c hj;exact⟨v,by rw[h.cell (by rw[F5];exact hb) (by rw[F5];exact hn)];exact hv,h1,ht.step h hA⟩
theorem Cj.step(h:Cs A w w')(hA:∀b,b<w.heap.size->A' b->A b){p:PV}{v:Value}(hβ:∀id∈Ay p,β' id=β id)(t:Cj w A β p v):Cj w' A' β' p v:=by
 cases p with
 |view id es off n=>
  have e:=hβ id (by simp[Ay]);rcases t with⟨h1,h2,h3,h4⟩|⟨b,o,x,cap,h1,h2,hx,h3,h4,h5⟩
  ·exact .inl ⟨by rw[e];exact h1,h2,h3,h4⟩
  ·exact .inr ⟨b,o,x,cap,by rw[e];exact h1,h2,hx,h3,h4.step (h.bs b h5),F4 h5 h.size⟩
 |ptr id off=>
  have e:=hβ id (by simp[Ay]);obtain⟨b,o,h1,h2⟩:=t;exact⟨b,o,by rw[e];exact h1,h2⟩
 |iptr c off=>
  obtain⟨a,h1,h2,h3,h4,h5⟩:=t;exact⟨a,h1,h2,F4 h3 h.size,fun x=>h4 (hA _ h3 x),h5.step h hA h3 h4⟩
 |sc v=>exact Az.step h hA t
 |lst z es n c=>exact Az.step h hA t
 |own es n c=>exact Az.step h hA t
 |pbox c=>exact Az.step h hA t
 |agg c=>exact Az.step h hA t
 |tup c=>exact Az.step h hA t
 |top=>exact Az.step h hA t
 |ub=>exact Az.step h hA t
theorem H8.step(h:Cs A w w')(hA:∀b,b<w.heap.size->A' b->A b){p:PV}{v:Value}(hβ:∀id∈Co p,β' id=β id)(t:H8 w A β p v):H8 w' A' β' p v:=by
 cases p with
 |agg cs=>
  obtain⟨vs,rfl,h2⟩:=t;exact⟨vs,rfl,h2.mono_mem fun c hc v hv=>hv.step h hA fun id B1=>hβ id (by simp only[Co,List.mem_flatMap];exact⟨c,hc,B1⟩)⟩
 |sc x=>exact Cj.step (p:=.sc x) h hA hβ t
 |lst x y z u=>exact Cj.step (p:=.lst x y z u) h hA hβ t
 |own x y z=>exact Cj.step (p:=.own x y z) h hA hβ t
 |view x y z u=>exact Cj.step (p:=.view x y z u) h hA hβ t
 |ptr x y=>exact Cj.step (p:=.ptr x y) h hA hβ t
 |iptr x y=>exact Cj.step (p:=.iptr x y) h hA hβ t
 |pbox x=>exact Cj.step (p:=.pbox x) h hA hβ t
 |tup x=>exact Cj.step (p:=.tup x) h hA hβ t
 |top=>exact Cj.step (p:=.top) h hA hβ t
 |ub=>exact Cj.step (p:=.ub) h hA hβ t
theorem E2.step(h:Cs A w w')(hA:∀b,b<w.heap.size->A' b->A b){p:PV}{v:Value}(hβ:∀id∈Cb p,β' id=β id)(t:E2 w A β p v):E2 w' A' β' p v:=by
 cases p with
 |tup cs=>
  obtain⟨vs,rfl,h2⟩:=t;exact⟨vs,rfl,h2.mono_mem fun c hc v hv=>hv.step h hA fun id B1=>hβ id (by simp only[Cb,List.mem_flatMap];exact⟨c,hc,B1⟩)⟩
 |sc x=>exact H8.step (p:=.sc x) h hA hβ t
 |lst x y z u=>exact H8.step (p:=.lst x y z u) h hA hβ t
 |own x y z=>exact H8.step (p:=.own x y z) h hA hβ t
 |view x y z u=>exact H8.step (p:=.view x y z u) h hA hβ t
 |ptr x y=>exact H8.step (p:=.ptr x y) h hA hβ t
 |iptr x y=>exact H8.step (p:=.iptr x y) h hA hβ t
 |pbox x=>exact H8.step (p:=.pbox x) h hA hβ t
 |top=>exact H8.step (p:=.top) h hA hβ t
 |ub=>exact H8.step (p:=.ub) h hA hβ t
 |agg x=>exact H8.step (p:=.agg x) h hA hβ t
theorem Cs.refl(A:Nat->Prop)(w:World):Cs A w w:=⟨Cd _,fun _ _ _=>rfl,fun _ _=>Fp.refl _ _⟩
theorem WO.weak(hA:∀b,b<w.heap.size->A' b->A b){a:Addr}{cells:Ae}(t:WO w A a cells):WO w A' a cells:=by intro j c hj;obtain⟨v,hv,h1,ht⟩:=t j c hj;exact⟨v,hv,h1,ht.step (Cs.refl A w) hA⟩
theorem Cs.trans{w'':World}(h:Cs A w w')(h':Cs A' w' w'')(hA:∀b,b<w.heap.size->A' b->A b):Cs A w w'':=
  ⟨Nat.le_trans h.size h'.size,fun b hb hn=>(h'.keep b (F4 hb h.size) (fun x=>hn (hA b hb x))).trans (h.keep b hb hn),
   fun b hb=>(h.bs b hb).trans (h'.bs b (F4 hb h.size))⟩
theorem Cs.weaken(h:Cs A w w')(hA:∀b,b<w.heap.size->A b->A' b):Cs A' w w':=⟨h.size,fun b hb hn=>h.keep b hb (fun x=>hn (hA b hb x)),h.bs⟩
end
section
variable {R:Type}{r:R}
theorem Fz{k:IntKind}{p:PV}{K:Int->Option R}(h:Bk k p K=some r):∃n,p=.sc (.int k n)/\K n=some r:=by
 unfold Bk at h;split at h
 ·split at h
  ·rename_i hk;subst hk;exact⟨_,rfl,h⟩
  ·cases h
 ·cases h
theorem E3{p:PV}{K:Bool->Option R}(h:Bn p K=some r):∃b,p=.sc (.bool b)/\K b=some r:=by
 unfold Bn at h;split at h
 ·exact⟨_,rfl,h⟩
 ·cases h
theorem Ep{p:PV}{K:ByteArray->Option R}(h:Bi p K=some r):∃b,p=.sc (.string b)/\K b=some r:=by
 unfold Bi at h;split at h
 ·exact⟨_,rfl,h⟩
 ·cases h
theorem Em{p:PV}{K:IntKind->Int->Option R}(h:Ev p K=some r):∃k n,p=.sc (.int k n)/\K k n=some r:=by
 unfold Ev at h;split at h
 ·exact⟨_,_,rfl,h⟩
 ·cases h
theorem Aq{b:Bool}{K:Option R}(h:Ar b K=some r):b=true/\K=some r:=by
 unfold Ar at h;cases b
 ·cases h
 ·exact⟨rfl,h⟩
theorem C9{α:Type}{o:Option α}{K:α->Option R}(h:Ea o K=some r):∃a,o=some a/\K a=some r:=by
 unfold Ea at h;split at h
 ·exact⟨_,rfl,h⟩
 ·cases h
theorem Bo{α:Type}{l:List α}{K:α->List α->Option R}(h:Ad l K=some r):∃a t,l=a::t/\K a t=some r:=by
 unfold Ad at h;split at h
 ·exact⟨_,_,rfl,h⟩
 ·cases h
theorem Es{α:Type}{l:List α}{K:Option R}(h:Ak l K=some r):l=[]/\K=some r:=by
 unfold Ak at h;split at h
 ·exact⟨rfl,h⟩
 ·cases h
theorem Jw{p:PV}{K:Ae->Option R}(h:Eo p K=some r):∃c,p=.agg c/\K c=some r:=by
 unfold Eo at h;split at h
 ·exact⟨_,rfl,h⟩
 ·cases h
theorem YT{p:PV}{K:Ae->Option R}(h:AN p K=some r):∃c,p=.pbox c/\K c=some r:=by
 unfold AN at h;split at h
 ·exact⟨_,rfl,h⟩
 ·cases h
theorem Am5{p:PV}{K:Value->Option R}(h:fnK p K=some r):∃v,p=.sc v/\v.oneCell'=true/\K v=some r:=by
 unfold fnK at h;split at h
 ·exact⟨_,rfl,rfl,h⟩
 ·exact⟨_,rfl,rfl,h⟩
 ·cases h
theorem A0l{p:PV}{K:FuncId->Option R}(h:fvK p K=some r):∃f,p=.sc (.func (.func f) #[] #[])/\K f=some r:=by
 unfold fvK at h;split at h
 ·rename_i f a b;cases hb:(a.isEmpty&&b.isEmpty)<;>rw[hb] at h
  ·cases h
  ·simp only[Fe,Array.isEmpty_iff] at hb;rw[hb.1,hb.2];exact⟨f,rfl,h⟩
 ·cases h
theorem Aa0{o:Option Bq}{K:Ae->List Ae->Option R}(h:Aw o K=some r):∃v x,o=some ⟨v,x⟩/\K v x=some r:=by
 unfold Aw at h;split at h
 ·exact⟨_,_,rfl,h⟩
 ·cases h
theorem Rv{b:Bool}{x y:Option R}(h:Ax b x y=some r):(b=true/\x=some r)\/(b=false/\y=some r):=by
 unfold Ax at h;cases b
 ·exact .inr ⟨rfl,h⟩
 ·exact .inl ⟨rfl,h⟩
theorem Ha{es:Nat}{p:PV}{K:Bool->Nat->Ae->Option R}(h:Xs es p K=some r):
  ∃z n c,K z n c=some r/\(p=.lst z es n c\/(p=.sc (.slice none 0 0)/\z=true/\n=0/\c=[])):=by
 unfold Xs at h;split at h
 ·rename_i z es' n c;cases hb:Nat.beq es' es
  ·rw[hb] at h;cases h
  ·rw[hb] at h;have:=Dz hb;subst this;exact⟨z,n,c,h,.inl rfl⟩
 ·exact⟨true,0,[],h,.inr ⟨rfl,rfl,rfl,rfl⟩⟩
 ·cases h
def FB:PV->Prop
 |.sc _=>True
 |.lst _ _ _ _=>True
 |_=>False
def YC:PV->Prop
 |.sc _=>True
 |.lst _ _ _ _=>True
 |.view _ _ _ _=>True
 |_=>False
theorem Yb{c:PV}(h:FB c):YC c:=by cases c<;>first|trivial|exact h.elim
theorem Ka{c:PV}(h:FB c):Ay c=[]:=by cases c<;>first|rfl|exact h.elim
variable {w:World}{A:Nat->Prop}{β:Nat->Option (Nat × Nat)}
theorem Qm{c:PV}{v:Value}(h:FB c):Cj w A β c v↔Az w A c v:=by cases c<;>first|exact Iff.rfl|exact h.elim
theorem X8{c:PV}{v:Value}(h:∀cs,c ≠ .agg cs):H8 w A β c v↔Cj w A β c v:=by cases c<;>first|exact Iff.rfl|exact absurd rfl (h _)
theorem Pi{c:PV}{v:Value}(h:∀cs,c ≠ .tup cs):E2 w A β c v↔H8 w A β c v:=by cases c<;>first|exact Iff.rfl|exact absurd rfl (h _)
theorem KI{c:PV}(h:FB c)(cs:Ae):c ≠ .agg cs:=by rintro rfl;exact h
theorem Amf{c:PV}(h:FB c)(cs:Ae):c ≠ .tup cs:=by rintro rfl;exact h
theorem Az.val{v u:Value}(h:Az w A (.sc v) u):u=v:=by cases h;rfl
theorem GF{es n:Nat}{z:Bool}{c:Ae}{p:PV}{v:Value}(h:p=.lst z es n c\/(p=.sc (.slice none 0 0)/\z=true/\n=0/\c=[]))(hv:Cj w A β p v):Az w A (.lst z es n c) v:=by
 rcases h with rfl|⟨rfl,rfl,rfl,rfl⟩
 ·exact hv
 ·have:=Az.val (w:=w) (A:=A) hv;subst this;exact .lnil true es
theorem Rr{t:CT}{p:PV}{K:PV->Option R}(h:NQ t p K=some r):
  ∃c,K c=some r/\FB c/\FB p/\∀(w:World) (A:Nat->Prop) (β:Nat->Option (Nat × Nat)) (v:Value),Cj w A β p v->Az w A c v/\v.oneCell'=true:=by
 cases t with
 |int k=>obtain⟨n,rfl,h2⟩:=Fz h;exact⟨_,h2,trivial,trivial,fun w A β v hv=>⟨hv,by have:=Az.val (w:=w) (A:=A) hv;subst this;rfl⟩⟩
 |bool=>obtain⟨n,rfl,h⟩:=E3 h;exact⟨_,h,trivial,trivial,fun w A β v hv=>⟨hv,by have:=Az.val (w:=w) (A:=A) hv;subst this;rfl⟩⟩
 |str=>obtain⟨n,rfl,h⟩:=Ep h;exact⟨_,h,trivial,trivial,fun w A β v hv=>⟨hv,by have:=Az.val (w:=w) (A:=A) hv;subst this;rfl⟩⟩
 |sl es=>
  obtain⟨z,n,c,h,hp⟩:=Ha h;refine⟨_,h,trivial,?_,fun w A β v hv=>⟨GF hp hv,?_⟩⟩
  ·rcases hp with rfl|⟨rfl,_⟩<;>trivial
  ·have ht:=GF hp hv;cases ht<;>rfl
 |any=>
  obtain⟨u,rfl,h1,h2⟩:=Am5 (show fnK p (fun v=>K (.sc v))=some r from h);exact⟨_,h2,trivial,trivial,fun w A β v hv=>⟨hv,by have:=Az.val (w:=w) (A:=A) hv;subst this;exact h1⟩⟩
theorem Ayg{t:CT}{p:PV}{K:PV->Option R}(h:fcK t p K=some r):
  ∃c,K c=some r/\(FB c\/c=p)/\YC p/\p ≠ .top/\(∀cs,c ≠ .agg cs)/\(∀cs,c ≠ .tup cs)/\(∀id,id∈Ay c->id∈Ay p)/\∀(w:World) (A:Nat->Prop) (β:Nat->Option (Nat × Nat)) (v:Value),Cj w A β p v->Cj w A β c v/\v.oneCell'=true:=by
 have tree:∀t',NQ t' p K=some r->∃c,K c=some r/\(FB c\/c=p)/\YC p/\p ≠ .top/\(∀cs,c ≠ .agg cs)/\(∀cs,c ≠ .tup cs)/\(∀id,id∈Ay c->id∈Ay p)/\∀(w:World) (A:Nat->Prop) (β:Nat->Option (Nat × Nat)) (v:Value),Cj w A β p v->Cj w A β c v/\v.oneCell'=true:=by
  intro t' h;obtain⟨c,h,hc,hp,hv⟩:=Rr h;exact⟨c,h,.inl hc,Yb hp,by rintro rfl;exact hp,KI hc,Amf hc,by rw[Ka hc];simp,fun w A β v h=>⟨(Qm hc).2 (hv w A β v h).1,(hv w A β v h).2⟩⟩
 cases t with
 |sl es=>
  unfold fcK fsK at h;dsimp only at h;split at h
  ·rename_i id es' off n;cases hb:Nat.beq es' es
   ·rw[hb] at h;cases h
   ·rw[hb] at h;have:=Dz hb;subst this;exact⟨_,h,.inr rfl,trivial,by simp,by simp,by simp,fun _ h=>h,fun _ _ _ _ h=>⟨h,by rcases h with⟨_,_,_,_,rfl⟩|⟨_,_,_,_,_,rfl,_⟩<;>rfl⟩⟩
  ·exact tree (.sl es) h
 |int k=>exact tree (.int k) h
 |bool=>exact tree (.bool) h
 |str=>exact tree (.str) h
 |any=>exact tree (.any) h
theorem OT{cells:Ae}{i:Nat}{p:PV}(h:cells.getD i .top=p)(hp:p ≠ .top):cells[i]?=some p:=by
 rw[List.getD_eq_getElem?_getD] at h;cases hc:cells[i]? with
 |none=>rw[hc] at h;exact absurd h.symm hp
 |some q=>rw[hc] at h;simp at h;rw[h]
theorem BZ:∀{ts:List CT}{cells:Ae}{off:Nat}{K:Ae->Option R},Zz ts cells off K=some r ->
  ∃cs,K cs=some r/\cs.length=ts.length/\∀j c,cs[j]?=some c->FB c/\∃p,cells[off+j]?=some p/\FB p /\
   ∀(w:World) (A:Nat->Prop) (β:Nat->Option (Nat × Nat)) (v:Value),Cj w A β p v->Az w A c v/\v.oneCell'=true
 |[],_,_,_,h=>⟨[],h,rfl,fun j c hj=>by simp at hj⟩
 |t::ts,cells,off,K,h=>by
  unfold Zz at h;obtain⟨c,h,hc,hp,hv⟩:=Rr h;obtain⟨cs,h,hl,Z5⟩:=BZ h;refine⟨c::cs,h,by simp[hl],fun j c' hj=>?_⟩;cases j with
  |zero=>
   simp at hj;subst hj;refine⟨hc,cells.getD off .top,OT rfl ?_,hp,hv⟩;intro e;rw[e] at hp;exact hp
  |succ j=>
   simp at hj;have:=Z5 j c' hj
   rwa [Nat.add_right_comm,Jq] at this
theorem AR:∀{ts:List CT}{cells:Ae}{off:Nat}{K:Ae->Option R},Ub ts cells off K=some r ->
  ∃cs,K cs=some r/\cs.length=ts.length/\(∀c∈cs,(∀x,c ≠ .agg x)/\(∀x,c ≠ .tup x))/\∀j c,cs[j]?=some c->∃p,cells[off+j]?=some p/\YC p/\(∀id,id∈Ay c->id∈Ay p) /\
   ∀(w:World) (A:Nat->Prop) (β:Nat->Option (Nat × Nat)) (v:Value),Cj w A β p v->Cj w A β c v/\v.oneCell'=true
 |[],_,_,_,h=>⟨[],h,rfl,by simp,fun j c hj=>by simp at hj⟩
 |t::ts,cells,off,K,h=>by
  unfold Ub at h;obtain⟨c,h,hc,hf,hp,ha,ht,hr,hv⟩:=Ayg h;obtain⟨cs,h,hl,NC,Z5⟩:=AR h;refine⟨c::cs,h,by simp[hl],?_,fun j c' hj=>?_⟩
  ·intro x hx;rcases Ce.1 hx with rfl|hx
   ·exact⟨ha,ht⟩
   ·exact NC x hx
  ·cases j with
   |zero=>
    simp at hj;subst hj;exact⟨cells.getD off .top,OT rfl hp,hf,hr,hv⟩
   |succ j=>
    simp at hj;have:=Z5 j c' hj
    rwa [Nat.add_right_comm,Jq] at this
theorem Aci{agg:Bool}{cells:Ae}{K:PV->Option R}(h:mkV agg cells K=some r):
  (agg=true/\K (.agg cells)=some r)\/(agg=false/\∃c,cells=[c]/\K c=some r):=by
 unfold mkV at h;cases agg
 ·obtain⟨c,t,rfl,h⟩:=Bo h;obtain⟨rfl,h⟩:=Es h;exact .inr ⟨rfl,c,rfl,h⟩
 ·exact .inl ⟨rfl,h⟩
end
open Go.RowKit
def Dg(b:Option Ca):Prop:=
 match b with
 |some (.st _)=>True
 |some (.ar false _)=>True
 |_=>False
abbrev Bt:=Nat->Option (Nat × Nat)
def IM(hp:Nat->Option Ca)(β:Bt)(b:Nat):Prop:=∃id o,Dg (hp id)/\β id=some (b,o)
def Dv(hp:Nat->Option Ca)(β:Bt)(Y:Nat->Prop)(b:Nat):Prop:=IM hp β b\/Y b
def Wd(w:World)(A:Nat->Prop)(β:Bt)(id:Nat)(bx:Ca):Prop:=
 match bx with
 |.st cells=>∃b o,β id=some (b,o)/\(∀j c,cells[j]?=some c->∃v,w.cell? ⟨b,o+j,none⟩=some v/\Cj w A β c v)/\∀j,j<cells.length->w.frozen? ⟨b,o+j,none⟩=false
 |.ar fz cells=>(β id=none/\cells=[])\/∃b o,β id=some (b,o)/\WO w A ⟨b,o,none⟩ cells/\(fz=false->∀j,o<=j->j<bsz w b->w.frozen? ⟨b,j,none⟩=false)/\(fz=true->¬A b)
 |.mv=>True
structure Gc where
 X:Nat->Prop
 L:Nat->Nat->Prop
 pn:Nat->Prop
 pt:Nat->Option (Nat × Nat)
 p8:∀i,pn i->i<8
def BR(bx:Ca)(o j:Nat):Prop:=
 match bx with
 |.st c=>o<=j/\j<o+c.length
 |.ar _ _=>o<=j
 |.mv=>False
structure Fr(X0:Gc)(w0 w:World):Prop where
 os:w.os=w0.os
 tape:w.tape=w0.tape
 output:w.output=w0.output
 step:Cs X0.X w0 w
 rng:∀b j,b<w0.heap.size->¬X0.L b j->w.cell? ⟨b,j,none⟩=w0.cell? ⟨b,j,none⟩/\w.frozen? ⟨b,j,none⟩=w0.frozen? ⟨b,j,none⟩
structure Cg(N:Nat)(w0:World)(X0:Gc)(Y:Nat->Prop)(β:Bt)(s:St)(a:Act)(w:World):Prop where
 dfr:a.defers=[]
 tsz:a.tmps.size=N
 tmo:∀i,N<=i->s.tm i=.top
 tms:∀i,i<N->E2 w (Dv s.hp β Y) β (s.tm i) (a.tmps.getD i undef)
 box:∀id b,s.hp id=some b->Wd w (Dv s.hp β Y) β id b
 inj:∀id id' b o o',Dg (s.hp id)->Dg (s.hp id')->β id=some (b,o)->β id'=some (b,o')->id=id'
 blt:∀id b o,s.hp id≠none->β id=some (b,o)->b<w.heap.size
 wfT:∀i,i<N->∀id∈Cb (s.tm i),s.hp id≠none
 wfB:∀id cells,s.hp id=some (.st cells)->∀c∈cells,∀id'∈Ay c,s.hp id'≠none
 ownd:∀b,IM s.hp β b->X0.X b\/w0.heap.size<=b
 rngB:∀id bx b o,s.hp id=some bx->Dg (some bx)->β id=some (b,o)->b<w0.heap.size->∀j,BR bx o j->X0.L b j
 pin:∀i,X0.pn i->s.hp (D3 N i)≠none/\β (D3 N i)=X0.pt i
 stp:∀id c b o,s.hp id=some (.st c)->β id=some (b,o)->b<w0.heap.size->∃i,id=D3 N i/\X0.pn i
 Yx:∀b,Y b->¬IM s.hp β b
 Ylt:∀b,Y b->b<w0.heap.size
 fr:Fr X0 w0 w
theorem Dy{b:Option Ca}(h:Dg b):b≠none:=by rintro rfl;exact h
theorem Av{α:Type}(f:Nat->α)(i:Nat)(v:α):Dt f i v i=v:=by simp[Dt,Oq]
theorem Ao{α:Type}(f:Nat->α){i j:Nat}(v:α)(h:j≠i):Dt f i v j=f j:=by
 have:Nat.beq j i=false:=by
  cases hb:Nat.beq j i
  ·rfl
  ·exact absurd (Dz hb) h
 simp[Dt,this]
theorem LD{α:Type}(f:Nat->α){i:Nat}{v:α}(h:f i=v):Dt f i v=f:=by
 funext j
 by_cases e:j=i
 ·subst e;rw[Av];exact h.symm
 ·exact Ao f v e
theorem Ag6{α:Type}(f:Nat->α){i j:Nat}(u v:α)(h:i≠j):Dt (Dt f i u) j v=Dt (Dt f j v) i u:=by
 funext k
 by_cases e:k=j
 ·subst e;rw[Av,Ao _ _ (Ne.symm h),Av]
 ·rw[Ao _ _ e];by_cases e':k=i
  ·subst e';rw[Av,Av]
  ·rw[Ao _ _ e',Ao _ _ e',Ao _ _ e]
theorem YE{a:Act}{d:Nat}{v:Value}(h:d<a.tmps.size):(a.put (some d) v).tmps.getD d undef=v:=by simp[Act.put,h]
theorem VG{a:Act}{d i:Nat}{v:Value}(h:i≠d):(a.put (some d) v).tmps.getD i undef=a.tmps.getD i undef:=by have h':d≠i:=fun e=>h e.symm;simp[Act.put,Array.getElem?_setIfInBounds_ne h']
section
variable {N:Nat}{w0:World}{X0:Gc}{Y:Nat->Prop}{β β':Bt}{s:St}{a:Act}{w w':World}
theorem P6(d:Option Tmp)(v:Value):(a.put d v).tmps.size=a.tmps.size:=by cases d<;>simp[Act.put]
theorem Oz(d:Option Tmp)(v:Value):(a.put d v).defers=a.defers:=by cases d<;>rfl
theorem We{d:Option Tmp}(h:Io N d=true){i:Nat}(e:d=some i):i<N:=by subst e;exact Nat.lt_of_succ_le (Sn h)
theorem Um{Q:Nat->PV->Value->Prop}{tm:Nat->PV}{d:Option Tmp}{v:PV}{val:Value}(hN:a.tmps.size=N)(hd:Io N d=true)(h:∀i,i<N->Q i (tm i) (a.tmps.getD i undef))(hv:∀i,Q i v val):∀i,i<N->Q i (Cc tm d v i) ((a.put d val).tmps.getD i undef):=by
 intro i hi;cases d with
 |none=>exact h i hi
 |some d=>
  have Ci:=We hd rfl;by_cases e:i=d
  ·subst e;show Q i (Dt tm i v i) _;rw[Av,YE (by omega)];exact hv i
  ·show Q i (Dt tm d v i) _;rw[Ao _ _ e,VG e];exact h i hi
theorem Ack{tm:Nat->PV}{d:Option Tmp}{v:PV}(hd:Io N d=true)(h:∀i,N<=i->tm i=.top):∀i,N<=i->Cc tm d v i=.top:=by
 intro i hi;cases d with
 |none=>exact h i hi
 |some d=>
  have:=We hd rfl;show Dt tm d v i=_;rw[Ao _ _ (by omega)];exact h i hi
theorem Cg.put(h:Cg N w0 X0 Y β s a w){d:Option Tmp}{v:PV}{val:Value}(hd:Io N d=true)(hv:E2 w (Dv s.hp β Y) β v val)(hr:∀id∈Cb v,s.hp id≠none):
  Cg N w0 X0 Y β ⟨Cc s.tm d v,s.hp⟩ (a.put d val) w where
 dfr:=by rw[Oz];exact h.dfr
 tsz:=by rw[P6];exact h.tsz
 tmo:=Ack hd h.tmo
 tms:=Um (Q:=fun _ p u=>E2 w (Dv s.hp β Y) β p u) h.tsz hd h.tms (fun _=>hv)
 box:=h.box
 inj:=h.inj
 blt:=h.blt
 wfT:=by
  have:=Um (Q:=fun _ p _=>∀id∈Cb p,s.hp id≠none) (val:=val) h.tsz hd h.wfT (fun _=>hr);exact this
 wfB:=h.wfB
 ownd:=h.ownd
 rngB:=h.rngB
 pin:=h.pin
 stp:=h.stp
 Yx:=h.Yx
 Ylt:=h.Ylt
 fr:=h.fr
theorem Cp(hp:Nat->Option Ca)(ids:B7)(i:Nat):Ah hp ids i=if i∈ids then (hp i).map AO else hp i:=by
 unfold Ah;by_cases hi:i∈ids
 ·have:ids.any (Nat.beq i)=true:=List.any_eq_true.2 ⟨i,hi,Oq i⟩;rw[this,Ch hi];rfl
 ·have:ids.any (Nat.beq i)=false:=by
   cases hb:ids.any (Nat.beq i)
   ·rfl
   ·obtain⟨j,hj,e⟩:=List.any_eq_true.1 hb;exact absurd (Dz e ▸ hj) hi
  rw[this,Br hi];rfl
theorem Fc{hp:Nat->Option Ca}{ids:B7}{i:Nat}:Ah hp ids i=none↔hp i=none:=by rw[Cp];split<;>simp
theorem Un{hp:Nat->Option Ca}{ids:B7}{i:Nat}(h:Dg (Ah hp ids i)):Dg (hp i):=by
 rw[Cp] at h;split at h
 ·cases hb:hp i with
  |none=>rw[hb] at h;exact h
  |some b=>cases b with
   |st c=>trivial
   |ar fz c=>rw[hb] at h;exact h.elim
   |mv=>rw[hb] at h;exact h
 ·exact h
theorem L7{hp:Nat->Option Ca}{ids:B7}{i:Nat}{bx:Ca}(h:Ah hp ids i=some bx)(hl:Dg (some bx)):hp i=some bx:=by
 rw[Cp] at h;split at h
 ·cases hb:hp i with
  |none=>rw[hb] at h;cases h
  |some b=>
   rw[hb] at h;cases b with
   |st c=>exact h
   |ar fz c=>simp only[Option.map_some,AO,Option.some.injEq] at h;subst h;exact hl.elim
   |mv=>simp only[Option.map_some,AO,Option.some.injEq] at h;subst h;exact hl.elim
 ·exact h
theorem Xm{hp:Nat->Option Ca}{ids:B7}{b:Nat}(h:IM (Ah hp ids) β b):IM hp β b:=by obtain⟨id,o,hl,hb⟩:=h;exact⟨id,o,Un hl,hb⟩
theorem Wd.step'{A A':Nat->Prop}{id:Nat}{bx:Ca}(hA:∀b,A' b->A b)(h:Wd w A β id bx):Wd w A' β id bx:=by
 have hs:=Cs.refl A w;cases bx with
 |st c=>
  obtain⟨b,o,h1,h2,h3⟩:=h;exact⟨b,o,h1,fun j c hj=>let ⟨v,hv,hc⟩:=h2 j c hj;⟨v,hv,hc.step hs (fun b _=>hA b) (fun _ _=>rfl)⟩,h3⟩
 |ar fz c=>
  rcases h with h|⟨b,o,h1,h2,h3,h4⟩
  ·exact .inl h
  ·exact .inr ⟨b,o,h1,h2.weak (fun b _=>hA b),h3,fun e x=>h4 e (hA b x)⟩
 |mv=>trivial
theorem Cg.freeze(h:Cg N w0 X0 Y β s a w){fz:B7}(Zb:∀id∈fz,∃f c,s.hp id=some (.ar f c)):Cg N w0 X0 Y β ⟨s.tm,Ah s.hp fz⟩ a w:=by
 have hA:∀b,Dv (Ah s.hp fz) β Y b->Dv s.hp β Y b:=fun b hb=>hb.imp Xm id
 refine⟨h.dfr,h.tsz,h.tmo,fun i hi=>(h.tms i hi).step (Cs.refl _ _) (fun b _=>hA b) (fun _ _=>rfl),fun id b hb=>?_,fun id id' b o o' h1 h2=>h.inj id id' b o o' (Un h1) (Un h2),
  fun id b o hn=>h.blt id b o (fun e=>hn (Fc.2 e)),fun i hi id B1 e=>h.wfT i hi id B1 (Fc.1 e),fun id cells hc c hcm id' B1 e=>?_,fun b hb=>h.ownd b (Xm hb),
  fun id bx b o hb hl=>h.rngB id bx b o (L7 hb hl) hl,fun i hi=>⟨fun e=>(h.pin i hi).1 (Fc.1 e),(h.pin i hi).2⟩,fun id c b o hc=>h.stp id c b o (L7 hc trivial),fun b hb x=>h.Yx b hb (Xm x),h.Ylt,h.fr⟩
 ·simp only at hb;rw[Cp] at hb;split at hb
  ·rename_i hm;obtain⟨f,c,hc⟩:=Zb id hm;rw[hc] at hb;simp only[Option.map_some,AO,Option.some.injEq] at hb;subst hb;have Ms:=h.box id _ hc;rcases Ms with Ms|⟨b,o,h1,h2,h3,h4⟩
   ·exact .inl Ms
   ·refine .inr ⟨b,o,h1,h2.weak (fun b _=>hA b),(fun e=>by cases e),fun _ hb=>?_⟩;rcases hb with⟨id',o',hl,hb⟩|hY
    ·have XP:=Un hl;cases f with
     |true=>exact h4 rfl (.inl ⟨id',o',XP,hb⟩)
     |false=>
      have e:=h.inj id' id b o' o XP (by rw[hc];trivial) hb h1
      subst e;simp only at hl;rw[Cp,Ch hm,hc] at hl;exact hl
    ·cases f with
     |true=>exact h4 rfl (.inr hY)
     |false=>exact h.Yx b hY ⟨id,o,by rw[hc];trivial,h1⟩
  ·exact (h.box id b hb).step' hA
 ·simp only at hc;rw[Cp] at hc;refine h.wfB id cells ?_ c hcm id' B1 (Fc.1 e);split at hc
  ·rename_i hm;obtain⟨f,c,Yp⟩:=Zb id hm;rw[Yp] at hc;cases hc
  ·exact hc
theorem B9:∀{nw:List (Nat × Ca)} {hp:Nat->Option Ca},Cn hp nw=true ->
  (∀id bx,(id,bx)∈nw->hp id=none)/\(∀id bx bx',(id,bx)∈nw->(id,bx')∈nw->bx=bx')
 |[],_,_=>⟨by simp,by simp⟩
 |(i,b)::r,hp,h=>by
  simp only[Cn,Fe,Option.isNone_iff_eq_none,Bool.not_eq_true'] at h;obtain⟨⟨h1,h2⟩,h3⟩:=h;obtain⟨h4,h5⟩:=B9 h3
  have Gx:∀bx,(i,bx) ∉ r:=by
   intro bx hm;have:r.any (fun q=>Nat.beq q.1 i)=true:=List.any_eq_true.2 ⟨_,hm,Oq i⟩;rw[this] at h2;cases h2
  refine⟨fun id bx hm=>?_,fun id bx bx' hm Nz=>?_⟩
  ·rcases Ce.1 hm with e|hm
   ·cases e;exact h1
   ·exact h4 id bx hm
  ·rcases Ce.1 hm with e|hm
   ·cases e;rcases Ce.1 Nz with e|Nz
    ·cases e;rfl
    ·exact absurd Nz (Gx _)
   ·rcases Ce.1 Nz with e|Nz
    ·cases e;exact absurd hm (Gx _)
    ·exact h5 id bx bx' hm Nz
theorem Fs:∀{nw:List (Nat × Ca)} {hp:Nat->Option Ca},(∀id bx bx',(id,bx)∈nw->(id,bx')∈nw->bx=bx') ->
  (∀id bx,(id,bx)∈nw->A3 hp nw id=some bx)/\(∀id,(∀bx,(id,bx) ∉ nw)->A3 hp nw id=hp id)
 |[],_,_=>⟨by simp,fun _ _=>rfl⟩
 |(i,b)::r,hp,h=>by
  obtain⟨h1,h2⟩:=Fs (nw:=r) (hp:=Dt hp i (some b)) (fun id bx bx' hm Nz=>h id bx bx' (by simp[hm]) (by simp[Nz]));refine⟨fun id bx hm=>?_,fun id hn=>?_⟩
  ·by_cases hr:∃bx',(id,bx')∈r
   ·obtain⟨bx',hr⟩:=hr;have:=h id bx bx' hm (by simp[hr]);subst this;exact h1 id bx hr
   ·rcases Ce.1 hm with e|hm
    ·cases e;show A3 (Dt hp i (some b)) r i=_;rw[h2 i (fun bx' hb=>hr ⟨bx',hb⟩),Av]
    ·exact absurd ⟨bx,hm⟩ hr
  ·show A3 (Dt hp i (some b)) r id=_;rw[h2 id (fun bx hb=>hn bx (by simp[hb])),Ao]
   rintro rfl
   exact hn b (by simp)
structure YW(Y:Nat->Prop)(β:Bt)(s:St)(w:World)(v:PV)(nw:List (Nat × Ca))(val:Value)(w':World)(β':Bt):Prop where
 os:w'.os=w.os
 tape:w'.tape=w.tape
 output:w'.output=w.output
 ext:Cs (fun _=>False) w w'
 old:∀id,s.hp id≠none->β' id=β id
 nlive:∀id bx,(id,bx)∈nw->Dg (some bx)
 nbox:∀id bx,(id,bx)∈nw->Wd w' (Dv (A3 s.hp nw) β' Y) β' id bx
 nblk:∀id bx b o,(id,bx)∈nw->β' id=some (b,o)->w.heap.size<=b/\b<w'.heap.size
 ninj:∀id bx id' bx' b o o',(id,bx)∈nw->(id',bx')∈nw->β' id=some (b,o)->β' id'=some (b,o')->id=id'
 nwf:∀id cells,(id,.st cells)∈nw->∀c∈cells,∀id'∈Ay c,s.hp id'≠none\/∃bx,(id',bx)∈nw
 val:E2 w' (Dv (A3 s.hp nw) β' Y) β' v val
 vwf:∀id∈Cb v,s.hp id≠none\/∃bx,(id,bx)∈nw
theorem Cg.stepR(h:Cg N w0 X0 Y β s a w){d:Option Tmp}{v:PV}{nw:List (Nat × Ca)}{val:Value}(hd:Io N d=true)(Vq:Cn s.hp nw=true)(st:YW Y β s w v nw val w' β'):Cg N w0 X0 Y β' ⟨Cc s.tm d v,A3 s.hp nw⟩ (a.put d val) w':=by
 obtain⟨ha1,Xr⟩:=B9 Vq;obtain⟨hg1,hg2⟩:=Fs (hp:=s.hp) Xr
 have J1:∀id,(∃bx,(id,bx)∈nw)\/A3 s.hp nw id=s.hp id:=fun id=>by
  by_cases hx:∃bx,(id,bx)∈nw
  ·exact .inl hx
  ·exact .inr (hg2 id fun bx hb=>hx ⟨bx,hb⟩)
 have A8j:∀id,s.hp id≠none->A3 s.hp nw id=s.hp id:=fun id hn=>by
  rcases J1 id with⟨bx,hx⟩|e
  ·exact absurd (ha1 id bx hx) hn
  ·exact e
 have Hs:∀id,(s.hp id≠none\/∃bx,(id,bx)∈nw)->A3 s.hp nw id≠none:=by
  rintro id (hn|⟨bx,hx⟩)
  ·rw[A8j id hn];exact hn
  ·rw[hg1 id bx hx];simp
 have A16:∀b,b<w.heap.size->IM (A3 s.hp nw) β' b->IM s.hp β b:=by
  rintro b hb ⟨id,o,hl,hβ⟩
  rcases J1 id with⟨bx,hx⟩|e
  ·have:=(st.nblk id bx b o hx hβ).1;omega
  ·rw[e] at hl;exact⟨id,o,hl,by rw[<-st.old id (Dy hl)];exact hβ⟩
 have Aln:∀b,b<w.heap.size->Dv (A3 s.hp nw) β' Y b->Dv s.hp β Y b:=fun b hb hA=>hA.imp (A16 b hb) id;have Alz:Cs (Dv s.hp β Y) w w':=st.ext.weaken (fun _ _ x=>x.elim);refine⟨by rw[Oz];exact h.dfr,by rw[P6];exact h.tsz,Ack hd h.tmo,?_,?_,?_,?_,?_,?_,?_,?_,?_,?_,?_,h.Ylt,?_⟩
 ·refine Um (Q:=fun _ p u=>E2 w' (Dv (A3 s.hp nw) β' Y) β' p u) h.tsz hd (fun i hi=>?_) (fun _=>st.val);exact (h.tms i hi).step Alz Aln fun id B1=>st.old id (h.wfT i hi id B1)
 ·intro id b hb;simp only at hb;rcases J1 id with⟨bx,hx⟩|e
  ·rw[hg1 id bx hx] at hb;cases hb;exact st.nbox id _ hx
  ·rw[e] at hb;have hβ:=st.old id (by rw[hb];simp)
   have Ms:=h.box id b hb;have Ci:=h.blt id;have Gx:s.hp id≠none:=by rw[hb];simp
   cases b with
   |st c=>
    obtain⟨b,o,h1,h2,h3⟩:=Ms;have I7:=Ci b o Gx h1;have Nx:=st.ext.keep b I7 (fun x=>x);refine⟨b,o,by rw[hβ];exact h1,fun j c hj=>?_,fun j hj=>?_⟩
    ·obtain⟨v,hv,hc⟩:=h2 j c hj;refine⟨v,by rw[World.cell?_of_block (w:=w) Nx];exact hv,hc.step Alz Aln fun id' B1=>st.old id' ?_⟩
     exact h.wfB id _ hb c (List.mem_of_getElem? hj) id' B1
    ·rw[World.frozen?_of_block (w:=w) Nx];exact h3 j hj
   |ar fz c=>
    rcases Ms with⟨h1,h2⟩|⟨b,o,h1,h2,h3,h4⟩
    ·exact .inl ⟨by rw[hβ];exact h1,h2⟩
    ·have I7:=Ci b o Gx h1;have Nx:=st.ext.keep b I7 (fun x=>x);have PZ:bsz w' b=bsz w b:=by unfold bsz;rw[Nx]
     refine .inr ⟨b,o,by rw[hβ];exact h1,fun j c hj=>?_,fun e j hj Ty=>?_,fun e x=>h4 e (Aln b I7 x)⟩
     ·obtain⟨v,hv,h5,hc⟩:=h2 j c hj;exact⟨v,by rw[World.cell?_of_block (w:=w) (by rw[F5];exact Nx)];exact hv,h5,hc.step Alz Aln⟩
     ·rw[World.frozen?_of_block (w:=w) Nx];exact h3 e j hj (by rw[<-PZ];exact Ty)
   |mv=>trivial
 ·intro id id' b o o' hl Ox hb I7;simp only at hl Ox;rcases J1 id with⟨bx,hx⟩|e
  ·rcases J1 id' with⟨bx',Za⟩|e'
   ·exact st.ninj id bx id' bx' b o o' hx Za hb I7
   ·rw[e'] at Ox;have h1:=(st.nblk id bx b o hx hb).1;have h2:=h.blt id' b o' (Dy Ox) (by rw[<-st.old id' (Dy Ox)];exact I7)
    omega
  ·rw[e] at hl;rcases J1 id' with⟨bx',Za⟩|e'
   ·have h1:=(st.nblk id' bx' b o' Za I7).1;have h2:=h.blt id b o (Dy hl) (by rw[<-st.old id (Dy hl)];exact hb)
    omega
   ·rw[e'] at Ox;exact h.inj id id' b o o' hl Ox (by rw[<-st.old id (Dy hl)];exact hb) (by rw[<-st.old id' (Dy Ox)];exact I7)
 ·intro id b o hn hb;simp only at hn;rcases J1 id with⟨bx,hx⟩|e
  ·exact (st.nblk id bx b o hx hb).2
  ·rw[e] at hn;exact F4 (h.blt id b o hn (by rw[<-st.old id hn];exact hb)) st.ext.size
 ·have:=Um (Q:=fun _ p _=>∀id∈Cb p,A3 s.hp nw id≠none) (val:=val) (d:=d) (v:=v) h.tsz hd (fun i hi id B1=>Hs id (.inl (h.wfT i hi id B1))) (fun _ id B1=>Hs id (st.vwf id B1));exact this
 ·intro id cells hc c hcm id' B1;simp only at hc;rcases J1 id with⟨bx,hx⟩|e
  ·rw[hg1 id bx hx] at hc;cases hc;exact Hs id' (st.nwf id _ hx c hcm id' B1)
  ·rw[e] at hc;exact Hs id' (.inl (h.wfB id cells hc c hcm id' B1))
 ·rintro b ⟨id,o,hl,hb⟩
  simp only at hl;rcases J1 id with⟨bx,hx⟩|e
  ·exact .inr (Nat.le_trans h.fr.step.size (st.nblk id bx b o hx hb).1)
  ·rw[e] at hl;exact h.ownd b ⟨id,o,hl,by rw[<-st.old id (Dy hl)];exact hb⟩
 ·intro id bx b o hb hl hβ Ci;simp only at hb;rcases J1 id with⟨bx',hx⟩|e
  ·have:=(st.nblk id bx' b o hx hβ).1;have:=h.fr.step.size;omega
  ·rw[e] at hb;exact h.rngB id bx b o hb hl (by rw[<-st.old id (by rw[hb];simp)];exact hβ) Ci
 ·intro i hi;obtain⟨h1,h2⟩:=h.pin i hi;exact⟨Hs _ (.inl h1),by rw[st.old _ h1];exact h2⟩
 ·intro id c b o hb hβ Ci;simp only at hb;rcases J1 id with⟨bx',hx⟩|e
  ·have:=(st.nblk id bx' b o hx hβ).1;have:=h.fr.step.size;omega
  ·rw[e] at hb;exact h.stp id c b o hb (by rw[<-st.old id (by rw[hb];simp)];exact hβ) Ci
 ·rintro b hY hX
  have hb:b<w.heap.size:=F4 (h.Ylt b hY) h.fr.step.size;exact h.Yx b hY (A16 b hb hX)
 ·refine⟨st.os.trans h.fr.os,st.tape.trans h.fr.tape,st.output.trans h.fr.output,h.fr.step.trans st.ext (fun _ _ x=>x.elim),fun b j hb hL=>?_⟩;have Nx:=st.ext.keep b (F4 hb h.fr.step.size) (fun x=>x);have hc:w'.cell? ⟨b,j,none⟩=w.cell? ⟨b,j,none⟩:=World.cell?_of_block (w:=w) Nx;have hf:w'.frozen? ⟨b,j,none⟩=w.frozen? ⟨b,j,none⟩:=World.frozen?_of_block (w:=w) Nx;rw[hc,hf];exact h.fr.rng b j hb hL
end
open Go.RowKit
section
variable {P:Program}{N:Nat}{w0:World}{X0:Gc}{Y:Nat->Prop}{β β':Bt}{s:St}{a:Act}{w w':World}{o:Oper}
theorem Aev(cs:List Value)(A:Nat->Prop):Bw (Cj w A β) (cs.map PV.sc) cs:=by
 induction cs with
 |nil=>trivial
 |cons v r ih=>exact⟨Az.sc v,ih⟩
theorem Akb(cs:List Value):(cs.map PV.sc).flatMap Ay=[]:=by
 induction cs with
 |nil=>rfl
 |cons v r ih=>exact ih
theorem D7(h:Cg N w0 X0 Y β s a w)(x:Operand):E2 w (Dv s.hp β Y) β (Cu s.tm x) (a.eval x):=by
 cases x with
 |tmp t=>
  show E2 _ _ _ (s.tm t) (a.tmps.getD t undef);by_cases ht:t<N
  ·exact h.tms t ht
  ·rw[h.tmo t (Nat.le_of_not_lt ht)];exact Az.top _
 |const v=>
  cases v with
  |agg cs=>exact⟨cs.toList,by simp[Act.eval],Aev cs.toList _⟩
  |_=>exact Az.sc _
 |func f=>exact Az.sc _
 |global g=>exact Az.sc _
theorem Gv(h:Cg N w0 X0 Y β s a w)(x:Operand):∀id∈Cb (Cu s.tm x),s.hp id≠none:=by
 cases x with
 |tmp t=>
  show ∀id∈Cb (s.tm t),_;by_cases ht:t<N
  ·exact h.wfT t ht
  ·rw[h.tmo t (Nat.le_of_not_lt ht)];intro id B1;cases B1
 |const v=>
  cases v with
  |agg cs=>
   intro id B1;have:Cb (.agg (cs.toList.map .sc))=[]:=Akb cs.toList;simp only[Cu] at B1;rw[this] at B1;cases B1
  |_=>intro id B1;cases B1
 |func f=>intro id B1;cases B1
 |global g=>intro id B1;cases B1
theorem Vr{A:Nat->Prop}{v u:Value}(h:E2 w A β (.sc v) u):u=v:=Az.val h
theorem C4(h:Cg N w0 X0 Y β s a w){x:Operand}{v:Value}(e:Cu s.tm x=.sc v):a.eval x=v:=by have:=D7 h x;rw[e] at this;exact Vr this
def Fq(P:Program)(a:Act)(w:World)(o:Oper)(Y:Nat->Prop)(β:Bt)(s:St)(v:PV)(fz:B7)(nw:List (Nat × Ca)):Prop:=
 (∀id∈fz,∃f c,s.hp id=some (.ar f c))/\∃val w',(execOp a.eval o).run P w=.ok (.value val) w'/\(Cn s.hp nw=true->∃β',YW Y β ⟨s.tm,Ah s.hp fz⟩ w v nw val w' β')
theorem Ako{v:PV}{val:Value}(hv:E2 w (Dv s.hp β Y) β v val)(hr:∀id∈Cb v,s.hp id≠none):YW Y β s w v [] val w β:=
 ⟨rfl,rfl,rfl,Cs.refl _ _,fun _ _=>rfl,by simp,by simp,by simp,by simp,by simp,hv,fun id B1=>.inl (hr id B1)⟩
theorem Cx{v:PV}{val:Value}(Ds:(execOp a.eval o).run P w=.ok (.value val) w)(hv:E2 w (Dv s.hp β Y) β v val)(hr:∀id∈Cb v,s.hp id≠none):Fq P a w o Y β s v [] []:=
 ⟨by simp,val,w,Ds,fun _=>⟨β,Ako (s:=⟨s.tm,Ah s.hp []⟩) hv hr⟩⟩
theorem Df{v:Value}(Ds:(execOp a.eval o).run P w=.ok (.value v) w):Fq P a w o Y β s (.sc v) [] []:=Cx Ds (Az.sc v) (by intro id B1;cases B1)
structure Hc(w w':World)(c:Array Value)(e:TypeId):Prop where
 os:w'.os=w.os
 tape:w'.tape=w.tape
 output:w'.output=w.output
 old:∀b,b<w.heap.size->w'.heap[b]?=w.heap[b]?
 size:w'.heap.size=w.heap.size+1
 new:∃fz:Nat × Nat,w'.heap[w.heap.size]?=some (.cells c e fz)/\(fz.1=fz.2\/c.size<=fz.1)
theorem Hc.alloc(w:World)(c:Array Value)(e:TypeId):Hc w (w.alloc (.cells c e)) c e:=
 ⟨rfl,rfl,rfl,fun b hb=>Below.heap_alloc w _ b hb,by show (w.heap.push _).size=_;simp,(0,0),by show (w.heap.push _)[w.heap.size]?=_;simp,.inl rfl⟩
theorem Hc.drew{c:Array Value}{e:TypeId}(h:Hc w w' c e):Hc w w'.drew c e:=⟨h.os,h.tape,h.output,h.old,h.size,h.new⟩
section
variable {c:Array Value}{e:TypeId}
theorem Hc.step(h:Hc w w' c e):Cs (fun _=>False) w w':=
 ⟨by rw[h.size];omega,fun b hb _=>h.old b hb,fun b hb=>Fp.same (h.old b hb)⟩
theorem Hc.cell(h:Hc w w' c e)(j:Nat):w'.cell? ⟨w.heap.size,j,none⟩=c[j]?:=by obtain⟨fz,hn,_⟩:=h.new;simp[World.cell?,hn]
theorem Hc.frozen(h:Hc w w' c e){j:Nat}(hj:j<c.size):w'.frozen? ⟨w.heap.size,j,none⟩=false:=by obtain⟨fz,hn,hf⟩:=h.new;simp only[World.frozen?,hn];rcases hf with hf|hf<;>simp<;>omega
theorem Ou(w:World)(c:Array Value)(e:TypeId):endF (w.alloc (.cells c e)) w.heap.size=false:=by
 unfold endF World.frozen?;have:(w.alloc (.cells c e)).heap[w.heap.size]?=some (.cells c e (0,0)):=by show (w.heap.push _)[w.heap.size]?=_;simp
 simp only[this];simp
theorem Hc.bsz(h:Hc w w' c e):bsz w' w.heap.size=c.size:=by obtain⟨fz,hn,_⟩:=h.new;simp[Pv.bsz,hn]
end
theorem Wm{c:Array Value}{e:TypeId}{d:Nat}{bx:Ca}{v:PV}{val:Value}(hg:Hc w w' c e)(hd:s.hp d=none)(hl:Dg (some bx))(Ms:Wd w' (Dv (Dt s.hp d (some bx)) (Dt β d (some (w.heap.size,0))) Y) (Dt β d (some (w.heap.size,0))) d bx)(hcw:∀cells,bx=.st cells->∀x∈cells,∀id'∈Ay x,s.hp id'≠none)(hv:E2 w' (Dv (Dt s.hp d (some bx)) (Dt β d (some (w.heap.size,0))) Y) (Dt β d (some (w.heap.size,0))) v val)(hvr:∀id∈Cb v,s.hp id≠none\/id=d):YW Y β s w v [(d,bx)] val w' (Dt β d (some (w.heap.size,0))) where
 os:=hg.os
 tape:=hg.tape
 output:=hg.output
 ext:=hg.step
 old:=fun id hn=>Ao _ _ (by rintro rfl;exact hn hd)
 nlive:=by intro id b hm;simp at hm;obtain⟨rfl,rfl⟩:=hm;exact hl
 nbox:=by intro id b hm;simp at hm;obtain⟨rfl,rfl⟩:=hm;exact Ms
 nblk:=by
  intro id b x y hm hb;simp at hm;obtain⟨rfl,rfl⟩:=hm;rw[Av] at hb;simp at hb;have:=hg.size;omega
 ninj:=by intro id b id' b' x y z hm Nz _ _;simp at hm Nz;rw[hm.1,Nz.1]
 nwf:=by intro id cells hm x hx id' B1;simp at hm;exact .inl (hcw cells hm.2.symm x hx id' B1)
 val:=hv
 vwf:=by
  intro id B1;rcases hvr id B1 with h|rfl
  ·exact .inl h
  ·exact .inr ⟨bx,by simp⟩
theorem Amk{c:Array Value}{e:TypeId}(hg:Hc w w' c e){A A':Nat->Prop}(hA:∀b,b<w.heap.size->A' b->A b){cells:Ae}(h:∀(j:Nat) p,cells[j]?=some p->∃v,c[j]?=some v/\v.oneCell'=true/\Az w A p v):WO w' A' ⟨w.heap.size,0,none⟩ cells:=by intro j p hj;obtain⟨v,hv,h1,ht⟩:=h j p hj;exact⟨v,by rw[Et,Ir,hg.cell];exact hv,h1,ht.step (hg.step.weaken (fun _ _ x=>x.elim)) hA⟩
theorem Anj{d:Nat}{bx:Ca}(hwf:s.hp d=none):∀b,b<w.heap.size->Dv (Dt s.hp d (some bx)) (Dt β d (some (w.heap.size,0))) Y b->Dv s.hp β Y b:=by
 intro b hb hA;rcases hA with⟨id,o,hl,hβ⟩|hY
 ·by_cases e:id=d
  ·subst e;rw[Av] at hβ;simp at hβ;omega
  ·rw[Ao _ _ e] at hl hβ;exact .inl ⟨id,o,hl,hβ⟩
 ·exact .inr hY
theorem Wh{c:Array Value}{e:TypeId}{d:Nat}{cells:Ae}{fz:B7}{v:PV}{val:Value}(Zb:∀id∈fz,∃f c,s.hp id=some (.ar f c))(Ds:(execOp a.eval o).run P w=.ok (.value val) w')(hg:Hc w w' c e)(hc:∀(j:Nat) p,cells[j]?=some p->∃u,c[j]?=some u/\u.oneCell'=true/\Az w (Dv (Ah s.hp fz) β Y) p u)(hv:(v=.ptr d 0/\val=.pointer (some ⟨w.heap.size,0,none⟩))\/∃es n cap,v=.view d es 0 n/\val=.slice (some ⟨w.heap.size,0,none⟩) n cap/\n<=cap/\cap*es<=c.size/\(es=1\/endF w' w.heap.size=false)):
  Fq P a w o Y β s v fz [(d,.ar false cells)]:=by
 refine⟨Zb,val,w',Ds,fun Vq=>⟨Dt β d (some (w.heap.size,0)),?_⟩⟩;have hd:s.hp d=none:=(B9 Vq).1 d (.ar false cells) (by simp);have hd':Ah s.hp fz d=none:=Fc.2 hd;refine Wm (s:=⟨s.tm,Ah s.hp fz⟩) hg hd' trivial ?_ (fun cells hx=>by cases hx) ?_ ?_
 ·refine .inr ⟨w.heap.size,0,Av _ _ _,?_,fun _ j _ hj=>?_,(fun x=>by cases x)⟩
  ·exact Amk hg (Anj (s:=⟨s.tm,Ah s.hp fz⟩) hd') hc
  ·rw[hg.bsz] at hj;exact hg.frozen hj
 ·rcases hv with⟨rfl,rfl⟩|⟨es,n,cap,rfl,rfl,hn,EN,Arv⟩
  ·exact⟨w.heap.size,0,Av _ _ _,rfl⟩
  ·exact .inr ⟨w.heap.size,0,0,cap,Av _ _ _,rfl,.inl rfl,hn,⟨by rw[hg.bsz];omega,Arv⟩,by rw[hg.size];omega⟩
 ·intro id B1;rcases hv with⟨rfl,_⟩|⟨es,n,cap,rfl,_⟩<;>(simp[Cb,Co,Ay] at B1;exact .inr B1)
theorem Aau{c:Array Value}{e:TypeId}{d:Nat}{cells:Ae}(Ds:(execOp a.eval o).run P w=.ok (.value (.pointer (some ⟨w.heap.size,0,none⟩))) w')(hg:Hc w w' c e)(hc:∀(j:Nat) p,cells[j]?=some p->∃u,c[j]?=some u/\Cj w (Dv s.hp β Y) β p u)(hr:∀x∈cells,∀id∈Ay x,s.hp id≠none):
  Fq P a w o Y β s (.ptr d 0) [] [(d,.st cells)]:=by
 refine⟨by simp,_,w',Ds,fun Vq=>⟨Dt β d (some (w.heap.size,0)),?_⟩⟩;have hd:s.hp d=none:=(B9 Vq).1 d (.st cells) (by simp);refine Wm (s:=⟨s.tm,Ah s.hp []⟩) hg hd trivial ?_ (fun cs hx x hxm id B1=>?_) ?_ ?_
 ·refine⟨w.heap.size,0,Av _ _ _,fun j p hj=>?_,fun j hj=>?_⟩
  ·obtain⟨u,hu,hp⟩:=hc j p hj;refine⟨u,by rw[Ir,hg.cell];exact hu,hp.step (hg.step.weaken (fun _ _ x=>x.elim)) (Anj (s:=⟨s.tm,Ah s.hp []⟩) hd) fun id B1=>Ao _ _ ?_⟩
   rintro rfl
   exact hr p (List.mem_of_getElem? hj) id B1 hd
  ·rw[Ir];obtain⟨u,hu,_⟩:=hc j _ (List.getElem?_eq_getElem hj)
   exact hg.frozen (by
    rcases Is j c.size with h|h
    ·exact h
    ·rw[Array.getElem?_eq_none h] at hu;cases hu)
 ·injection hx with hx;subst hx;exact hr x hxm id B1
 ·exact⟨w.heap.size,0,Av _ _ _,rfl⟩
 ·intro id B1;simp[Cb,Co,Ay] at B1;exact .inr B1
end
open Go.RowKit
section
variable {R:Type}{r:R}{P:Program}{N:Nat}{w0:World}{X0:Gc}{Y:Nat->Prop}{β β':Bt}{s:St}{a:Act}{w w':World}{o:Oper}
theorem O5{t:TypeId}{n:Nat}(h:(P.info? t).map (·.size)=some n)(w:World):(sizeOf t).run P w=.ok n w:=by
 cases hi:P.info? t with
 |none=>rw[hi] at h;cases h
 |some i=>rw[hi] at h;simp at h;simp[sizeOf,typeInfo,hi,h]
theorem Atv{t:TypeId}{n:Nat}(h:Bp P t=n)(hn:0<n):(P.info? t).map (·.size)=some n:=by
 unfold Bp at h;cases hi:(P.info? t).map (·.size) with
 |none=>rw[hi] at h;simp at h;omega
 |some i=>rw[hi] at h;simp at h;rw[h]
theorem Sc{t:TypeId}{d:TypeDesc}(h:P.underlying t=some d)(w:World):(isAgg t).run P w=.ok (Cw P t) w:=by unfold isAgg Cw;rw[h];simp only[Sem.run_bind,run_underlying h,Result.andThen_ok];cases d<;>rfl
theorem Am1{t:TypeId}{v:Value}{K:PV->Option R}(h:cvK P t v K=some r):∃p,K p=some r/\Cb p=[]/\∀(w:World)(A:Nat->Prop)(β:Bt),E2 w A β p v:=by
 have sc:∀v:Value,K (.sc v)=some r->∃p,K p=some r/\Cb p=[]/\∀(w:World) (A:Nat->Prop) (β:Bt),E2 w A β p v:=fun v h=>⟨_,h,rfl,fun w A β=>Az.sc v⟩;unfold cvK at h;split at h
 ·rename_i cs;obtain⟨hl,h⟩:=Aq h;obtain⟨xs,h,hxl,hx⟩:=BZ h;have hl:=Dz hl;refine⟨_,h,?_,fun w A β=>⟨cs.toList,by simp,?_⟩⟩
  ·show xs.flatMap Ay=[];rw[List.flatMap_eq_nil_iff];intro c hc;obtain⟨j,hj⟩:=List.mem_iff_getElem?.1 hc;exact Ka (hx j c hj).1
  ·refine Bw.of_at (by rw[hxl,hl]) fun i c u hc hu=>?_;obtain⟨hT,p,hp,_,MJ⟩:=hx i c hc;refine (Qm hT).2 (MJ w A β u ?_).1;rw[Ir,List.getElem?_map,hu] at hp;simp at hp;subst hp;exact Az.sc u
 ·split at h
  ·exact⟨_,h,rfl,fun w A β=>Az.lnil true _⟩
  ·cases h
 ·exact sc _ h
theorem LS(h:Cg N w0 X0 Y β s a w){x:Operand}(Ds:(execOp a.eval o).run P w=.ok (.value (a.eval x)) w){K:PV->Option R}(hk:NJ P o.type s.tm x K=some r):
  ∃v,K v=some r/\Fq P a w o Y β s v [] []:=by
 have dflt:K (Cu s.tm x)=some r->∃v,K v=some r/\Fq P a w o Y β s v [] []:=fun hk=>⟨_,hk,Cx Ds (D7 h x) (Gv h x)⟩;cases x with
 |const v=>
  obtain⟨p,hk,hr,hv⟩:=Am1 hk;exact⟨p,hk,Cx Ds (hv _ _ _) (by rw[hr];simp)⟩
 |tmp t=>exact dflt hk
 |func f=>exact dflt hk
 |global g=>exact dflt hk
theorem Aqd{x:Operand}(ho:o.op=.move x):(execOp a.eval o).run P w=.ok (.value (a.eval x)) w:=by unfold execOp;rw[ho];rfl
theorem Aga{x:Operand}(ho:o.op=.assign x):(execOp a.eval o).run P w=.ok (.value (a.eval x)) w:=by unfold execOp;rw[ho];rfl
theorem Ai9(h:Cg N w0 X0 Y β s a w){c x y:Operand}(ho:o.op=.pick c x y){K:PV->Option R}(hk:(Bn (Cu s.tm c) fun t=>Ax t (K (Cu s.tm x)) (K (Cu s.tm y)))=some r):
  ∃v,K v=some r/\Fq P a w o Y β s v [] []:=by
 obtain⟨b,hb,hk⟩:=E3 hk;have hc:=C4 h hb;rcases Rv hk with⟨rfl,hk⟩|⟨rfl,hk⟩
 ·exact⟨_,hk,Cx (by unfold execOp;rw[ho];simp[asBool,hc]) (D7 h x) (Gv h x)⟩
 ·exact⟨_,hk,Cx (by unfold execOp;rw[ho];simp[asBool,hc]) (D7 h y) (Gv h y)⟩
theorem Uy{t:TypeId}{K:Ae->Option R}(h:Jl P t K=some r):∃(v:Value)(cs:Ae),K cs=some r/\Vs P t=some v/\cs.length=(Kv P t).length/\cs.length=v.cells.toList.length/\cs.length=Bp P t /\
  ∀(j:Nat) c,cs[j]?=some c->FB c/\∃u,v.cells.toList[j]?=some u/\u.oneCell'=true/\∀(w:World) (A:Nat->Prop),Az w A c u:=by
 unfold Jl at h;obtain⟨v,hz,h⟩:=C9 h;obtain⟨hl,h⟩:=Aq h;obtain⟨cs,h,Nq,hc⟩:=BZ h;simp only[Fe] at hl;have SP:=Dz hl.1
 have Wc:(Kv P t).length=Bp P t:=by
  have:=hl.2;simp only[Mf,Fe] at this;exact Dz this.2
 refine⟨v,cs,h,hz,Nq,by rw[Nq,SP],by rw[Nq,Wc],fun j c hj=>?_⟩;obtain⟨hT,p,hp,_,MJ⟩:=hc j c hj;rw[Ir,List.getElem?_map] at hp;cases hu:v.cells.toList[j]? with
 |none=>rw[hu] at hp;cases hp
 |some u=>
  rw[hu] at hp;simp at hp;subst hp;exact⟨hT,u,rfl,(MJ default (fun _=>False) (fun _=>none) u (Az.sc u)).2,fun w A=>(MJ w A (fun _=>none) u (Az.sc u)).1⟩
theorem FF{t:TypeId}{v:Value}(h:Vs P t=some v)(w:World):(zeroValue t).run P w=.ok v w:=by
 unfold Vs at h;cases hi:P.info? t with
 |none=>rw[hi] at h;cases h
 |some i=>rw[hi] at h;simp at h;simp[zeroValue,typeInfo,hi,h]
theorem Aet{t:TypeId}(ho:o.op=.alloc t){d:Nat}{K:PV->B7->List (Nat × Ca)->Option R}(hk:(Jl P t fun cs=>K (.ptr d 0) [] [(d,Av6 P t cs)])=some r):∃v fz nw,K v fz nw=some r/\Fq P a w o Y β s v fz nw:=by
 obtain⟨z,cs,hk,hz,_,hl,_,hc⟩:=Uy hk
 have Ds:(execOp a.eval o).run P w=.ok (.value (.pointer (some ⟨w.heap.size,0,none⟩))) (w.alloc (.cells z.cells t)):=by
  unfold execOp;rw[ho];simp[Instr.alloc,FF hz,newVar,newRow]
 have hg:=Hc.alloc w z.cells t;refine⟨_,_,_,hk,?_⟩;unfold Av6;cases Xt P t
 ·refine Aau Ds hg (fun j p hj=>?_) fun x hx id B1=>?_
  ·obtain⟨hT,u,hu,_,hv⟩:=hc j p hj;exact⟨u,by simpa using hu,(Qm hT).2 (hv _ _)⟩
  ·obtain⟨j,hj⟩:=List.mem_iff_getElem?.1 hx;rw[Ka (hc j x hj).1] at B1;cases B1
 ·refine Wh (by simp) Ds hg (fun j p hj=>?_) (.inl ⟨rfl,rfl⟩);obtain⟨hT,u,hu,h1,hv⟩:=hc j p hj;exact⟨u,by simpa using hu,h1,hv _ _⟩
end
open Go.RowKit
section
variable {R:Type}{r:R}{P:Program}{N:Nat}{w0:World}{X0:Gc}{Y:Nat->Prop}{β β':Bt}{s:St}{a:Act}{w w':World}{o:Oper}{A:Nat->Prop}
theorem Wx{t:TypeId}(h:Mf P t=true):(∃d,P.underlying t=some d)/\(Kv P t).length=Bp P t/\(P.info? t).map (·.size)=some (Bp P t):=by
 simp only[Mf,Fe] at h;refine⟨Option.isSome_iff_exists.1 h.1,Dz h.2,?_⟩;unfold Bp;cases hi:P.info? t with
 |none=>unfold Program.underlying at h;rw[hi] at h;cases h.1
 |some i=>simp
theorem Sb{v:Value}(h:v.oneCell'=true):v.cells = #[v]:=by cases v<;>first|rfl|cases h
theorem Aml{p:PV}{v:Value}{ts:List CT}{K:Ae->Option R}(hv:E2 w A β p v)(hl:(cellsOf p).length=ts.length)(h:Ub ts (cellsOf p) 0 K=some r):
  ∃cs,K cs=some r/\cs.length=ts.length/\Bw (Cj w A β) cs v.cells.toList/\(∀u∈v.cells.toList,u.oneCell'=true)/\(∀c∈cs,∀id∈Ay c,id∈Cb p)/\∀c∈cs,(∀x,c ≠ .agg x)/\(∀x,c ≠ .tup x):=by
 obtain⟨cs,h,Nq,NC,hc⟩:=AR h;refine⟨cs,h,Nq,?_⟩
 have single:(∀x,p ≠ .agg x)->cellsOf p=[p]:=by
  intro hp;cases p<;>first|rfl|exact absurd rfl (hp _)
 by_cases H4:∃x,p=.agg x
 ·obtain⟨x,rfl⟩:=H4;obtain⟨vs,rfl,h2⟩:=hv;have Ek:cs.length=vs.length:=by rw[Nq,<-hl];exact h2.len
  have key:∀(i:Nat) c u,cs[i]?=some c->vs[i]?=some u->Cj w A β c u/\u.oneCell'=true:=by
   intro i c u Yp hu;obtain⟨q,hq,_,_,hqv⟩:=hc i c Yp;rw[Ir] at hq;exact hqv w A β u (h2.at_ hq hu)
  refine⟨Bw.of_at Ek fun i c u Yp hu=>(key i c u Yp hu).1,?_,?_,NC⟩
  ·intro u hu;obtain⟨i,hi⟩:=List.mem_iff_getElem?.1 (show u∈vs from hu)
   have Ci:i<vs.length:=by
    rcases Is i vs.length with h|h
    ·exact h
    ·rw[List.getElem?_eq_none h] at hi;cases hi
   exact (key i _ u (List.getElem?_eq_getElem (by omega)) hi).2
  ·intro c hcm id B1;obtain⟨i,hi⟩:=List.mem_iff_getElem?.1 hcm;obtain⟨q,hq,_,hr,_⟩:=hc i c hi;rw[Ir] at hq;show id∈x.flatMap Ay;exact List.mem_flatMap.2 ⟨q,List.mem_of_getElem? hq,hr id B1⟩
 ·have hp:∀x,p ≠ .agg x:=fun x e=>H4 ⟨x,e⟩;rw[single hp] at hl hc;have SP:cs.length=1:=by rw[Nq,<-hl];rfl
  match cs,SP with
  |[c],_=>
   obtain⟨q,hq,hf,hr,hqv⟩:=hc 0 c rfl;simp at hq;subst hq;have Wo:∀x,p ≠ .tup x:=by rintro x rfl;exact hf
   have Uu:Cj w A β p v:=(X8 hp).1 ((Pi Wo).1 hv);obtain⟨h5,h6⟩:=hqv w A β v Uu;rw[Sb h6];refine⟨⟨h5,trivial⟩,?_,?_,NC⟩
   ·intro u hu;simp at hu;subst hu;exact h6
   ·intro c' Yp id B1;simp at Yp;subst Yp;have:=hr id B1;cases p<;>first|exact this|exact absurd rfl (hp _)|exact absurd rfl (Wo _)
end
open Go.RowKit
section
variable {R:Type}{r:R}{P:Program}{N:Nat}{w0:World}{X0:Gc}{Y:Nat->Prop}{β β':Bt}{s:St}{a:Act}{w w':World}{o:Oper}{A:Nat->Prop}
theorem Bw.get{α β':Type}{R':α->β'->Prop}{zs:List α}{bs:List β'}(h:Bw R' zs bs){i:Nat}{x:α}(hx:zs[i]?=some x):∃y,bs[i]?=some y/\R' x y:=by
 have Ci:i<zs.length:=by
  rcases Is i zs.length with h|h
  ·exact h
  ·rw[List.getElem?_eq_none h] at hx;cases hx
 have hb:bs[i]?=some (bs[i]'(by rw[<-h.len];exact Ci)):=List.getElem?_eq_getElem _
 exact⟨_,hb,h.at_ hx hb⟩
theorem A0m{p:PV}{v:Value}{ts:List CT}{K:Ae->Option R}(hv:E2 w A β p v)(hl:(cellsOf p).length=ts.length)(h:Zz ts (cellsOf p) 0 K=some r):
  ∃cs,K cs=some r/\cs.length=ts.length/\Bw (Az w A) cs v.cells.toList/\∀u∈v.cells.toList,u.oneCell'=true:=by
 obtain⟨cs,h,Nq,hc⟩:=BZ h;refine⟨cs,h,Nq,?_⟩;by_cases H4:∃x,p=.agg x
 ·obtain⟨x,rfl⟩:=H4;obtain⟨vs,rfl,h2⟩:=hv;have Ek:cs.length=vs.length:=by rw[Nq,<-hl];exact h2.len
  have key:∀(i:Nat) c u,cs[i]?=some c->vs[i]?=some u->Az w A c u/\u.oneCell'=true:=by
   intro i c u Yp hu;obtain⟨_,q,hq,_,hqv⟩:=hc i c Yp;rw[Ir] at hq;exact hqv w A β u (h2.at_ hq hu)
  refine⟨Bw.of_at Ek fun i c u Yp hu=>(key i c u Yp hu).1,?_⟩;intro u hu;obtain⟨i,hi⟩:=List.mem_iff_getElem?.1 (show u∈vs from hu)
  have Ci:i<vs.length:=by
   rcases Is i vs.length with h|h
   ·exact h
   ·rw[List.getElem?_eq_none h] at hi;cases hi
  exact (key i _ u (List.getElem?_eq_getElem (by omega)) hi).2
 ·have hp:∀x,p ≠ .agg x:=fun x e=>H4 ⟨x,e⟩;have single:cellsOf p=[p]:=by cases p<;>first|rfl|exact absurd rfl (hp _)
  rw[single] at hl hc;have SP:cs.length=1:=by rw[Nq,<-hl];rfl
  match cs,SP with
  |[c],_=>
   obtain⟨_,q,hq,hf,hqv⟩:=hc 0 c rfl;simp at hq;subst hq;have Wo:∀x,p ≠ .tup x:=by rintro x rfl;exact hf
   have Uu:Cj w A β p v:=(X8 hp).1 ((Pi Wo).1 hv);obtain⟨h5,h6⟩:=hqv w A β v Uu;rw[Sb h6];exact⟨⟨h5,trivial⟩,fun u hu=>by simp at hu;subst hu;exact h6⟩
theorem An9(h:Cg N w0 X0 Y β s a w){t:TypeId}{x:Operand}(ho:o.op=.box t x){d:Nat}{K:PV->B7->List (Nat × Ca)->Option R}(hk:(Ar (Mf P t&&Nat.beq (cellsOf (Cu s.tm x)).length (Kv P t).length)
      (bif Xt P t then Zz (Kv P t) (cellsOf (Cu s.tm x)) 0 fun cs=>K (.ptr d 0) [] [(d,.ar false cs)]
       else Ub (Kv P t) (cellsOf (Cu s.tm x)) 0 fun cs=>K (.ptr d 0) [] [(d,.st cs)]))=some r):∃v fz nw,K v fz nw=some r/\Fq P a w o Y β s v fz nw:=by
  obtain⟨hl,hk⟩:=Aq hk
  simp only[Fe] at hl
  have hl:=Dz hl.2
  have Ds:(execOp a.eval o).run P w=.ok (.value (.pointer (some ⟨w.heap.size,0,none⟩))) (w.alloc (.cells (a.eval x).cells t)):=by
    unfold execOp
    rw[ho]
    simp[Instr.box,newVar,newRow]
  have hg:=Hc.alloc w (a.eval x).cells t
  cases ha:Xt P t
  · rw[ha] at hk
    obtain⟨cs,hk,_,h2,_,hr,_⟩:=Aml (D7 h x) hl hk
    refine⟨_,_,_,hk,Aau Ds hg (fun j p hj=>?_) fun c hc id B1=>Gv h x id (hr c hc id B1)⟩
    obtain⟨u,hu,hp⟩:=h2.get hj
    exact⟨u,by simpa using hu,hp⟩
  · rw[ha] at hk
    obtain⟨cs,hk,_,h2,h1⟩:=A0m (D7 h x) hl hk
    refine⟨_,_,_,hk,Wh (by simp) Ds hg (fun j p hj=>?_) (.inl ⟨rfl,rfl⟩)⟩
    obtain⟨u,hu,hp⟩:=h2.get hj
    exact⟨u,by simpa using hu,h1 u (List.mem_of_getElem? hu),hp⟩
theorem Ajl{c:PV}(h1:∀x,c ≠ .agg x)(h2:∀x,c ≠ .tup x):Cb c=Ay c:=by cases c<;>first|rfl|exact absurd rfl (h1 _)|exact absurd rfl (h2 _)
theorem IF{t:TypeId}{ad:Addr}{cs:Ae}{p:PV}(hok:Mf P t=true)(Ek:cs.length=(Kv P t).length)(NC:∀c∈cs,(∀x,c ≠ .agg x)/\(∀x,c ≠ .tup x))(hc:∀(j:Nat) c,cs[j]?=some c->∃v,w.cell? (ad.add j)=some v/\Cj w A β c v)(hp:(Cw P t=true/\p=.agg cs)\/(Cw P t=false/\cs=[p])):∃val,(loadVar t ad).run P w=.ok val w/\E2 w A β p val:=by
 obtain⟨⟨d,hd⟩,hl,hi⟩:=Wx hok;rcases hp with⟨H4,rfl⟩|⟨H4,rfl⟩
 ·have hf:∀j,j<Bp P t->w.cell? (ad.add j)=some ((w.cell? (ad.add j)).getD undef):=by
   intro j hj;obtain⟨v,hv,_⟩:=hc j _ (List.getElem?_eq_getElem (by omega));rw[hv];rfl
  refine⟨_,?_,(List.range (Bp P t)).map (fun j=>(w.cell? (ad.add j)).getD undef),rfl,?_⟩
  ·simp only[loadVar,Sem.run_bind,Sc hd,H4,Result.andThen_ok,if_true,O5 hi,run_loadCells w ad (Bp P t) _ hf];simp
  ·refine Bw.of_at (by simp;omega) fun i c u Yp hu=>?_
   obtain⟨v,hv,OH⟩:=hc i c Yp
   have Ci:i<Bp P t:=by
    rcases Is i cs.length with h|h
    ·omega
    ·rw[List.getElem?_eq_none h] at Yp;cases Yp
   rw[List.getElem?_map,List.getElem?_range Ci] at hu;simp[hv] at hu;subst hu;exact OH
 ·obtain⟨v,hv,OH⟩:=hc 0 p rfl;have hn:=NC p (by simp);have h0:ad.add 0=ad:=by simp[Addr.add]
  rw[h0] at hv;refine⟨v,?_,(Pi hn.2).2 ((X8 hn.1).2 OH)⟩;simp only[loadVar,Sem.run_bind,Sc hd,H4,Result.andThen_ok];simp[hv]
theorem At1{hp:Nat->Option Ca}{id:Nat}{c:Ae}(h:rd hp id=some c):hp id=some (.st c)\/∃f,hp id=some (.ar f c):=by
 unfold rd at h;split at h
 ·rename_i e;simp at h;subst h;exact .inl e
 ·rename_i f _ e;simp at h;subst h;exact .inr ⟨_,e⟩
 ·cases h
theorem Acs{hp:Nat->Option Ca}{id:Nat}{c:Ae}(h:M3 hp id=some c):∃f,hp id=some (.ar f c):=by
 unfold M3 at h;split at h
 ·rename_i e;simp at h;subst h;exact⟨_,e⟩
 ·cases h
theorem TQ(h:Cg N w0 X0 Y β s a w){id:Nat}{c:Ae}(hr:rd s.hp id=some c){b ob:Nat}(hβ:β id=some (b,ob)){j:Nat}{p:PV}(hj:c[j]?=some p):
  ∃v,w.cell? ⟨b,ob+j,none⟩=some v/\Cj w (Dv s.hp β Y) β p v:=by
 rcases At1 hr with hb|⟨f,hb⟩
 ·obtain⟨b',o',h1,h2,_⟩:=h.box id _ hb;rw[hβ] at h1;simp at h1;obtain⟨rfl,rfl⟩:=h1;exact h2 j p hj
 ·rcases h.box id _ hb with⟨h1,_⟩|⟨b',o',h1,h2,_⟩
  ·rw[hβ] at h1;cases h1
  ·rw[hβ] at h1;simp at h1;obtain⟨rfl,rfl⟩:=h1
   obtain⟨v,hv,_,ht⟩:=h2 j p hj;rw[Et] at hv;refine⟨v,hv,?_⟩;cases ht with
   |sc=>exact Az.sc _
   |top=>exact Az.top _
   |ub=>exact Az.ub _
   |lnil=>exact Az.lnil _ _
   |lemp=>exact Az.lemp _ _ _
   |lst es n cells a cap f hs hb hA hn hc h1 hr=>exact Az.lst es n cells a cap f hs hb hA hn hc h1 hr
theorem Pa:∀{ts:List CT}{cells:Ae}{off:Nat}{K:Ae->Option R},Zz ts cells off K=some r->Ub ts cells off K=some r
 |[],_,_,_,h=>h
 |.int k::ts,cells,off,K,h=>by
  obtain⟨n,hp,h⟩:=Fz (show Bk k (cells.getD off .top) _=some r from h);show Bk k _ _=_;rw[hp];simp only[Bk,if_true];exact Pa h
 |.bool::ts,cells,off,K,h=>by
  obtain⟨n,hp,h⟩:=E3 (show Bn (cells.getD off .top) _=some r from h);show Bn _ _=_;rw[hp];exact Pa h
 |.str::ts,cells,off,K,h=>by
  obtain⟨n,hp,h⟩:=Ep (show Bi (cells.getD off .top) _=some r from h);show Bi _ _=_;rw[hp];exact Pa h
 |.sl es::ts,cells,off,K,h=>by
  obtain⟨z,n,c,h,hp⟩:=Ha (show Xs es (cells.getD off .top) _=some r from h);change fcK (.sl es) (cells.getD off .top) (fun c=>Ub ts cells (off+1) fun r=>K (c::r))=some r;unfold fcK;dsimp only;unfold fsK;rcases hp with hp|⟨hp,rfl,rfl,rfl⟩
  ·rw[hp];simp only[Xs,Oq,cond_true];exact Pa h
  ·rw[hp];exact Pa h
 |.any::ts,cells,off,K,h=>by
  have hK:∀v,Zz ts cells (off+1) (fun r=>K (.sc v::r))=some r->Ub ts cells (off+1) (fun r=>K (.sc v::r))=some r:=fun v h=>Pa h;have h:fnK (cells.getD off .top) (fun v=>Zz ts cells (off+1) fun r=>K (.sc v::r))=some r:=h;show fnK (cells.getD off .top) (fun v=>Ub ts cells (off+1) fun r=>K (.sc v::r))=some r;unfold fnK at h ⊢;split at h
  ·rename_i e;exact hK _ h
  ·exact hK _ h
  ·cases h
theorem Az.unz{w:World}{A:Nat->Prop}{z:Bool}{es n:Nat}{c:Ae}{u:Value}(h:Az w A (.lst z es n c) u):Az w A (.lst false es n c) u:=by
 cases h with
 |lnil z es=>exact .lnil false es
 |lemp es a cap=>exact .lemp es a cap
 |lst es n c a cap f h1 h2 h3 h4 h5 h6 h7=>exact .lst es n c a cap f h1 h2 h3 h4 h5 h6 h7
theorem Anu{w:World}{A:Nat->Prop}{β:Bt}{p:PV}{u:Value}(h:Cj w A β p u):Cj w A β (Abj p) u:=by
 cases p with
 |lst z es n c=>exact Az.unz h
 |_=>exact h
theorem Ai5(p:PV):Ay (Abj p)=Ay p:=by cases p<;>rfl
theorem ZR{w:World}{A:Nat->Prop}{β:Bt}:∀{cs:Ae}{vs:List Value},Bw (Cj w A β) cs vs->Bw (Cj w A β) (cs.map Abj) vs
 |[],[],_=>trivial
 |_::_,_::_,h=>⟨Anu h.1,ZR h.2⟩
 |[],_::_,h=>h.elim
 |_::_,[],h=>h.elim
theorem Aoy{w:World}{A:Nat->Prop}{β:Bt}{p:PV}{u:Value}(h:E2 w A β p u):E2 w A β (Ais p) u:=by
 cases p with
 |agg cs=>
  obtain⟨vs,h1,h2⟩:=(show H8 w A β (.agg cs) u from h)
  exact⟨vs,h1,ZR h2⟩
 |lst z es n c=>exact Az.unz (show Az w A (.lst z es n c) u from h)
 |_=>exact h
theorem Aph(p:PV):Cb (Ais p)=Cb p:=by
 cases p with
 |agg cs=>
  show (cs.map Abj).flatMap Ay=cs.flatMap Ay
  induction cs with
  |nil=>rfl
  |cons a l ih=>rw[Xv,J4,J4,ih,Ai5]
 |_=>rfl
theorem Ax1{nz:Bool}{hp:Nat->Option Ca}{t:TypeId}{x:PV}{K:PV->Option R}(h:LF nz P (rd hp) (M3 hp) t x K=some r):
  GK P (rd hp) t x K=some r\/GK P (rd hp) t x (fun v=>K (Ais v))=some r:=by
 have h':GK P (rd hp) t x K=some r\/GK P (rd hp) t x (fun v=>K (bif nz then v else Ais v))=some r:=by
  unfold LF at h;unfold GK;split at h
  ·rename_i id off;obtain⟨hb,h⟩:=Aq h;rw[hb];show Ea _ _=_\/Ea _ _=_;split at h
   ·rename_i c hc;obtain⟨f,Ms⟩:=Acs hc;have:rd hp id=some c:=by unfold rd;rw[Ms]
    rw[this];exact .inr (Pa h)
   ·exact .inl h
  ·exact .inr h
  ·cases h
 cases nz
 ·exact h'
 ·exact .inl (h'.elim id id)
theorem YK(h:Cg N w0 X0 Y β s a w){t:TypeId}{x:PV}{u:Value}(hx:E2 w (Dv s.hp β Y) β x u){K:PV->Option R}(hk:GK P (rd s.hp) t x K=some r):
  ∃v ad val,K v=some r/\u=.pointer (some ad)/\(loadVar t ad).run P w=.ok val w/\E2 w (Dv s.hp β Y) β v val/\∀i∈Cb v,s.hp i≠none:=by
 unfold GK at hk;split at hk
 ·rename_i id off;obtain⟨hok,hk⟩:=Aq hk;obtain⟨c,hr,hk⟩:=C9 hk;obtain⟨cs,hk,hl,NC,hc⟩:=AR hk;obtain⟨b,ob,hβ,Eh⟩:=hx
  have Ey:∀(j:Nat) q,cs[j]?=some q->∃v,w.cell? ((⟨b,ob+off,none⟩:Addr).add j)=some v/\Cj w (Dv s.hp β Y) β q v:=by
   intro j q hq;obtain⟨p,hp,_,_,MJ⟩:=hc j q hq;obtain⟨v,hv,OH⟩:=TQ h hr hβ hp;exact⟨v,by rw[Et,Jq];exact hv,(MJ _ _ _ _ OH).1⟩
  have FO:∀q∈cs,∀i∈Ay q,s.hp i≠none:=by
   intro q hq i hi;obtain⟨j,hj⟩:=List.mem_iff_getElem?.1 hq;obtain⟨p,hp,_,hpr,_⟩:=hc j q hj;rcases At1 hr with hb|⟨f,hb⟩
   ·exact h.wfB id c hb p (List.mem_of_getElem? hp) i (hpr i hi)
   ·obtain⟨v,hv,OH⟩:=TQ h hr hβ hp;exfalso;have Dl:=hpr i hi;rcases h.box id _ hb with⟨_,rfl⟩|⟨b',o',h1,h2,_⟩
    ·simp at hp
    ·obtain⟨v',_,_,ht⟩:=h2 _ p hp;cases ht<;>cases Dl
  rcases Aci hk with⟨H4,Gb⟩|⟨H4,q,rfl,Gb⟩
  ·obtain⟨val,HZ,hv⟩:=IF hok hl NC Ey (.inl ⟨H4,rfl⟩);refine⟨_,_,val,Gb,Eh,HZ,hv,fun i hi=>?_⟩;obtain⟨q,hq,hi⟩:=List.mem_flatMap.1 (show i∈cs.flatMap Ay from hi);exact FO q hq i hi
  ·obtain⟨val,HZ,hv⟩:=IF hok hl NC Ey (.inr ⟨H4,rfl⟩);refine⟨_,_,val,Gb,Eh,HZ,hv,fun i hi=>FO q (by simp) i ?_⟩;have hn:=NC q (by simp);rw[Ajl hn.1 hn.2] at hi;exact hi
 ·rename_i c off;obtain⟨hok,hk⟩:=Aq hk;obtain⟨cs,hk,hl,hc⟩:=BZ hk;obtain⟨ad,Eh,hs,hb,hA,hrd⟩:=hx
  have NC:∀q∈cs,(∀x,q ≠ .agg x)/\(∀x,q ≠ .tup x):=by
   intro q hq;obtain⟨j,hj⟩:=List.mem_iff_getElem?.1 hq;exact⟨KI (hc j q hj).1,Amf (hc j q hj).1⟩
  have Ey:∀(j:Nat) q,cs[j]?=some q->∃v,w.cell? ((ad.add off).add j)=some v/\Cj w (Dv s.hp β Y) β q v:=by
   intro j q hq;obtain⟨hT,p,hp,WI,MJ⟩:=hc j q hq;obtain⟨v,hv,_,ht⟩:=hrd (off+j) p hp;exact⟨v,by rw[add_add];exact hv,(Qm hT).2 (MJ w (Dv s.hp β Y) β v ((Qm WI).2 ht)).1⟩
  have FO:∀q∈cs,Ay q=[]:=by
   intro q hq;obtain⟨j,hj⟩:=List.mem_iff_getElem?.1 hq;exact Ka (hc j q hj).1
  rcases Aci hk with⟨H4,Gb⟩|⟨H4,q,rfl,Gb⟩
  ·obtain⟨val,HZ,hv⟩:=IF hok hl NC Ey (.inl ⟨H4,rfl⟩);refine⟨_,_,val,Gb,Eh,HZ,hv,fun i hi=>?_⟩;obtain⟨q,hq,hi⟩:=List.mem_flatMap.1 (show i∈cs.flatMap Ay from hi);rw[FO q hq] at hi;cases hi
  ·obtain⟨val,HZ,hv⟩:=IF hok hl NC Ey (.inr ⟨H4,rfl⟩);refine⟨_,_,val,Gb,Eh,HZ,hv,fun i hi=>?_⟩;have hn:=NC q (by simp);rw[Ajl hn.1 hn.2,FO q (by simp)] at hi;cases hi
 ·cases hk
theorem Agi(h:Cg N w0 X0 Y β s a w){t:TypeId}{x:PV}{u:Value}(hx:E2 w (Dv s.hp β Y) β x u){nz:Bool}{K:PV->Option R}(hk:LF nz P (rd s.hp) (M3 s.hp) t x K=some r):
  ∃v ad val,K v=some r/\u=.pointer (some ad)/\(loadVar t ad).run P w=.ok val w/\E2 w (Dv s.hp β Y) β v val/\∀i∈Cb v,s.hp i≠none:=by
 rcases Ax1 hk with hk|hk
 ·exact YK h hx hk
 ·obtain⟨v,ad,val,h1,h2,h3,h4,h5⟩:=YK h hx hk;exact⟨Ais v,ad,val,h1,h2,h3,Aoy h4,by rw[Aph];exact h5⟩
theorem Ak6(h:Cg N w0 X0 Y β s a w){t:TypeId}{x:Operand}(ho:o.op=.load t x){nz:Bool}{K:PV->Option R}(hk:LF nz P (rd s.hp) (M3 s.hp) t (Cu s.tm x) K=some r):
  ∃v,K v=some r/\Fq P a w o Y β s v [] []:=by
 obtain⟨v,ad,val,Eu,Eh,hl,hv,hr⟩:=Agi h (D7 h x) hk;refine⟨v,Eu,Cx ?_ hv hr⟩;unfold execOp;rw[ho];simp[Instr.loadAt,Instr.sureAddr,Eh,hl]
theorem Aoq{x:PV}{d:Nat}{K:PV->Option R}(h:CM x d K=some r):(∃id off,x=.ptr id off/\K (.ptr id (off+d))=some r)\/∃c off,x=.iptr c off/\K (.iptr c (off+d))=some r:=by
 unfold CM at h;split at h
 ·exact .inl ⟨_,_,rfl,h⟩
 ·exact .inr ⟨_,_,rfl,h⟩
 ·cases h
theorem GO(h:Cg N w0 X0 Y β s a w){x:Operand}{d:Nat}{K:PV->Option R}(hk:CM (Cu s.tm x) d K=some r)(Ds:∀ad:Addr,a.eval x=.pointer (some ad)->(execOp a.eval o).run P w=.ok (.value (.pointer (some (ad.add d)))) w):∃v,K v=some r/\Fq P a w o Y β s v [] []:=by
 have hx:=D7 h x;have WY:=Gv h x;rcases Aoq hk with⟨id,off,e,hk⟩|⟨c,off,e,hk⟩
 ·rw[e] at hx WY;obtain⟨b,ob,hβ,Eh⟩:=hx;refine⟨_,hk,Cx (Ds _ Eh) ⟨b,ob,hβ,by rw[Et,Jq]⟩ WY⟩
 ·rw[e] at hx;obtain⟨ad,Eh,h1,h2,h3,h4⟩:=hx;exact⟨_,hk,Cx (Ds _ Eh) ⟨ad,by rw[add_add],h1,h2,h3,h4⟩ (by intro i hi;cases hi)⟩
theorem RW(h:Cg N w0 X0 Y β s a w){x:Operand}(ho:o.op=.nilCheck x){K:PV->Option R}(hk:CM (Cu s.tm x) 0 K=some r):∃v,K v=some r/\Fq P a w o Y β s v [] []:=by refine GO h hk fun ad Eh=>?_;unfold execOp;rw[ho];simp[Eh,Addr.add]
theorem JW{t:TypeId}{f:Nat}{q:Nat × TypeId}(h:Xa P t f=some q):∃fs g,P.underlying t=some (.struct fs)/\fs[f]?=some g/\q=(g.offset,g.type):=by
 unfold Xa at h;split at h
 ·rename_i fs e;cases hg:fs[f]? with
  |none=>rw[hg] at h;cases h
  |some g=>rw[hg] at h;simp at h;exact⟨fs,g,e,hg,h.symm⟩
 ·cases h
theorem QO(h:Cg N w0 X0 Y β s a w){t:TypeId}{x:Operand}{f:Nat}(ho:o.op=.fieldAddr t x f){K:PV->Option R}(hk:(Ea (Xa P t f) fun q=>Ar (Nat.ble 1 (Bp P q.2)) (CM (Cu s.tm x) q.1 K))=some r):∃v,K v=some r/\Fq P a w o Y β s v [] []:=by
 obtain⟨q,hq,hk⟩:=C9 hk;obtain⟨hs,hk⟩:=Aq hk;obtain⟨fs,g,hu,hg,rfl⟩:=JW hq;have hs:1<=Bp P g.type:=Sn hs;have Kx:=Atv (P:=P) (t:=g.type) rfl (by omega);refine GO h hk fun ad Eh=>?_;unfold execOp;rw[ho];have Gx:¬Bp P g.type=0:=by omega
 simp[Instr.fieldAt,run_underlying hu,hg,Instr.sureAddr,Eh,fieldPlace,O5 Kx,Gx]
end
open Go.RowKit
section
variable {R:Type}{r:R}{P:Program}{N:Nat}{w0:World}{X0:Gc}{Y:Nat->Prop}{β β':Bt}{s:St}{a:Act}{w w':World}{o:Oper}{A:Nat->Prop}
theorem VQ(h:Cg N w0 X0 Y β s a w){t:TypeId}{cs:Ae}{vs:List Value}{off:Nat}{K:PV->Option R}{x:Operand}(hx:Cu s.tm x=.agg cs)(hv:Bw (Cj w (Dv s.hp β Y) β) cs vs)(hk:Ar (Mf P t) (Ub (Kv P t) cs off fun c=>mkV (Cw P t) c K)=some r)(Ds:∀val,(part t ⟨vs⟩ off).run P w=.ok val w->(execOp a.eval o).run P w=.ok (.value val) w):∃v,K v=some r/\Fq P a w o Y β s v [] []:=by
 obtain⟨hok,hk⟩:=Aq hk;obtain⟨⟨d,hd⟩,hl,hi⟩:=Wx hok;obtain⟨qs,hk,hql,NC,hq⟩:=AR hk;have WY:=Gv h x;rw[hx] at WY
 have Ey:∀(j:Nat) q,qs[j]?=some q->∃v,vs[off+j]?=some v/\Cj w (Dv s.hp β Y) β q v:=by
  intro j q hj;obtain⟨p,hp,_,_,MJ⟩:=hq j q hj;obtain⟨v,Uu,hc⟩:=hv.get hp;exact⟨v,Uu,(MJ _ _ _ _ hc).1⟩
 have FO:∀q∈qs,∀i∈Ay q,s.hp i≠none:=by
  intro q hqm i hi;obtain⟨j,hj⟩:=List.mem_iff_getElem?.1 hqm;obtain⟨p,hp,_,hpr,_⟩:=hq j q hj;exact WY i (List.mem_flatMap.2 ⟨p,List.mem_of_getElem? hp,hpr i hi⟩)
 rcases Aci hk with⟨H4,Gb⟩|⟨H4,q,rfl,Gb⟩
 ·have Ys:Bp P t=0\/off+Bp P t<=vs.length:=by
   rcases Nat.eq_zero_or_pos (Bp P t) with h0|h0
   ·exact .inl h0
   ·obtain⟨v,Uu,_⟩:=Ey (Bp P t-1) _ (List.getElem?_eq_getElem (by omega))
    have:off+(Bp P t-1)<vs.length:=by
     rcases Is (off+(Bp P t-1)) vs.length with h|h
     ·exact h
     ·rw[List.getElem?_eq_none h] at Uu;cases Uu
    exact .inr (by omega)
  refine⟨_,Gb,Cx (Ds (.agg ⟨(vs.drop off).take (Bp P t)⟩) ?_) ⟨(vs.drop off).take (Bp P t),rfl,?_⟩ fun i hi=>?_⟩
  ·simp only[part,Sem.run_bind,Sc hd,H4,Result.andThen_ok,if_true,O5 hi];simp[List.extract_eq_take_drop]
  ·refine Bw.of_at ?_ fun i c u hc hu=>?_
   ·simp only[List.length_take,List.length_drop];omega
   ·obtain⟨v,Uu,OH⟩:=Ey i c hc
    have Ci:i<Bp P t:=by
     rcases Is i qs.length with h|h
     ·omega
     ·rw[List.getElem?_eq_none h] at hc;cases hc
    rw[List.getElem?_take_of_lt Ci,List.getElem?_drop,Uu] at hu;cases hu;exact OH
  ·obtain⟨q,hqm,hi⟩:=List.mem_flatMap.1 (show i∈qs.flatMap Ay from hi);exact FO q hqm i hi
 ·obtain⟨v,Uu,OH⟩:=Ey 0 q rfl;have hn:=NC q (by simp);refine⟨_,Gb,Cx (Ds v ?_) ((Pi hn.2).2 ((X8 hn.1).2 OH)) fun i hi=>?_⟩
  ·simp only[part,Sem.run_bind,Sc hd,H4,Result.andThen_ok];rw[ZS] at Uu;simp[Uu]
  ·rw[Ajl hn.1 hn.2] at hi;exact FO q (by simp) i hi
theorem Ae4(h:Cg N w0 X0 Y β s a w){t:TypeId}{x:Operand}{f:Nat}(ho:o.op=.field t x f){K:PV->Option R}(hk:(Ea (Xa P t f) fun q=>Ar (Mf P q.2)<|Eo (Cu s.tm x) fun cs=>Ub (Kv P q.2) cs q.1 fun c=>mkV (Cw P q.2) c K)=some r):∃v,K v=some r/\Fq P a w o Y β s v [] []:=by
 obtain⟨q,hq,hk⟩:=C9 hk;obtain⟨hok,hk⟩:=Aq hk;obtain⟨cs,hx,hk⟩:=Jw hk;obtain⟨fs,g,hu,hg,rfl⟩:=JW hq;have hxv:=D7 h x;rw[hx] at hxv;obtain⟨vs,Eh,hv⟩:=hxv;refine VQ (t:=g.type) (off:=g.offset) h hx hv (by rw[show Mf P g.type=true from hok];exact hk) fun val hp=>?_
 unfold execOp;rw[ho];simp[Instr.field,run_underlying hu,hg,asAgg,Eh,hp]
theorem XL(h:Cg N w0 X0 Y β s a w){x:Operand}{i:Nat}(ho:o.op=.extract x i){K:PV->Option R}(hk:(match Cu s.tm x with | .tup vs=>Ea vs[i]? K|_=>none)=some r):∃v,K v=some r/\Fq P a w o Y β s v [] []:=by
 have hx:=D7 h x;have WY:=Gv h x;split at hk
 ·rename_i ps e;rw[e] at hx WY;obtain⟨p,hp,hk⟩:=C9 hk;obtain⟨vs,Eh,hv⟩:=hx;obtain⟨v,Uu,MJ⟩:=hv.get hp
  have A1s:∀y,p ≠ .tup y:=by
   rintro y rfl
   have Bhz:Az _ _ (.tup y) v:=MJ;cases Bhz
  refine⟨p,hk,Cx (val:=v) ?_ ((Pi A1s).2 MJ) fun id B1=>WY id ?_⟩
  ·unfold execOp;rw[ho];simp[Instr.extract,Eh,Uu]
  ·refine List.mem_flatMap.2 ⟨p,List.mem_of_getElem? hp,?_⟩;cases p<;>first|exact B1|exact absurd rfl (A1s _)
 ·cases hk
theorem slice_form{es:Nat}{p:PV}{z:Bool}{n:Nat}{c:Ae}{v:Value}(hp:p=.lst z es n c\/(p=.sc (.slice none 0 0)/\z=true/\n=0/\c=[]))(hv:E2 w A β p v):
  (v=.slice none 0 0/\n=0/\c=[])\/(∃ad cap,v=.slice (some ad) n cap/\z=false/\n<=cap/\ad.spot=none/\ad.block<w.heap.size/\¬A ad.block/\WO w A ad c)\/∃ad cap,v=.slice (some ad) 0 cap/\z=false/\n=0/\c=[]:=by
 have Uu:Cj w A β p v:=by rcases hp with rfl|⟨rfl,_⟩<;>exact hv
 have ht:=GF hp Uu;cases ht with
 |lnil=>exact .inl ⟨rfl,rfl,rfl⟩
 |lst _ _ _ ad cap f hs hb hA hn hc h1 hr=>exact .inr (.inl ⟨ad,cap,rfl,rfl,hn,hs,hb,hA,fun j q hj=>⟨f j,hc j q hj,h1 j q hj,hr j q hj⟩⟩)
 |lemp _ ad cap=>exact .inr (.inr ⟨ad,cap,rfl,rfl,rfl,rfl⟩)
theorem PU(h:Cg N w0 X0 Y β s a w){t:TypeId}{x i:Operand}(ho:o.op=.indexAddr t x i){K:PV->Option R}(hk:(Ev (Cu s.tm i) fun _ n=>Ov P t (Cu s.tm x) n K)=some r):∃v,K v=some r/\Fq P a w o Y β s v [] []:=by
 obtain⟨ik,n,hi,hk⟩:=Em hk;have hai:=C4 h hi;have hx:=D7 h x;have WY:=Gv h x;unfold Ov at hk;split at hk
 ·rename_i len e hu;obtain⟨hz,hk⟩:=Aq hk;obtain⟨hb,hk⟩:=Aq hk;simp only[Fe,FJ] at hb;obtain⟨inf,V0⟩:=Option.isSome_iff_exists.1 hz;refine GO h hk fun ad Eh=>?_;unfold execOp;rw[ho];simp[Instr.indexAt,asIntOf,hai,Eh,run_underlying hu,Instr.sureAddr,hb.1,hb.2,sizeOf,typeInfo,V0,Bp]
 ·rename_i e hu;obtain⟨hz,hk⟩:=Aq hk;obtain⟨inf,V0⟩:=Option.isSome_iff_exists.1 hz;have Kx:Bp P e=inf.size:=by simp[Bp,V0]
  split at hk
  ·rename_i id es off n' e';rw[e'] at hx WY;obtain⟨EG,hk⟩:=Aq hk;have EG:=Dz EG;subst EG;obtain⟨hb,hk⟩:=Aq hk;simp only[Fe,FJ] at hb;rcases hx with⟨_,_,rfl,_⟩|⟨b,ob,y,cap,hβ,Eh,hy,_⟩
   ·omega
   ·have hy:y=ob+off:=by rcases hy with hy|⟨rfl,_⟩<;>omega
    subst hy;refine⟨_,hk,Cx (val:=.pointer (some ⟨b,ob+(off+n.toNat*Bp P e),none⟩)) ?_ ⟨b,ob,hβ,rfl⟩ WY⟩;unfold execOp;rw[ho];simp[Instr.indexAt,asIntOf,hai,Eh,run_underlying hu,hb.1,hb.2,sizeOf,typeInfo,V0,Kx,Et,Jq]
  ·obtain⟨z,n',c,hk,hp⟩:=Ha hk;obtain⟨hb,hk⟩:=Aq hk;simp only[Fe,FJ] at hb;rcases slice_form hp hx with⟨_,rfl,_⟩|⟨ad,cap,Eh,_,_,h1,h2,h3,h4⟩|⟨_,_,_,_,rfl,_⟩
   ·omega
   rotate_left
   ·omega
   ·refine⟨_,hk,Cx (val:=.pointer (some (ad.add (n.toNat*Bp P e)))) ?_ ⟨ad,rfl,h1,h2,h3,h4⟩ (by intro i hi;cases hi)⟩
    unfold execOp;rw[ho];simp[Instr.indexAt,asIntOf,hai,Eh,run_underlying hu,hb.1,hb.2,sizeOf,typeInfo,V0,Kx]
 ·cases hk
theorem Ahx(h:Cg N w0 X0 Y β s a w){t:TypeId}{x i:Operand}(ho:o.op=.index t x i){K:PV->Option R}(hk:(Ev (Cu s.tm i) fun _ n=>
   match P.underlying t with
   |some .string=>Bi (Cu s.tm x) fun s=>Ar (decide (0<=n)) (Ea (s.data.toList[n.toNat]?) fun b=>K (.sc (.int .u8 b.toNat)))
   |some (.array len e)=>Eo (Cu s.tm x) fun cs=>Ar (decide (0<=n)&&decide (n<len)&&Mf P e) (Ub (Kv P e) cs (n.toNat*Bp P e) fun c=>mkV (Cw P e) c K)
   |_=>none)=some r):∃v,K v=some r/\Fq P a w o Y β s v [] []:=by
 obtain⟨ik,n,hi,hk⟩:=Em hk;have hai:=C4 h hi;split at hk
 ·rename_i hu;obtain⟨sb,hx,hk⟩:=Ep hk;have Eh:=C4 h hx;obtain⟨h0,hk⟩:=Aq hk;obtain⟨b,hb,hk⟩:=C9 hk;have h0:=of_decide_eq_true h0;refine⟨_,hk,Df ?_⟩
  have Ci:n.toNat<sb.size:=by
   rcases Is n.toNat sb.data.toList.length with h|h
   ·simpa using h
   ·rw[List.getElem?_eq_none h] at hb;cases hb
  have I7:sb[n.toNat]=b:=by
   have:sb.data.toList[n.toNat]?=some sb[n.toNat]:=by
    rw[List.getElem?_eq_getElem (by simpa using Ci)];rfl
   rw[hb] at this;injection this with this;exact this.symm
  unfold execOp;rw[ho];simp[Instr.index,asIntOf,hai,Eh,run_underlying hu,h0,Ci,I7]
 ·rename_i len e hu;obtain⟨cs,hx,hk⟩:=Jw hk;obtain⟨hb,hk⟩:=Aq hk;simp only[Fe,FJ] at hb;have hxv:=D7 h x;rw[hx] at hxv;obtain⟨vs,Eh,hv⟩:=hxv;obtain⟨_,_,Kx⟩:=Wx hb.2;refine VQ (t:=e) (off:=n.toNat*Bp P e) h hx hv (by rw[hb.2];exact hk) fun val hp=>?_
  unfold execOp;rw[ho];simp[Instr.index,asIntOf,hai,Eh,run_underlying hu,hb.1.1,hb.1.2,O5 Kx,hp]
 ·cases hk
end
open Go.RowKit
section
variable {R:Type}{r:R}{P:Program}{N:Nat}{w0:World}{X0:Gc}{Y:Nat->Prop}{β β':Bt}{s:St}{a:Act}{w w':World}{o:Oper}{A:Nat->Prop}
theorem E5(h:Cg N w0 X0 Y β s a w){x:Option Operand}{dflt:Nat}{K:Nat->Option R}(hk:Jb (x.map (Cu s.tm)) dflt K=some r):
  ∃l,K l=some r/\((x=none/\l=dflt)\/∃y k,x=some y/\a.eval y=.int k (l:Int)):=by
 cases x with
 |none=>exact⟨dflt,hk,.inl ⟨rfl,rfl⟩⟩
 |some y=>
  obtain⟨k,i,hi,hk⟩:=Em (show Ev (Cu s.tm y) _=some r from hk);obtain⟨h0,hk⟩:=Aq hk;have h0:=of_decide_eq_true h0;exact⟨i.toNat,hk,.inr ⟨y,k,rfl,by rw[C4 h hi,Int.toNat_of_nonneg h0]⟩⟩
theorem Ly{lo hi:Option Operand}{isS:Bool}{len cap l u:Nat}(hl:(lo=none/\l=0)\/∃y k,lo=some y/\a.eval y=.int k (l:Int))(hu:(hi=none/\u=len)\/∃y k,hi=some y/\a.eval y=.int k (u:Int))(h1:l<=u)(h2:u<=cap):
  (Instr.sliceBounds isS len cap (lo.map a.eval) (hi.map a.eval) none).run P w=.ok (l,u,cap) w:=by
 rcases hl with⟨rfl,rfl⟩|⟨y,k,rfl,hy⟩<;>rcases hu with⟨rfl,rfl⟩|⟨y',k',rfl,hy'⟩
 ·simp[Instr.sliceBounds]
 ·simp[Instr.sliceBounds,Instr.sliceBound,asIntOf,hy',h2]
 ·simp[Instr.sliceBounds,Instr.sliceBound,asIntOf,hy,h1]
 ·simp[Instr.sliceBounds,Instr.sliceBound,asIntOf,hy,hy',h1,h2]
theorem D1{e:TypeId}(h:(P.info? e).isSome=true)(w:World):(sizeOf e).run P w=.ok (Bp P e) w:=by obtain⟨i,hi⟩:=Option.isSome_iff_exists.1 h;exact O5 (by simp[Bp,hi]) w
theorem LO{b j:Nat}{v:Value}(h:w.cell? ⟨b,j,none⟩=some v):j<bsz w b:=by
 unfold World.cell? at h;unfold bsz;split at h
 ·rename_i c e fz hb;simp only at hb;rw[hb];simp only[Option.isSome_none,Bool.false_eq_true,if_false] at h;rcases Is j c.size with Ci|hge
  ·exact Ci
  ·rw[Array.getElem?_eq_none hge] at h;cases h
 ·cases h
theorem Agz(h:Cg N w0 X0 Y β s a w){t:TypeId}{x:Operand}{lo hi:Option Operand}(ho:o.op=.slice t x lo hi none){K:PV->Option R}(hk:MD P (rd s.hp) t (Cu s.tm x) (lo.map (Cu s.tm)) (hi.map (Cu s.tm)) K=some r):∃v,K v=some r/\Fq P a w o Y β s v [] []:=by
 have hx:=D7 h x;have WY:=Gv h x;unfold MD at hk;split at hk
 ·rename_i hu;obtain⟨sb,WQ,hk⟩:=Ep hk;have Eh:=C4 h WQ;obtain⟨l,hk,hl⟩:=E5 h hk;obtain⟨u,hk,Mk⟩:=E5 h hk;obtain⟨hb,hk⟩:=Aq hk;simp only[Fe,FJ] at hb;refine⟨_,hk,Df ?_⟩;unfold execOp;rw[ho];simp[Instr.sliceAt,Instr.slice,run_underlying hu,Eh,Ly hl Mk hb.1 hb.2]
 ·rename_i e hu;obtain⟨V0,hk⟩:=Aq hk;split at hk
  ·rename_i id es off n e';rw[e'] at hx WY;obtain⟨EG,hk⟩:=Aq hk;have EG:=Dz EG;subst EG;obtain⟨l,hk,hl⟩:=E5 h hk;obtain⟨u,hk,Mk⟩:=E5 h hk;obtain⟨hb,hk⟩:=Aq hk;simp only[Fe,FJ] at hb;rcases hx with⟨hβ,rfl,rfl,ad,Eh⟩|⟨b,ob,y,cap,hβ,Eh,hy,hn,EN,Ci⟩
   ·have hu0:u=0:=by omega
    have XP:l=0:=by omega
    subst hu0 XP;refine⟨_,hk,Cx (val:=.slice ad 0 0) ?_ (.inl ⟨hβ,by simp,rfl,ad,rfl⟩) WY⟩;unfold execOp;rw[ho];cases ad<;>simp[Instr.sliceAt,Instr.slice,run_underlying hu,Eh,Ly hl Mk (Cd 0) (Cd 0),D1 V0]
   ·have Ds:(execOp a.eval o).run P w=.ok (.value (.slice (some (if cap=l then ⟨b,y,none⟩ else ⟨b,y+l*Bp P e,none⟩)) (u-l) (cap-l))) w:=by
     unfold execOp;rw[ho];have hbr:=Ly (P:=P) (w:=w) (isS:=true) hl Mk hb.1 (Nat.le_trans hb.2 hn);simp[Instr.sliceAt,Instr.slice,run_underlying hu,Eh,hbr,D1 V0,Et];split<;>rfl
    refine⟨_,hk,Cx Ds (.inr ?_) WY⟩;by_cases hc:cap=l
    ·rw[Ch hc];refine⟨b,ob,y,cap-l,hβ,rfl,?_,by omega,⟨by rw[hc,Nat.sub_self];have:=EN.1;omega,EN.2⟩,Ci⟩
     by_cases h0:l*Bp P e=0
     ·rw[h0,ZS];rcases hy with hy|⟨LX,Ve⟩
      ·exact .inl hy
      ·exact .inr ⟨by omega,Ve⟩
     ·exact .inr ⟨by omega,by omega⟩
    ·rw[Br hc];refine⟨b,ob,y+l*Bp P e,cap-l,hβ,rfl,?_,by omega,?_,Ci⟩
     ·rcases hy with hy|⟨LX,Ve⟩
      ·exact .inl (by omega)
      ·exact .inr ⟨by omega,by omega⟩
     ·have:l*Bp P e+(cap-l)*Bp P e=cap*Bp P e:=by
       rw[<-Nat.add_mul]
       congr 1
       omega
      have:=EN.1;exact⟨by omega,EN.2⟩
  ·obtain⟨z,n,c,hk,hp⟩:=Ha hk;obtain⟨l,hk,hl⟩:=E5 h hk;obtain⟨u,hk,Mk⟩:=E5 h hk;obtain⟨hb,hk⟩:=Aq hk;simp only[Fe,FJ] at hb;rcases slice_form hp hx with⟨Eh,rfl,rfl⟩|⟨ad,cap,Eh,rfl,hn,h1,h2,h3,h4⟩|⟨ad,cap,Eh,rfl,rfl,rfl⟩
   rotate_right
   ·have hu0:u=0:=by omega
    have XP:l=0:=by omega
    subst hu0 XP;refine⟨_,hk,Cx (val:=.slice (some (if cap=0 then ad else ad.add (0*Bp P e))) (0-0) (cap-0)) ?_ ?_ (by intro i hi;cases hi)⟩
    ·unfold execOp;rw[ho];have hbr:=Ly (P:=P) (w:=w) (isS:=true) hl Mk (Cd 0) (Nat.zero_le cap);simp[Instr.sliceAt,Instr.slice,run_underlying hu,Eh,hbr,D1 V0];split<;>rfl
    ·have:((([]:Ae).drop (0*Bp P e)).take ((0-0)*Bp P e))=[]:=by simp
     rw[this];exact Az.lemp _ _ _
   ·have hu0:u=0:=by omega
    have XP:l=0:=by omega
    subst hu0 XP;refine⟨_,hk,Cx (val:=.slice none 0 0) ?_ ?_ (by intro i hi;cases hi)⟩
    ·unfold execOp;rw[ho];simp[Instr.sliceAt,Instr.slice,run_underlying hu,Eh,Ly hl Mk (Cd 0) (Cd 0),D1 V0]
    ·have:((([]:Ae).drop (0*Bp P e)).take ((0-0)*Bp P e))=[]:=by simp
     rw[this];exact Az.lnil z _
   ·have Ds:(execOp a.eval o).run P w=.ok (.value (.slice (some (if cap=l then ad else ad.add (l*Bp P e))) (u-l) (cap-l))) w:=by
     unfold execOp;rw[ho];have hbr:=Ly (P:=P) (w:=w) (isS:=true) hl Mk hb.1 (Nat.le_trans hb.2 hn);simp[Instr.sliceAt,Instr.slice,run_underlying hu,Eh,hbr,D1 V0];split<;>rfl
    refine⟨_,hk,Cx Ds ?_ (by intro i hi;cases hi)⟩
    by_cases hc:cap=l
    ·rw[Ch hc];have:u-l=0:=by omega
     rw[this];simp only[Nat.zero_mul,List.take_zero];exact Az.lst _ _ [] ad _ (fun _=>undef) h1 h2 h3 (by omega) (by simp) (by simp) (by simp)
    ·rw[Br hc]
     have Ey:∀(j:Nat) q,((c.drop (l*Bp P e)).take ((u-l)*Bp P e))[j]?=some q->c[l*Bp P e+j]?=some q:=by
      intro j q hq;rw[List.getElem?_take] at hq;split at hq
      ·rw[List.getElem?_drop] at hq;exact hq
      ·cases hq
     refine Az.lst _ _ _ (ad.add (l*Bp P e)) _ (fun j=>(w.cell? (ad.add (l*Bp P e+j))).getD undef) (Awr h1 _) (by rw[F5];exact h2) (by rw[F5];exact h3) (by omega) (fun j q hq=>?_) (fun j q hq=>?_) (fun j q hq=>?_)
     ·obtain⟨v,hv,_⟩:=h4 _ q (Ey j q hq);rw[add_add,hv];rfl
     ·obtain⟨v,hv,h5,_⟩:=h4 _ q (Ey j q hq);rw[hv];exact h5
     ·obtain⟨v,hv,_,ht⟩:=h4 _ q (Ey j q hq);rw[hv];exact ht
 ·rename_i n e hu;obtain⟨V0,hk⟩:=Aq hk;split at hk
  ·rename_i id off e';rw[e'] at hx WY;obtain⟨c,hrc,hk⟩:=C9 hk;obtain⟨Ek,hk⟩:=Aq hk;simp only[Fe,FJ] at Ek;have EG:=Dz Ek.2
   replace Ek:=Ek.1
   obtain⟨l,hk,hl⟩:=E5 h hk;obtain⟨u,hk,Mk⟩:=E5 h hk;obtain⟨hb,hk⟩:=Aq hk;simp only[Fe,FJ] at hb;obtain⟨b,ob,hβ,Eh⟩:=hx
   have PZ:ob+off+n*Bp P e<=bsz w b:=by
    obtain⟨v,hv,_⟩:=TQ h hrc hβ (j:=off+n*Bp P e-1) (List.getElem?_eq_getElem (by omega));have:=LO hv;omega
   have Ci:b<w.heap.size:=h.blt id b ob (WY id (by simp[Cb,Co,Ay])) hβ
   have Ds:(execOp a.eval o).run P w=.ok (.value (.slice (some (if n=l then ⟨b,ob+off,none⟩ else ⟨b,ob+off+l*Bp P e,none⟩)) (u-l) (n-l))) w:=by
    unfold execOp;rw[ho];have hbr:=Ly (P:=P) (w:=w) (isS:=false) hl Mk hb.1 hb.2;simp[Instr.sliceAt,Instr.sureAddr,run_underlying hu,Eh,hbr,D1 V0,Et]
   refine⟨_,hk,Cx Ds (.inr ?_) WY⟩;by_cases hc:n=l
   ·rw[Ch hc];refine⟨b,ob,ob+off,n-l,hβ,rfl,?_,by omega,⟨by rw[hc,Nat.sub_self];omega,.inl EG⟩,Ci⟩
    by_cases h0:l*Bp P e=0
    ·rw[h0,ZS];exact .inl rfl
    ·exact .inr ⟨by omega,by omega⟩
   ·rw[Br hc];refine⟨b,ob,ob+off+l*Bp P e,n-l,hβ,rfl,.inl (by omega),by omega,?_,Ci⟩
    have:l*Bp P e+(n-l)*Bp P e=n*Bp P e:=by
     rw[<-Nat.add_mul]
     congr 1
     omega
    exact⟨by omega,.inl EG⟩
  ·cases hk
 ·cases hk
end
open Go.RowKit
section
variable {R:Type}{r:R}{P:Program}{N:Nat}{w0:World}{X0:Gc}{Y:Nat->Prop}{β β':Bt}{s:St}{a:Act}{w w':World}{o:Oper}{A:Nat->Prop}
theorem Ap1(h:Cg N w0 X0 Y β s a w){c:Call}(ho:o.op=.call c)(hc:c.callee=.builtin .len){K:PV->Option R}(hk:(Ad c.args.toList fun x _=>Ad c.argTypes.toList fun t _=>Aoe P t (Cu s.tm x) fun n=>K (.sc (.int .i64 n)))=some r):∃v,K v=some r/\Fq P a w o Y β s v [] []:=by
 obtain⟨x,xs,WQ,hk⟩:=Bo hk;obtain⟨t,ts,hts,hk⟩:=Bo hk;have hx:=D7 h x;have Ge:c.args=(x::xs).toArray:=by rw[<-WQ]
 have QE:c.argTypes=(t::ts).toArray:=by rw[<-hts]
 have Ds:∀n:Nat,(Builtin.len_ c.argTypes o.type (c.args.map a.eval)).run P w=.ok (.int .i64 n) w->(execOp a.eval o).run P w=.ok (.value (.int .i64 n)) w:=by
  intro n hl;unfold execOp;rw[ho];simp only[resolve,hc,invoke,builtin,Sem.run_bind,Sem.run_pure,Result.andThen_ok,hl]
 unfold Aoe at hk;split at hk
 ·rename_i hu;obtain⟨sb,Bjo,hk⟩:=Ep hk;have Eh:=C4 h Bjo;refine⟨_,hk,Df (Ds _ ?_)⟩;simp[Builtin.len_,Ge,QE,run_underlying hu,Eh,goInt]
 ·rename_i n e hu;refine⟨_,hk,Df (Ds _ ?_)⟩;simp[Builtin.len_,Ge,QE,run_underlying hu,goInt]
 ·rename_i e hu;split at hk
  ·rename_i id es off n e';rw[e'] at hx;obtain⟨_,hk⟩:=Aq hk;refine⟨_,hk,Df (Ds _ ?_)⟩;rcases hx with⟨_,_,rfl,ad,Eh⟩|⟨b,ob,y,cap,_,Eh,_⟩<;>simp[Builtin.len_,Ge,QE,run_underlying hu,Eh,goInt]
  ·obtain⟨z,n,cc,hk,hp⟩:=Ha hk;refine⟨_,hk,Df (Ds _ ?_)⟩;rcases slice_form hp hx with⟨Eh,rfl,_⟩|⟨ad,cap,Eh,_⟩|⟨ad,cap,Eh,_,rfl,_⟩<;>simp[Builtin.len_,Ge,QE,run_underlying hu,Eh,goInt]
 ·cases hk
theorem Apf(h:Cg N w0 X0 Y β s a w){c:Call}(ho:o.op=.call c)(hc:c.callee=.builtin .cap){K:PV->Option R}(hk:(Ad c.args.toList fun x _=>Ad c.argTypes.toList fun t _=>Aoa P t (Cu s.tm x) fun n=>K (.sc (.int .i64 n)))=some r):∃v,K v=some r/\Fq P a w o Y β s v [] []:=by
 obtain⟨x,xs,WQ,hk⟩:=Bo hk;obtain⟨t,ts,hts,hk⟩:=Bo hk;have hx:=D7 h x;have Ge:c.args=(x::xs).toArray:=by rw[<-WQ]
 have QE:c.argTypes=(t::ts).toArray:=by rw[<-hts]
 have Ds:∀n:Nat,(Builtin.cap_ c.argTypes o.type (c.args.map a.eval)).run P w=.ok (.int .i64 n) w->(execOp a.eval o).run P w=.ok (.value (.int .i64 n)) w:=by
  intro n hl;unfold execOp;rw[ho];simp only[resolve,hc,invoke,builtin,Sem.run_bind,Sem.run_pure,Result.andThen_ok,hl]
 unfold Aoa at hk;split at hk
 ·rename_i e hu;obtain⟨z,n,cc,hk,hp⟩:=Ha hk;obtain⟨hz,hk⟩:=Aq hk;refine⟨_,hk,Df (Ds _ ?_)⟩;rcases slice_form hp hx with⟨Eh,rfl,_⟩|⟨ad,cap,Eh,UZ,_⟩|⟨ad,cap,Eh,UZ,_,_⟩
  ·simp[Builtin.cap_,Ge,QE,run_underlying hu,Eh,goInt]
  ·rw[hz] at UZ;cases UZ
  ·rw[hz] at UZ;cases UZ
 ·cases hk
theorem Ap8(h:Cg N w0 X0 Y β s a w){c:Call}(ho:o.op=.call c)(hc:c.callee=.builtin .min){K:PV->Option R}(hk:(Ad c.args.toList fun x r=>Ad r fun y r'=>Ak r' (A05 (Cu s.tm x) (Cu s.tm y) K))=some r):∃v,K v=some r/\Fq P a w o Y β s v [] []:=by
 obtain⟨x,xs,WQ,hk⟩:=Bo hk;obtain⟨y,ys,rfl,hk⟩:=Bo hk;obtain⟨rfl,hk⟩:=Es hk;obtain⟨k,n,hx,hk⟩:=Em hk;obtain⟨m,hy,hk⟩:=Fz hk
 have Ge:c.args = #[x,y]:=by
  have:c.args=([x,y]:List Operand).toArray:=by rw[<-WQ]
  exact this
 refine⟨_,hk,Df ?_⟩;unfold execOp;rw[ho];simp[resolve,hc,invoke,builtin,Ge,Builtin.min_,Builtin.min2,C4 h hx,C4 h hy]
theorem Aob(h:Cg N w0 X0 Y β s a w){c:Call}(ho:o.op=.call c)(hc:c.callee=.builtin .max){K:PV->Option R}(hk:(Ad c.args.toList fun x r=>Ad r fun y r'=>Ak r' (Azv (Cu s.tm x) (Cu s.tm y) K))=some r):∃v,K v=some r/\Fq P a w o Y β s v [] []:=by
 obtain⟨x,xs,WQ,hk⟩:=Bo hk;obtain⟨y,ys,rfl,hk⟩:=Bo hk;obtain⟨rfl,hk⟩:=Es hk;obtain⟨k,n,hx,hk⟩:=Em hk;obtain⟨m,hy,hk⟩:=Fz hk
 have Ge:c.args = #[x,y]:=by
  have:c.args=([x,y]:List Operand).toArray:=by rw[<-WQ]
  exact this
 refine⟨_,hk,Df ?_⟩;unfold execOp;rw[ho];simp[resolve,hc,invoke,builtin,Ge,Builtin.max_,Builtin.max2,C4 h hx,C4 h hy]
theorem Aj7(h:Cg N w0 X0 Y β s a w){op:UnOp}{t:TypeId}{x:Operand}(ho:o.op=.unOp op t x){K:PV->Option R}(hk:unK op (Cu s.tm x) K=some r):
  ∃v,K v=some r/\Fq P a w o Y β s v [] []:=by
 unfold unK at hk;split at hk
 ·obtain⟨b,hb,hk⟩:=E3 hk;refine⟨_,hk,Df ?_⟩;unfold execOp;rw[ho];simp[Op.unary,C4 h hb]
 ·obtain⟨k,n,hb,hk⟩:=Em hk;refine⟨_,hk,Df ?_⟩;unfold execOp;rw[ho];simp[Op.unary,Op.intArith,C4 h hb]
 ·obtain⟨k,n,hb,hk⟩:=Em hk;refine⟨_,hk,Df ?_⟩;unfold execOp;rw[ho];simp[Op.unary,Op.intBits,C4 h hb,Bb1]
 ·cases hk
theorem Aoc{op:BinOp}{k:IntKind}{m n:Int}{t:TypeId}{x y:Operand}{K:PV->Option R}(QS:op ≠ .shl)(HX:op ≠ .shr)(hk:VV op k m n K=some r):
  ∃v,K (.sc v)=some r/\(do eqGuard op t x y (.int k m) (.int k n);binOp op t (.int k m) (.int k n)).run P w=.ok v w:=by
 cases op<;>first
  |exact absurd rfl QS
  |exact absurd rfl HX
  |(obtain⟨hb,hk⟩:=Aq hk;have hb:=of_decide_eq_true hb;exact⟨_,hk,by simp[eqGuard,binOp,Op.intDiv,hb]⟩)
  |exact⟨_,hk,by simp[eqGuard,binOp,-BitVec.toNat_and,-BitVec.toNat_or,-BitVec.toNat_xor,-gt_iff_lt,-ge_iff_le]<;>rfl⟩
theorem Aoi{op:BinOp}{m n:ByteArray}{t:TypeId}{x y:Operand}{K:PV->Option R}(hk:TL op m n K=some r):
  ∃v,K (.sc v)=some r/\(do eqGuard op t x y (.string m) (.string n);binOp op t (.string m) (.string n)).run P w=.ok v w:=by
 cases op<;>first
  |cases hk
  |(obtain⟨hb,hk⟩:=Aq hk;have hb:=of_decide_eq_true hb;exact⟨_,hk,by
    have I7:¬(((m.size+n.size:Nat):Int)>IntKind.i64.max):=by
     have:IntKind.i64.max=9223372036854775807:=rfl;rw[this];omega
    simp only[eqGuard,binOp,Op.stringOp,Br I7];rfl⟩)
  |exact⟨_,hk,by simp only[eqGuard,binOp,Op.stringOp,ByteArray.toList_eq];rfl⟩
end
open Go.RowKit
section
variable {R:Type}{r:R}{P:Program}{N:Nat}{w0:World}{X0:Gc}{Y:Nat->Prop}{β β':Bt}{s:St}{a:Act}{w w':World}{o:Oper}{A:Nat->Prop}
theorem TC{t:TypeId}(hu:P.underlying t=some .bool)(x y:Bool):(Op.equal t (.bool x) (.bool y)).run P w=.ok (x==y) w:=by
 have h:∀d,(Op.equalIn (d+1) t (.bool x) (.bool y)).run P w=.ok (x==y) w:=fun d=>by simp[Op.equalIn,run_underlying hu]
 exact h 9999
theorem DV{t e:TypeId}(hu:P.underlying t=some (.slice e))(x:Option Addr)(n c:Nat):(Op.equal t (.slice x n c) (.slice none 0 0)).run P w=.ok x.isNone w:=by
 have h:∀d,(Op.equalIn (d+1) t (.slice x n c) (.slice none 0 0)).run P w=.ok x.isNone w:=fun d=>by
  cases x<;>simp[Op.equalIn,run_underlying hu]
 exact h 9999
theorem KF{t k e:TypeId}(hu:P.underlying t=some (.map k e)):(Op.equal t (.map none) (.map none)).run P w=.ok true w:=by
 have h:∀d,(Op.equalIn (d+1) t (.map none) (.map none)).run P w=.ok true w:=fun d=>by
  simp[Op.equalIn,run_underlying hu]
 exact h 9999
theorem L8{t:TypeId}(d:Nat){v u:Value}(hv:(∃k m n,P.underlying t=some (.int k)/\v=.int k m/\u=.int k n)\/(∃m n,P.underlying t=some .bool/\v=.bool m/\u=.bool n)\/∃m n,P.underlying t=some .string/\v=.string m/\u=.string n){b:Bool}(hb:∀k m n,v=.int k m->u=.int k n->b=(m==n))(I7:∀m n,v=.bool m->u=.bool n->b=(m==n))(Bfz:∀m n,v=.string m->u=.string n->b=(m==n)):(Op.equalIn (d+1) t v u).run P w=.ok b w:=by
 rcases hv with⟨k,m,n,hu,rfl,rfl⟩|⟨m,n,hu,rfl,rfl⟩|⟨m,n,hu,rfl,rfl⟩
 ·rw[hb k m n rfl rfl];simp[Op.equalIn,run_underlying hu]
 ·rw[I7 m n rfl rfl];simp[Op.equalIn,run_underlying hu]
 ·rw[Bfz m n rfl rfl];simp[Op.equalIn,run_underlying hu]
theorem Yd{t:TypeId}{dsc:TypeDesc}(hu:P.underlying t=some dsc)(hd:Cw P t=false){xs:Array Value}{i:Nat}{v:Value}(hv:xs[i]?=some v):(part t xs i).run P w=.ok v w:=by simp only[part,Sem.run_bind,Sc hu,hd,Result.andThen_ok];simp[hv]
theorem ZC(k:IntKind)(n:Int)(K:Int->Option R):Bk k (.sc (.int k n)) K=K n:=by simp[Bk]
theorem Agk(d : Nat): ∀ (fs : List Field) (i : Nat) (xs ys : Array Value) (ps qs : Ae) (K : Bool -> Option R), Agl P fs i = true -> Qf (fs.map (fty P)) ps qs K = some r ->
    (∀ (j : Nat) p, ps[j]? = some p -> ∃ v, xs[i + j]? = some v /\ Cj w A β p v) -> (∀ (j : Nat) p, qs[j]? = some p -> ∃ v, ys[i + j]? = some v /\ Cj w A β p v) ->
    ∃ b, K b = some r /\ (forIn fs ((none, ()) : Option Bool × Unit) fun (f : Field) (_ : Option Bool × Unit) =>
            if f.name = "_" then pure (ForInStep.yield ((none, ()) : Option Bool × Unit))
            else do
              let x <- part f.type xs f.offset
              let y <- part f.type ys f.offset
              let e <- Op.equalIn (d + 1) f.type x y
              if e = false then pure (ForInStep.done ((some false, ()) : Option Bool × Unit)) else pure (ForInStep.yield ((none, ()) : Option Bool × Unit)) : Sem (Option Bool × Unit)).run P w = .ok (if b then (none, ()) else (some false, ())) w
  | [], i, xs, ys, ps, qs, K, _, hk, _, _ => by
    cases ps with
    | nil => cases qs with
      | nil => exact⟨true, hk, by simp⟩
      | cons q qs => cases hk
    | cons p ps => cases hk
  | f :: fs, i, xs, ys, ps, qs, K, MH, hk, hp, hq => by
    simp only[Agl, Fe] at MH
    obtain⟨⟨⟨Ve, Avf⟩, hty⟩, FM⟩ := MH
    have Ve := Dz Ve
    have VD : f.name ≠ "_" := by simpa using Avf
    cases ps with
    | nil =>
      simp only[Xv] at hk
      cases A4a : fty P f <;> rw[A4a] at hk <;> cases hk
    | cons p ps =>
      cases qs with
      | nil =>
        simp only[Xv] at hk
        cases A4a : fty P f <;> rw[A4a] at hk <;> cases hk
      | cons q qs =>
        obtain⟨v, hv, MJ⟩ := hp 0 p rfl
        obtain⟨u, hu, hqu⟩ := hq 0 q rfl
        rw[ZS] at hv hu
        have main : ∃ b0 dsc, P.underlying f.type = some dsc /\ Cw P f.type = false /\ (Op.equalIn (d + 1) f.type v u).run P w = .ok b0 w /\ Qf (fs.map (fty P)) ps qs (fun r => K (b0 && r)) = some r := by
          simp only[Xv] at hk
          unfold fty at hk
          split at hk
          · rename_i k Np
            obtain⟨m, ZA, Eu⟩ := Fz (show Bk k p _ = some r from hk)
            obtain⟨n, XC, Gb⟩ := Fz Eu
            subst ZA XC
            have Uu : v = .int k m := Az.val (w := w) (A := A) MJ
            have Mk : u = .int k n := Az.val (w := w) (A := A) hqu
            subst Uu Mk
            refine⟨m == n, _, Np, by simp[Cw, Np], L8 d (.inl ⟨k, m, n, Np, rfl, rfl⟩) ?_ ?_ ?_, Gb⟩
            · intro k' m' n' h1 h2; injection h1 with _ h1; injection h2 with _ h2; rw[h1, h2]
            · intro m' n' h1; cases h1
            · intro m' n' h1; cases h1
          · rename_i Np
            obtain⟨m, ZA, Eu⟩ := E3 (show Bn p _ = some r from hk)
            obtain⟨n, XC, Gb⟩ := E3 Eu
            subst ZA XC
            have Uu : v = .bool m := Az.val (w := w) (A := A) MJ
            have Mk : u = .bool n := Az.val (w := w) (A := A) hqu
            subst Uu Mk
            refine⟨m == n, _, Np, by simp[Cw, Np], L8 d (.inr (.inl ⟨m, n, Np, rfl, rfl⟩)) ?_ ?_ ?_, Gb⟩
            · intro k' m' n' h1; cases h1
            · intro m' n' h1 h2; injection h1 with h1; injection h2 with h2; rw[h1, h2]
            · intro m' n' h1; cases h1
          · rename_i Np
            obtain⟨m, ZA, Eu⟩ := Ep (show Bi p _ = some r from hk)
            obtain⟨n, XC, Gb⟩ := Ep Eu
            subst ZA XC
            have Uu : v = .string m := Az.val (w := w) (A := A) MJ
            have Mk : u = .string n := Az.val (w := w) (A := A) hqu
            subst Uu Mk
            refine⟨m == n, _, Np, by simp[Cw, Np], L8 d (.inr (.inr ⟨m, n, Np, rfl, rfl⟩)) ?_ ?_ ?_, Gb⟩
            · intro k' m' n' h1; cases h1
            · intro m' n' h1; cases h1
            · intro m' n' h1 h2; injection h1 with h1; injection h2 with h2; rw[h1, h2]
          · cases hk
        obtain⟨b0, dsc, Np, H4, he, hk⟩ := main
        obtain⟨b, hkb, Ds⟩ := Agk d fs (i + 1) xs ys ps qs _ FM hk (fun j p' hj => by have := hp (j + 1) p' hj; rwa [Jq, Nat.add_comm 1 j]) (fun j p' hj => by have := hq (j + 1) p' hj; rwa [Jq, Nat.add_comm 1 j])
        refine⟨b0 && b, hkb, ?_⟩
        have hpx : (part f.type xs f.offset).run P w = .ok v w := Yd Np H4 (by rw[Ve]; exact hv)
        have hpy : (part f.type ys f.offset).run P w = .ok u w := Yd Np H4 (by rw[Ve]; exact hu)
        cases b0
        · simp[List.forIn_cons, VD, hpx, hpy, he]
        · simp only[Zzm]
          rw[<- Ds]
          simp[List.forIn_cons, VD, hpx, hpy, he]
theorem PW(d:Nat){t:TypeId}{fs:Array Field}(hu:P.underlying t=some (.struct fs))(Fw:P.stoodInHeld t=false)(MH:Agl P fs.toList 0=true){xs ys:Ae}{vx vy:List Value}(hvx:Bw (Cj w A β) xs vx)(hvy:Bw (Cj w A β) ys vy){K:Bool->Option R}(hk:Qf (fs.toList.map (fty P)) xs ys K=some r):
  ∃b,K b=some r/\(Op.equalIn (d+2) t (.agg ⟨vx⟩) (.agg ⟨vy⟩)).run P w=.ok b w:=by
 obtain⟨b,hkb,Ds⟩:=Agk (P:=P) (w:=w) (A:=A) (β:=β) d fs.toList 0 ⟨vx⟩ ⟨vy⟩ xs ys K MH hk (fun j p hj=>by
   obtain⟨v,hv,hc⟩:=hvx.get hj;exact⟨v,by simpa using hv,hc⟩) (fun j p hj=>by
   obtain⟨v,hv,hc⟩:=hvy.get hj;exact⟨v,by simpa using hv,hc⟩)
 refine⟨b,hkb,?_⟩;rw[Array.forIn_toList] at Ds;rw[Op.equalIn];simp[run_underlying hu,Fw];rw[Ds];cases b<;>simp
theorem JY:∀(ts1:List CT){ts2:List CT}{ps qs:Ae}{K:Bool->Option R},Qf (ts1++ts2) ps qs K=some r ->
  Qf ts1 (ps.take ts1.length) (qs.take ts1.length) (fun b=>Qf ts2 (ps.drop ts1.length) (qs.drop ts1.length) fun r'=>K (b&&r'))=some r
 |[],ts2,ps,qs,K,h=>by
  simp only[YX,List.take_zero,Ls,Qf,Zzm];exact h
 |t::ts1,ts2,ps,qs,K,h=>by
  rw[Zzp] at h;cases ps with
  |nil=>cases t<;>cases h
  |cons p ps=>
   cases qs with
   |nil=>cases t<;>cases h
   |cons q qs=>
    simp only[Tt,List.take_succ_cons,List.drop_succ_cons];cases t with
    |int k=>
     obtain⟨m,ZA,h1⟩:=Fz (show Bk k p _=some r from h);obtain⟨n,XC,h2⟩:=Fz h1;subst ZA XC;have:=JY ts1 h2;simp only[<-Bool.and_assoc] at this;exact (ZC _ _ _).trans ((ZC _ _ _).trans this)
    |bool=>
     obtain⟨m,ZA,h1⟩:=E3 (show Bn p _=some r from h);obtain⟨n,XC,h2⟩:=E3 h1;subst ZA XC;have:=JY ts1 h2;simp only[<-Bool.and_assoc] at this;exact this
    |str=>
     obtain⟨m,ZA,h1⟩:=Ep (show Bi p _=some r from h);obtain⟨n,XC,h2⟩:=Ep h1;subst ZA XC;have:=JY ts1 h2;simp only[<-Bool.and_assoc] at this;exact this
    |sl es=>cases h
    |any=>cases h
theorem Afh:∀(ts:List CT){ps qs:Ae}{K:Bool->Option R},Qf ts ps qs K=some r->ps.length=ts.length/\qs.length=ts.length
 |[],ps,qs,K,h=>by
  cases ps with
  |nil=>cases qs with
   |nil=>exact⟨rfl,rfl⟩
   |cons q qs=>cases h
  |cons p ps=>cases h
 |t::ts,ps,qs,K,h=>by
  cases ps with
  |nil=>cases t<;>cases h
  |cons p ps=>
   cases qs with
   |nil=>cases t<;>cases h
   |cons q qs=>
    have go:∃K',Qf ts ps qs K'=some r:=by
     cases t with
     |int k=>
      obtain⟨m,ZA,h1⟩:=Fz (show Bk k p _=some r from h);obtain⟨n,XC,h2⟩:=Fz h1;exact⟨_,h2⟩
     |bool=>
      obtain⟨m,ZA,h1⟩:=E3 (show Bn p _=some r from h);obtain⟨n,XC,h2⟩:=E3 h1;exact⟨_,h2⟩
     |str=>
      obtain⟨m,ZA,h1⟩:=Ep (show Bi p _=some r from h);obtain⟨n,XC,h2⟩:=Ep h1;exact⟨_,h2⟩
     |sl es=>cases h
     |any=>cases h
    obtain⟨K',h'⟩:=go;have:=Afh ts h';exact⟨by simp[this.1],by simp[this.2]⟩
theorem Afj{t:TypeId}{dsc:TypeDesc}(hu:P.underlying t=some dsc)(hd:Cw P t=true)(hi:(P.info? t).isSome=true)(xs:Array Value)(i:Nat):(part t xs i).run P w=.ok (.agg (xs.extract i (i+Bp P t))) w:=by simp only[part,Sem.run_bind,Sc hu,hd,Result.andThen_ok,if_true,D1 hi];rfl
theorem ZF{xs:Array Value}{i n:Nat}{ps:Ae}(hn:n<=ps.length)(hp:∀(j:Nat) p,ps[j]?=some p->∃v,xs[i+j]?=some v/\Cj w A β p v):Bw (Cj w A β) (ps.take n) (xs.extract i (i+n)).toList:=by
 rcases Nat.eq_zero_or_pos n with h0|h0
 ·subst h0;simp[Bw]
 have hl:n-1<ps.length:=by omega
 obtain⟨v,hv,_⟩:=hp (n-1) _ (List.getElem?_eq_getElem hl);have Kx:=(Array.getElem?_eq_some_iff.1 hv).1;refine Bw.of_at (by simp;omega) fun j a b ha hb=>?_
 rw[List.getElem?_take] at ha;split at ha
 ·rename_i hj;obtain⟨v,hv,hc⟩:=hp j a ha;rw[Array.getElem?_toList,Array.getElem?_extract] at hb;split at hb
  ·rw[hv] at hb;cases hb;exact hc
  ·cases hb
 ·cases ha
theorem OY{f:Field}{gs:Array Field}(hu:P.underlying f.type=some (.struct gs)):Afu P f=gs.toList.map (fty P):=by unfold Afu;rw[hu]
theorem Aie{f:Field}(h:∀gs,P.underlying f.type≠some (.struct gs)):Afu P f=[fty P f]:=by
 unfold Afu;split
 ·rename_i gs hu;exact absurd hu (h gs)
 ·rfl
theorem Am7(d : Nat): ∀ (fs : List Field) (i : Nat) (xs ys : Array Value) (ps qs : Ae) (K : Bool -> Option R), Ts P fs i = true -> Qf (FC P fs) ps qs K = some r ->
    (∀ (j : Nat) p, ps[j]? = some p -> ∃ v, xs[i + j]? = some v /\ Cj w A β p v) -> (∀ (j : Nat) p, qs[j]? = some p -> ∃ v, ys[i + j]? = some v /\ Cj w A β p v) ->
    ∃ b, K b = some r /\ (forIn fs ((none, ()) : Option Bool × Unit) fun (f : Field) (_ : Option Bool × Unit) =>
            if f.name = "_" then pure (ForInStep.yield ((none, ()) : Option Bool × Unit))
            else do
              let x <- part f.type xs f.offset
              let y <- part f.type ys f.offset
              let e <- Op.equalIn (d + 2) f.type x y
              if e = false then pure (ForInStep.done ((some false, ()) : Option Bool × Unit)) else pure (ForInStep.yield ((none, ()) : Option Bool × Unit)) : Sem (Option Bool × Unit)).run P w = .ok (if b then (none, ()) else (some false, ())) w
  | [], i, xs, ys, ps, qs, K, _, hk, _, _ => by
    cases ps with
    | nil => cases qs with
      | nil => exact⟨true, hk, by simp⟩
      | cons q qs => cases hk
    | cons p ps => cases hk
  | f :: fs, i, xs, ys, ps, qs, K, MH, hk, hp, hq => by
    simp only[Ts, Fe] at MH
    obtain⟨⟨Ve, Avf⟩, hty⟩ := MH
    have Ve := Dz Ve
    have VD : f.name ≠ "_" := by simpa using Avf
    have main : ∃ b0 v u n, (part f.type xs f.offset).run P w = .ok v w /\ (part f.type ys f.offset).run P w = .ok u w /\ (Op.equalIn (d + 2) f.type v u).run P w = .ok b0 w /\ Ts P fs (i + n) = true /\ Qf (FC P fs) (ps.drop n) (qs.drop n) (fun r' => K (b0 && r')) = some r := by
      have hk := JY (Afu P f) (show Qf (Afu P f ++ FC P fs) ps qs K = some r from hk)
      have Ek := Afh _ hk
      rw[List.length_take, List.length_take] at Ek
      have plain : (∀ gs, P.underlying f.type ≠ some (.struct gs)) -> Ts P fs (i + 1) = true -> (match P.underlying f.type with | some (.int _) => true | some .bool => true | some .string => true | _ => false) = true ->
          ∃ b0 v u n, (part f.type xs f.offset).run P w = .ok v w /\ (part f.type ys f.offset).run P w = .ok u w /\ (Op.equalIn (d + 2) f.type v u).run P w = .ok b0 w /\ Ts P fs (i + n) = true /\ Qf (FC P fs) (ps.drop n) (qs.drop n) (fun r' => K (b0 && r')) = some r := by
        intro hs A4d Xq
        rw[Aie hs] at hk Ek
        simp only[List.length_singleton] at hk Ek
        obtain⟨p, ps, rfl⟩ : ∃ p ps', ps = p :: ps' := by
          cases ps with
          | nil => simp at Ek
          | cons p ps => exact⟨p, ps, rfl⟩
        obtain⟨q, qs, rfl⟩ : ∃ q qs', qs = q :: qs' := by
          cases qs with
          | nil => simp at Ek
          | cons q qs => exact⟨q, qs, rfl⟩
        obtain⟨v, hv, MJ⟩ := hp 0 p rfl
        obtain⟨u, hu, hqu⟩ := hq 0 q rfl
        rw[ZS] at hv hu
        simp only[List.take_succ_cons, List.take_zero, List.drop_succ_cons, Ls] at hk ⊢
        have one : ∃ b0 dsc, P.underlying f.type = some dsc /\ Cw P f.type = false /\ (Op.equalIn (d + 2) f.type v u).run P w = .ok b0 w /\ Qf (FC P fs) ps qs (fun r' => K (b0 && r')) = some r := by
          unfold fty at hk
          split at hk
          · rename_i k Np
            obtain⟨m, ZA, Eu⟩ := Fz (show Bk k p _ = some r from hk)
            obtain⟨n, XC, Gb⟩ := Fz Eu
            subst ZA XC
            have Uu : v = .int k m := Az.val (w := w) (A := A) MJ
            have Mk : u = .int k n := Az.val (w := w) (A := A) hqu
            subst Uu Mk
            have e : ∀ b : Bool, (b && true) = b := Bool.and_true
            simp only[Qf, e] at Gb
            refine⟨m == n, _, Np, by simp[Cw, Np], L8 (d + 1) (.inl ⟨k, m, n, Np, rfl, rfl⟩) ?_ ?_ ?_, Gb⟩
            · intro k' m' n' h1 h2; injection h1 with _ h1; injection h2 with _ h2; rw[h1, h2]
            · intro m' n' h1; cases h1
            · intro m' n' h1; cases h1
          · rename_i Np
            obtain⟨m, ZA, Eu⟩ := E3 (show Bn p _ = some r from hk)
            obtain⟨n, XC, Gb⟩ := E3 Eu
            subst ZA XC
            have Uu : v = .bool m := Az.val (w := w) (A := A) MJ
            have Mk : u = .bool n := Az.val (w := w) (A := A) hqu
            subst Uu Mk
            have e : ∀ b : Bool, (b && true) = b := Bool.and_true
            simp only[Qf, e] at Gb
            refine⟨m == n, _, Np, by simp[Cw, Np], L8 (d + 1) (.inr (.inl ⟨m, n, Np, rfl, rfl⟩)) ?_ ?_ ?_, Gb⟩
            · intro k' m' n' h1; cases h1
            · intro m' n' h1 h2; injection h1 with h1; injection h2 with h2; rw[h1, h2]
            · intro m' n' h1; cases h1
          · rename_i Np
            obtain⟨m, ZA, Eu⟩ := Ep (show Bi p _ = some r from hk)
            obtain⟨n, XC, Gb⟩ := Ep Eu
            subst ZA XC
            have Uu : v = .string m := Az.val (w := w) (A := A) MJ
            have Mk : u = .string n := Az.val (w := w) (A := A) hqu
            subst Uu Mk
            have e : ∀ b : Bool, (b && true) = b := Bool.and_true
            simp only[Qf, e] at Gb
            refine⟨m == n, _, Np, by simp[Cw, Np], L8 (d + 1) (.inr (.inr ⟨m, n, Np, rfl, rfl⟩)) ?_ ?_ ?_, Gb⟩
            · intro k' m' n' h1; cases h1
            · intro m' n' h1; cases h1
            · intro m' n' h1 h2; injection h1 with h1; injection h2 with h2; rw[h1, h2]
          · cases hk
        obtain⟨b0, dsc, Np, H4, he, hk⟩ := one
        exact⟨b0, v, u, 1, Yd Np H4 (by rw[Ve]; exact hv), Yd Np H4 (by rw[Ve]; exact hu), he, A4d, by simpa using hk⟩
      split at hty
      · rename_i k Np
        exact plain (fun gs e => by rw[Np] at e; cases e) hty (by rw[Np])
      · rename_i Np
        exact plain (fun gs e => by rw[Np] at e; cases e) hty (by rw[Np])
      · rename_i Np
        exact plain (fun gs e => by rw[Np] at e; cases e) hty (by rw[Np])
      · rename_i gs Np
        simp only[Fe, Bool.not_eq_true'] at hty
        obtain⟨⟨⟨⟨hfp, Fw⟩, hi⟩, Kx⟩, FM⟩ := hty
        have Kx := Dz Kx
        have Nq : (Afu P f).length = gs.size := by rw[OY Np, List.length_map, Array.length_toList]
        rw[Nq] at hk Ek
        rw[OY Np] at hk
        have hx := ZF (n := gs.size) (by omega) hp
        have hy := ZF (n := gs.size) (by omega) hq
        obtain⟨b0, hkb, he⟩ := PW d Np Fw hfp hx hy hk
        have ha : Cw P f.type = true := by simp[Cw, Np]
        exact⟨b0, _, _, gs.size, by rw[Afj Np ha hi, Ve, Kx], by rw[Afj Np ha hi, Ve, Kx], he, FM, hkb⟩
      · cases hty
    obtain⟨b0, v, u, n, hpx, hpy, he, A4d, hk⟩ := main
    obtain⟨b, hkb, Ds⟩ := Am7 d fs (i + n) xs ys (ps.drop n) (qs.drop n) _ A4d hk (fun j p' hj => by rw[List.getElem?_drop] at hj; have := hp (n + j) p' hj; rwa [<- Jq] at this) (fun j p' hj => by rw[List.getElem?_drop] at hj; have := hq (n + j) p' hj; rwa [<- Jq] at this)
    refine⟨b0 && b, hkb, ?_⟩
    cases b0
    · simp[List.forIn_cons, VD, hpx, hpy, he]
    · simp only[Zzm]
      rw[<- Ds]
      simp[List.forIn_cons, VD, hpx, hpy, he]
theorem VK(d:Nat){t:TypeId}{fs:Array Field}(hu:P.underlying t=some (.struct fs))(Fw:P.stoodInHeld t=false)(MH:Ts P fs.toList 0=true){xs ys:Ae}{vx vy:List Value}(hvx:Bw (Cj w A β) xs vx)(hvy:Bw (Cj w A β) ys vy){K:Bool->Option R}(hk:Qf (FC P fs.toList) xs ys K=some r):
  ∃b,K b=some r/\(Op.equalIn (d+3) t (.agg ⟨vx⟩) (.agg ⟨vy⟩)).run P w=.ok b w:=by
 obtain⟨b,hkb,Ds⟩:=Am7 (P:=P) (w:=w) (A:=A) (β:=β) d fs.toList 0 ⟨vx⟩ ⟨vy⟩ xs ys K MH hk (fun j p hj=>by
   obtain⟨v,hv,hc⟩:=hvx.get hj;exact⟨v,by simpa using hv,hc⟩) (fun j p hj=>by
   obtain⟨v,hv,hc⟩:=hvy.get hj;exact⟨v,by simpa using hv,hc⟩)
 refine⟨b,hkb,?_⟩;rw[Array.forIn_toList] at Ds;rw[Op.equalIn];simp[run_underlying hu,Fw];rw[Ds];cases b<;>simp
theorem Aba(h:Cg N w0 X0 Y β s a w){t:TypeId}{fs:Array Field}{x y:Operand}{op:BinOp}(hop:op=.eql\/op=.neq)(hu:P.underlying t=some (.struct fs))(MH:Abv P t fs=true){xs ys:Ae}(hx:Cu s.tm x=.agg xs)(hy:Cu s.tm y=.agg ys){K:Bool->Option R}(hk:Qf (FC P fs.toList) xs ys K=some r):
  ∃b,K b=some r/\(do eqGuard op t x y (a.eval x) (a.eval y);binOp op t (a.eval x) (a.eval y)).run P w=.ok (.bool (if op=.eql then b else !b)) w:=by
 have hxv:=D7 h x;have hyv:=D7 h y;rw[hx] at hxv;rw[hy] at hyv;obtain⟨vx,Eh,hvx⟩:=hxv;obtain⟨vy,hay,hvy⟩:=hyv;simp only[Abv,Fe,Bool.not_eq_true'] at MH;obtain⟨⟨MH,Fw⟩,heg⟩:=MH;obtain⟨b,hkb,heq⟩:=VK 9997 hu Fw MH hvx hvy hk;have heq:(Op.equal t (.agg ⟨vx⟩) (.agg ⟨vy⟩)).run P w=.ok b w:=heq;refine⟨b,hkb,?_⟩;rw[Eh,hay];rcases hop with rfl|rfl
 ·simp[eqGuard,binOp,heq,heg]
 ·simp[eqGuard,binOp,heq,heg]
theorem Afg(h:Cg N w0 X0 Y β s a w){op:BinOp}{t ty:TypeId}{x y:Operand}(ho:o.op=.binOp op t x y ty){K:PV->Option R}(hk:DG P op t (Cu s.tm x) (Cu s.tm y) K=some r):∃v,K v=some r/\Fq P a w o Y β s v [] []:=by
 have Ds:∀v,(do eqGuard op t x y (a.eval x) (a.eval y);binOp op t (a.eval x) (a.eval y)).run P w=.ok v w->(execOp a.eval o).run P w=.ok (.value v) w:=by
  intro v hv;unfold execOp;rw[ho];simp only[Sem.run_bind] at hv ⊢;rw[hv];rfl
 unfold DG at hk;split at hk
 ·rename_i fs hu;split at hk
  ·obtain⟨MH,hk⟩:=Aq hk;obtain⟨xs,hx,hk⟩:=Jw hk;obtain⟨ys,hy,hk⟩:=Jw hk;obtain⟨b,hk,hr⟩:=Aba h (.inl rfl) hu MH hx hy hk;exact⟨_,hk,Df (Ds _ (by rw[hr];rfl))⟩
  ·obtain⟨MH,hk⟩:=Aq hk;obtain⟨xs,hx,hk⟩:=Jw hk;obtain⟨ys,hy,hk⟩:=Jw hk;obtain⟨b,hk,hr⟩:=Aba h (.inr rfl) hu MH hx hy hk;exact⟨_,hk,Df (Ds _ (by rw[hr];rfl))⟩
  ·cases hk
 ·unfold As1 at hk;split at hk
  ·rename_i k hu;split at hk
   ·obtain⟨m,hx,hk⟩:=Fz hk;obtain⟨k2,n,hy,hk⟩:=Em hk;obtain⟨hb,hk⟩:=Aq hk;have hb:=of_decide_eq_true hb;refine⟨_,hk,Df (Ds _ ?_)⟩;have:¬n<0:=by omega
    simp[eqGuard,binOp,Op.shift,C4 h hx,C4 h hy,this]
   ·obtain⟨m,hx,hk⟩:=Fz hk;obtain⟨k2,n,hy,hk⟩:=Em hk;obtain⟨hb,hk⟩:=Aq hk;have hb:=of_decide_eq_true hb;refine⟨_,hk,Df (Ds _ ?_)⟩;have:¬n<0:=by omega
    simp[eqGuard,binOp,Op.shift,C4 h hx,C4 h hy,this]
   ·rename_i QS HX;obtain⟨m,hx,hk⟩:=Fz hk;obtain⟨n,hy,hk⟩:=Fz hk;obtain⟨v,hk,hr⟩:=Aoc (P:=P) (w:=w) (t:=t) (x:=x) (y:=y) QS HX hk;exact⟨_,hk,Df (Ds _ (by rw[C4 h hx,C4 h hy];exact hr))⟩
  ·rename_i hu;obtain⟨m,hx,hk⟩:=Ep hk;obtain⟨n,hy,hk⟩:=Ep hk;obtain⟨v,hk,hr⟩:=Aoi (P:=P) (w:=w) (t:=t) (x:=x) (y:=y) hk;exact⟨_,hk,Df (Ds _ (by rw[C4 h hx,C4 h hy];exact hr))⟩
  ·rename_i hu;split at hk
   ·obtain⟨m,hx,hk⟩:=E3 hk;obtain⟨n,hy,hk⟩:=E3 hk;refine⟨_,hk,Df (Ds _ ?_)⟩;simp[eqGuard,binOp,C4 h hx,C4 h hy,TC hu]
   ·obtain⟨m,hx,hk⟩:=E3 hk;obtain⟨n,hy,hk⟩:=E3 hk;refine⟨_,hk,Df (Ds _ ?_)⟩;simp[eqGuard,binOp,C4 h hx,C4 h hy,TC hu]
   ·cases hk
  ·rename_i e hu;have hx:=D7 h x
   have nilQ:∀{e:Bool} {K':PV->Option R},SZ e (Cu s.tm x) K'=some r->∃q ad n c,K' q=some r/\a.eval x=.slice ad n c/\(q=.sc (.bool (if ad.isNone then e else !e))\/q=.ub):=by
    intro e K' hq;unfold SZ at hq;split at hq
    ·rename_i e';exact⟨_,none,0,0,hq,C4 h e',.inl rfl⟩
    ·rename_i z es n c e';rcases slice_form (.inl e') hx with⟨Eh,rfl,_⟩|⟨ad,cap,Eh,rfl,_⟩|⟨ad,cap,Eh,rfl,rfl,_⟩
     ·rcases Rv hq with⟨_,hq⟩|⟨_,hq⟩
      ·exact⟨_,none,0,0,hq,Eh,.inl rfl⟩
      ·rcases Rv hq with⟨hb,_⟩|⟨_,hq⟩
       ·exact absurd (of_decide_eq_true hb) (by omega)
       ·exact⟨_,none,0,0,hq,Eh,.inr rfl⟩
     ·rcases Rv hq with⟨hz,_⟩|⟨_,hq⟩
      ·cases hz
      ·rcases Rv hq with⟨_,hq⟩|⟨_,hq⟩
       ·exact⟨_,some ad,n,cap,hq,Eh,.inl rfl⟩
       ·exact⟨_,some ad,n,cap,hq,Eh,.inr rfl⟩
     ·rcases Rv hq with⟨hz,_⟩|⟨_,hq⟩
      ·cases hz
      ·rcases Rv hq with⟨hb,_⟩|⟨_,hq⟩
       ·exact absurd (of_decide_eq_true hb) (by omega)
       ·exact⟨_,some ad,0,cap,hq,Eh,.inr rfl⟩
    ·rename_i id es off n e';rw[e'] at hx;rcases hx with⟨_,_,rfl,ad,Eh⟩|⟨b,ob,y',cap,_,Eh,_⟩
     ·rcases Rv hq with⟨hb,_⟩|⟨_,hq⟩
      ·exact absurd (of_decide_eq_true hb) (by omega)
      ·exact⟨_,ad,0,0,hq,Eh,.inr rfl⟩
     ·rcases Rv hq with⟨_,hq⟩|⟨_,hq⟩
      ·exact⟨_,_,n,cap,hq,Eh,.inl rfl⟩
      ·exact⟨_,_,n,cap,hq,Eh,.inr rfl⟩
    ·cases hq
   split at hk
   ·rename_i hy;obtain⟨q,ad,n,c,hk,Eh,hb⟩:=nilQ hk;rcases hb with rfl|rfl
    ·refine⟨_,hk,Df (Ds _ ?_)⟩;cases ad<;>simp[eqGuard,binOp,Eh,C4 h hy,DV hu]
    ·refine⟨_,hk,Cx (val:=.bool ad.isNone) (Ds _ ?_) (Az.ub _) (by intro i hi;cases hi)⟩
     simp[eqGuard,binOp,Eh,C4 h hy,DV hu]
   ·rename_i hy;obtain⟨q,ad,n,c,hk,Eh,hb⟩:=nilQ hk;rcases hb with rfl|rfl
    ·refine⟨_,hk,Df (Ds _ ?_)⟩;cases ad<;>simp[eqGuard,binOp,Eh,C4 h hy,DV hu]
    ·refine⟨_,hk,Cx (val:=.bool !ad.isNone) (Ds _ ?_) (Az.ub _) (by intro i hi;cases hi)⟩
     simp[eqGuard,binOp,Eh,C4 h hy,DV hu]
   ·cases hk
  ·rename_i kt vt hu;split at hk
   ·rename_i hx hy;refine⟨_,hk,Df (Ds _ ?_)⟩;simp[eqGuard,binOp,C4 h hx,C4 h hy,KF hu]
   ·rename_i hx hy;refine⟨_,hk,Df (Ds _ ?_)⟩;simp[eqGuard,binOp,C4 h hx,C4 h hy,KF hu]
   ·cases hk
  ·cases hk
end
open Go.RowKit
section
variable {R:Type}{r:R}{P:Program}{N:Nat}{w0:World}{X0:Gc}{Y:Nat->Prop}{β β':Bt}{s:St}{a:Act}{w w':World}{o:Oper}{A:Nat->Prop}
theorem PP:∀{c:Ae}{ns:Al},DM c=some ns->c=ns.map (fun n=>.sc (.int .i32 n))
 |[],ns,h=>by simp[DM] at h;subst h;rfl
 |p::c,ns,h=>by
  unfold DM at h;split at h
  ·rename_i e;cases e
  ·rename_i n r e;cases e;cases hr:DM c with
   |none=>rw[hr] at h;cases h
   |some l'=>
    rw[hr] at h;simp at h;subst h;rw[PP hr];rfl
  ·cases h
theorem PH:∀{c:Ae}{l:List UInt8},Ph c=some l->∃ns:Al,c=ns.map (fun n=>.sc (.int .u8 n))/\l=ns.map fun n=>n.toNat.toUInt8
 |[],l,h=>⟨[],rfl,by simp[Ph] at h;subst h;rfl⟩
 |p::c,l,h=>by
  unfold Ph at h;split at h
  ·rename_i e;cases e
  ·rename_i n r e;cases e;cases hr:Ph c with
   |none=>rw[hr] at h;cases h
   |some l'=>
    rw[hr] at h;simp at h;obtain⟨ns,rfl,rfl⟩:=PH hr;exact⟨n::ns,rfl,h.symm⟩
  ·cases h
theorem Y6:∀(ns:Al)(b:ByteArray),ns.foldl (fun r n=>r.push (UInt8.ofNat n.toNat)) b=⟨b.data++(ns.map fun n=>n.toNat.toUInt8).toArray⟩
 |[],b=>by simp
 |n::ns,b=>by
  simp only[List.foldl_cons];rw[Y6 ns];simp[ByteArray.push]
theorem TA(h:Cg N w0 X0 Y β s a w){es:Nat}{x:Operand}{K:Nat->Ae->Option R}(hk:Af4 (M3 s.hp) es (Cu s.tm x) K=some r):
  ∃n c,K n c=some r/\(((∃ad,a.eval x=.slice ad 0 0)/\n=0/\c=[])\/∃ad cap,a.eval x=.slice (some ad) n cap/\n<=cap/\(c=[]\/ad.block<w.heap.size)/\WO w (Dv s.hp β Y) ad c):=by
 have hx:=D7 h x;have WY:=Gv h x;unfold Af4 at hk;split at hk
 ·rename_i id es' off n e;rw[e] at hx WY;cases hb:Nat.beq es' es
  ·rw[hb] at hk;cases hk
  ·rw[hb] at hk;obtain⟨c,hc,hk⟩:=C9 (show Ea _ _=some r from hk);obtain⟨hl,hk⟩:=Aq hk;have hl:=of_decide_eq_true hl;obtain⟨f,Aqu⟩:=Acs hc;refine⟨_,_,hk,?_⟩;rcases hx with⟨_,rfl,rfl,ad,Eh⟩|⟨b,ob,y,cap,hβ,Eh,hy,hn,_,Ci⟩
   ·exact .inl ⟨⟨ad,Eh⟩,rfl,by simp⟩
   ·refine .inr ⟨_,cap,Eh,hn,.inr Ci,fun j p hj=>?_⟩
    have Agp:0<n*es:=by
     rcases Nat.eq_zero_or_pos (n*es) with h0|h0
     ·rw[h0] at hj;simp at hj
     ·exact h0
    have LX:n≠0:=by rintro rfl;simp at Agp
    have hy:y=ob+off:=by rcases hy with hy|⟨h0,_⟩<;>omega
    subst hy;rw[List.getElem?_take] at hj;split at hj
    ·rw[List.getElem?_drop] at hj;rcases h.box id _ Aqu with⟨h1,_⟩|⟨b',o',h1,h2,_⟩
     ·rw[hβ] at h1;cases h1
     ·rw[hβ] at h1;simp at h1;obtain⟨rfl,rfl⟩:=h1
      obtain⟨v,hv,h3,ht⟩:=h2 (off+j) p hj;rw[Et] at hv;exact⟨v,by rw[Et,Jq];exact hv,h3,ht⟩
    ·cases hj
 ·obtain⟨z,n,c,hk,hp⟩:=Ha hk;refine⟨n,c,hk,?_⟩;rcases slice_form hp hx with h1|⟨ad,cap,Eh,_,hn,h1,h2,_,h4⟩|⟨ad,cap,Eh,_,rfl,rfl⟩
  ·exact .inl ⟨⟨none,h1.1⟩,h1.2⟩
  ·exact .inr ⟨ad,cap,Eh,hn,.inr h2,h4⟩
  ·exact .inr ⟨ad,cap,Eh,Nat.zero_le _,.inl rfl,fun j c hj=>by simp at hj⟩
theorem Ao9(b:ByteArray)(j:Nat)(p:PV)(h:(D5 b)[j]?=some p):∃x,b.data[j]?=some x/\p=.sc (.int .u8 x.toNat):=by
 unfold D5 at h;rw[List.getElem?_map] at h;cases hx:b.data.toList[j]? with
 |none=>rw[hx] at h;cases h
 |some x=>
  rw[hx] at h;simp at h;exact⟨x,by simpa using hx,h.symm⟩
theorem Aj2(h:Cg N w0 X0 Y β s a w){src dst:TypeId}{x:Operand}(ho:o.op=.convert src dst x){d:Nat}{K:PV->List (Nat × Ca)->Option R}(hk:RU P (M3 s.hp) d src dst (Cu s.tm x) K=some r):∃v nw,K v nw=some r/\Fq P a w o Y β s v [] nw:=by
 have Ds:∀v w',(convert src dst (a.eval x)).run P w=.ok v w'->(execOp a.eval o).run P w=.ok (.value v) w':=by
  intro v w' hv;unfold execOp;rw[ho];simp[hv]
 unfold RU at hk;split at hk
 ·rename_i k hu;obtain⟨hs,hk⟩:=Aq hk;obtain⟨k',n,hx,hk⟩:=Em hk;exact⟨_,_,hk,Df (Ds _ _ (by rw[C4 h hx];obtain⟨ds,hds⟩:=Option.isSome_iff_exists.1 hs;cases ds<;>simp[convert,run_underlying hds,run_underlying hu,Conv.intToInt]))⟩
 ·rename_i hu;split at hk
  ·rename_i hs;obtain⟨b,hx,hk⟩:=Ep hk;exact⟨_,_,hk,Df (Ds _ _ (by rw[C4 h hx];simp[convert,run_underlying hs,run_underlying hu]))⟩
  ·rename_i e hs;split at hk
   ·rename_i he;obtain⟨n,c,hk,hc⟩:=TA h hk;obtain⟨hl,hk⟩:=Aq hk;have hl:=of_decide_eq_true hl;obtain⟨l,hb,hk⟩:=C9 hk;obtain⟨ns,rfl,rfl⟩:=PH hb;refine⟨_,_,hk,Df (Ds _ _ ?_)⟩;rcases hc with⟨⟨ad,Eh⟩,rfl,hn⟩|⟨ad,cap,Eh,_,_,hrd⟩
    ·have:ns=[]:=by simpa using hn
     subst this;rw[Eh,run_convert_bytes_string w src dst e ad 0 0 hs he hu];cases ad<;>rfl
    ·rw[Eh,run_convert_bytes_string w src dst e _ _ _ hs he hu]
     have hld:(loadCells ad n).run P w=.ok (ns.map (Value.int .u8)).toArray w:=by
      have:=run_loadCells_list (P:=P) w ad (ns.map (Value.int .u8)) (fun j v hj=>by
       rw[List.getElem?_map] at hj;cases hn:ns[j]? with
       |none=>rw[hn] at hj;cases hj
       |some m=>
        rw[hn] at hj;simp at hj;subst hj;obtain⟨v,hv,_,ht⟩:=hrd j (.sc (.int .u8 m)) (by rw[List.getElem?_map,hn];rfl)
        rw[ht.val] at hv;exact hv)
      simp only[List.length_map] at this hl;rw[hl] at this;exact this
     rw[run_bytesToString w ad n cap ns hld,Y6];simp
   ·rename_i he;obtain⟨n,c,hk,hc⟩:=TA h hk;obtain⟨hl,hk⟩:=Aq hk;have hl:=of_decide_eq_true hl;obtain⟨ns,hb,Gb⟩:=C9 hk;have Z5:=PP hb;clear hk;subst Z5;refine⟨_,_,Gb,Df (Ds _ _ ?_)⟩;rcases hc with⟨⟨ad,Eh⟩,HL,hn⟩|⟨ad,cap,Eh,_,_,hrd⟩
    ·have:ns=[]:=by simpa using hn
     subst this;rw[Eh,run_convert_runes_string w src dst e ad _ _ hs he hu];cases ad with
     |none=>rfl
     |some p=>
      have LX:n=0:=by simpa using HL
      subst LX;exact run_runesToString w p 0 0 [] (by simpa using run_loadCells_list (P:=P) w p [] (by simp))
    ·rw[Eh,run_convert_runes_string w src dst e _ _ _ hs he hu]
     have hld:(loadCells ad n).run P w=.ok (ns.map (Value.int .i32)).toArray w:=by
      have:=run_loadCells_list (P:=P) w ad (ns.map (Value.int .i32)) (fun j v hj=>by
       rw[List.getElem?_map] at hj;cases hn:ns[j]? with
       |none=>rw[hn] at hj;cases hj
       |some m=>
        rw[hn] at hj;simp at hj;subst hj;obtain⟨v,hv,_,ht⟩:=hrd j (.sc (.int .i32 m)) (by rw[List.getElem?_map,hn];rfl)
        rw[ht.val] at hv;exact hv)
      simp only[List.length_map] at this hl;rw[hl] at this;exact this
     exact run_runesToString w ad n cap ns hld
   ·cases hk
  ·cases hk
 ·rename_i e hu;split at hk
  ·rename_i he hs;obtain⟨b,hx,hk⟩:=Ep hk;obtain⟨Kx,hk⟩:=Aq hk;have hr:=run_bytes_of_string (P:=P) w src dst e b hs hu he;rw[<-C4 h hx] at hr
   have EN:b.size<=grownCap w b.size 0 e:=by
    unfold grownCap;simp[Question.cut]
   have Aed:(bytesRow b (grownCap w b.size 0 e)).size=grownCap w b.size 0 e:=by
    simp only[bytesRow,Array.size_append,Array.size_map,Array.size_replicate];have:b.data.size=b.size:=rfl;omega
   refine⟨_,_,hk,Wh (c:=bytesRow b (grownCap w b.size 0 e)) (e:=e) (by simp) (Ds _ _ hr) ?_ (fun j p hj=>?_) (.inr ⟨1,b.size,grownCap w b.size 0 e,rfl,rfl,EN,by rw[Aed];omega,.inl rfl⟩)⟩
   ·exact⟨rfl,rfl,rfl,fun i hi=>Below.heap_alloc w.drew _ i hi,by show (w.heap.push _).size=_;simp,_,by show (w.heap.push _)[w.heap.size]?=_;simp;rfl,.inr (Cd _)⟩
   ·obtain⟨y,hy,rfl⟩:=Ao9 b j p hj;refine⟨.int .u8 y.toNat,?_,rfl,Az.sc _⟩
    have Ci:j<b.data.size:=by
     rcases Is j b.data.size with h|h
     ·exact h
     ·rw[Array.getElem?_eq_none h] at hy;cases hy
    simp only[bytesRow];rw[Array.getElem?_append_left (by simpa using Ci),Array.getElem?_map,hy];rfl
  ·cases hk
 ·cases hk
end
open Go.RowKit
section
variable {R:Type}{r:R}{P:Program}{N:Nat}{w0:World}{X0:Gc}{Y:Nat->Prop}{β β':Bt}{s:St}{a:Act}{w w':World}{o:Oper}{A:Nat->Prop}
theorem LN:∀{n:Nat}{l:Ae}{j:Nat}{c:PV},(T9 n l)[j]?=some c->j<n*l.length/\l[j % l.length]?=some c
 |0,l,j,c,h=>by simp[T9] at h
 |n+1,l,j,c,h=>by
  have e:T9 (n+1) l=l++T9 n l:=by simp[T9,List.replicate_succ]
  rw[e] at h;by_cases hj:j<l.length
  ·rw[List.getElem?_append_left hj] at h;refine⟨by rw[Nat.add_mul];omega,?_⟩
   rw[Nat.mod_eq_of_lt hj];exact h
  ·rw[List.getElem?_append_right (by omega)] at h;obtain⟨h1,h2⟩:=LN h;refine⟨by rw[Nat.add_mul];omega,?_⟩
   rw[Nat.mod_eq_sub_mod (by omega)];exact h2
theorem Afm(n:Nat)(l:Ae):(T9 n l).length=n*l.length:=by
 induction n with
 |zero=>simp[T9]
 |succ n ih=>
  have e:T9 (n+1) l=l++T9 n l:=by simp[T9,List.replicate_succ]
  rw[e,Vk,ih,Nat.add_mul];omega
theorem Ahc{z:Array Value}{n j:Nat}(hj:j<n){v:Value}(hv:z[j % z.size]?=some v):(madeCells z n)[j]?=some v:=by unfold madeCells;rw[Array.getElem?_map,Array.getElem?_range,Ch hj];simp only[Option.map_some];rw[getElem!_def,hv]
theorem Ajn(h:Cg N w0 X0 Y β s a w){t:TypeId}{x y:Operand}(ho:o.op=.makeSlice t x y){d:Nat}{K:PV->B7->List (Nat × Ca)->Option R}(hk:(match P.underlying t with
   |some (.slice e)=>Ev (Cu s.tm x) fun _ n=>Ev (Cu s.tm y) fun _ m=>
     Ar (decide (0<=n)&&decide (n<=m)&&decide (m*((P.info? e).map (·.bytes)).getD 0<=1099511627776)&&decide (m<=1099511627776))
      (Jl P e fun z=>K (.view d (Bp P e) 0 n.toNat) [] [(d,.ar false (T9 n.toNat z))])
   |_=>none)=some r):∃v fz nw,K v fz nw=some r/\Fq P a w o Y β s v fz nw:=by
 split at hk
 ·rename_i e hu;obtain⟨k1,n,hx,hk⟩:=Em hk;obtain⟨k2,m,hy,hk⟩:=Em hk;obtain⟨hb,hk⟩:=Aq hk;simp only[Fe,FJ] at hb;obtain⟨⟨⟨h0,RE⟩,AM⟩,hm⟩:=hb;obtain⟨z,cs,hk,hz,hct,hl,Kx,hc⟩:=Uy hk
  have hzc:∃i,P.info? e=some i/\i.zero=some z:=by
   unfold Vs at hz;cases hi:P.info? e with
   |none=>rw[hi] at hz;cases hz
   |some i=>rw[hi] at hz;exact⟨i,rfl,hz⟩
  obtain⟨i,hi,hzi⟩:=hzc;have A8n:Bp P e=i.size:=by simp[Bp,hi]
  simp only[hi,Option.map_some,Option.getD_some] at AM;have hr:=run_make (P:=P) w t e i z hu hi hzi k1 k2 n m h0 RE (by rw[Int.mul_comm];omega) (by omega)
  have Ds:(execOp a.eval o).run P w=.ok (.value (.slice (some ⟨w.heap.size,0,none⟩) n.toNat m.toNat)) (w.alloc (.cells (madeCells z.cells (m.toNat*i.size)) e)):=by
   unfold execOp;rw[ho];simp[C4 h hx,C4 h hy,hr]
  have hzl:z.cells.size=Bp P e:=by
   have:z.cells.toList.length=z.cells.size:=by simp
   omega
  refine⟨_,_,_,hk,Wh (c:=madeCells z.cells (m.toNat*i.size)) (e:=e) (by simp) Ds (Hc.alloc w _ e) (fun j p hj=>?_) (.inr ⟨Bp P e,n.toNat,m.toNat,rfl,rfl,by omega,by rw[size_madeCells,A8n];exact Cd _,.inr (Ou w _ e)⟩)⟩
  obtain⟨h1,h2⟩:=LN hj;obtain⟨hT,u,Mk,h1',hv⟩:=hc _ p h2;refine⟨u,Ahc ?_ ?_,h1',hv _ _⟩
  ·have:n.toNat*cs.length<=m.toNat*i.size:=by
    rw[Kx,A8n];exact Nat.mul_le_mul_right _ (by omega)
   omega
  ·rw[hzl,<-Kx]
   simpa using Mk
 ·cases hk
theorem An3{p:PV}{v:Value}(hp:okP p=true)(hv:E2 w A β p v):Bw (Cj w A β) (cellsOf p) v.cells.toList:=by
 have one:v.oneCell'=true->Cj w A β p v->(∀x,p ≠ .agg x)->Bw (Cj w A β) (cellsOf p) v.cells.toList:=by
  intro h1 h2 h3;have:cellsOf p=[p]:=by cases p<;>first|rfl|exact absurd rfl (h3 _)
  rw[this,Sb h1];exact⟨h2,trivial⟩
 unfold okP at hp;split at hp
 ·obtain⟨vs,rfl,h2⟩:=hv;exact h2
 ·refine one ?_ hv (by simp);have Uu:Az w A _ v:=hv;cases Uu<;>rfl
 ·refine one ?_ hv (by simp);rcases hv with⟨_,_,_,_,rfl⟩|⟨_,_,_,_,_,rfl,_⟩<;>rfl
 ·have:=Vr hv;subst this;exact one rfl hv (by simp)
 ·have:=Vr hv;subst this;exact one rfl hv (by simp)
 ·have:=Vr hv;subst this;exact one rfl hv (by simp)
 ·have:=Vr hv;subst this;exact one rfl hv (by simp)
 ·cases hp
theorem Amv:∀(vs:List Value)(k off:Nat)(cells:Array Value),off+k+vs.length<=cells.size ->
  ((vs.zipIdx k).foldl (fun cs (q:Value × Nat)=>cs.setIfInBounds (off+q.2) q.1) cells).toList=cells.toList.take (off+k)++vs++cells.toList.drop (off+k+vs.length)
 |[],k,off,cells,_=>by simp
 |v::vs,k,off,cells,h=>by
  simp only[List.zipIdx_cons,List.foldl_cons,Tt] at h ⊢;rw[Amv vs (k+1) off _ (by simp;omega)]
  have Ci:off+k<cells.toList.length:=by simp;omega
  simp only[Array.toList_setIfInBounds];rw[show off+(k+1)=off+k+1 from by omega,List.take_succ_eq_append_getElem (by simpa using Ci)];rw[List.getElem_set_self,List.take_set_of_le (Cd _),List.drop_set_of_lt (by omega)];simp only[Zzv,Zzp,WU];rw[show off+k+1+vs.length=off+k+(vs.length+1) from by omega]
theorem WK(h:Cg N w0 X0 Y β s a w){I2:Nat->Option (Nat × Nat)}:∀{parts:List (Nat × Operand)} {pc:Ae}{vc:Array Value}{K:Ae->Option R},
  CH I2 (parts.map fun q=>(q.1,Cu s.tm q.2)) pc K=some r->Bw (Cj w (Dv s.hp β Y) β) pc vc.toList->(∀c∈pc,∀id∈Ay c,s.hp id≠none) ->
  ∃pc' vc',K pc'=some r/\Instr.fill I2 vc (parts.map fun q=>(q.1,a.eval q.2))=some vc'/\Bw (Cj w (Dv s.hp β Y) β) pc' vc'.toList/\pc'.length=pc.length/\∀c∈pc',∀id∈Ay c,s.hp id≠none
 |[],pc,vc,K,hk,hv,hr=>⟨pc,vc,hk,rfl,hv,rfl,hr⟩
 |(i,x)::parts,pc,vc,K,hk,hv,hr=>by
  simp only[Xv] at hk;unfold CH at hk;obtain⟨⟨off,size⟩,Xq,hk⟩:=C9 hk;obtain⟨hb,hk⟩:=Aq hk;simp only[Fe] at hb;obtain⟨⟨hok,Kx⟩,Ys⟩:=hb;have Kx:(cellsOf (Cu s.tm x)).length=size:=Dz Kx;have Ys:off+size<=pc.length:=Sn Ys;have hxc:=An3 hok (D7 h x);have hxl:=hxc.len;have JX:=hv.len;have Mm:vc.toList.length=vc.size:=by simp
  have Z5:(a.eval x).cells.toList.length=(a.eval x).cells.size:=by simp
  have Ahj:=Amv (a.eval x).cells.toList 0 off vc (by omega);simp only[ZS] at Ahj
  have A96:((a.eval x).cells.zipIdx.foldl (fun cs (q:Value × Nat)=>cs.setIfInBounds (off+q.2) q.1) vc).toList=vc.toList.take off++(a.eval x).cells.toList++vc.toList.drop (off+(a.eval x).cells.toList.length):=by
   rw[<-Ahj,<-Array.foldl_toList];simp
  obtain⟨pc',vc',hk,hf,h2,hl,hr'⟩:=WK h (pc:=B3 pc (cellsOf (Cu s.tm x)) off) (vc:=(a.eval x).cells.zipIdx.foldl (fun cs (q:Value × Nat)=>cs.setIfInBounds (off+q.2) q.1) vc) hk (by
    rw[A96,<-hxl];exact (((hv.take off).app hxc).app (hv.drop _))) (by
    intro c hc id B1;unfold B3 at hc;rcases B2.1 hc with hc|hc
    ·rcases B2.1 hc with hc|hc
     ·exact hr c (List.mem_of_mem_take hc) id B1
     ·refine Gv h x id ?_;cases hp:Cu s.tm x with
      |agg cs=>rw[hp] at hc;exact List.mem_flatMap.2 ⟨c,hc,B1⟩
      |tup cs=>rw[hp] at hc;simp[cellsOf] at hc;subst hc;cases B1
      |_=>rw[hp] at hc;simp[cellsOf] at hc;subst hc;exact B1
    ·exact hr c (List.mem_of_mem_drop hc) id B1)
  refine⟨pc',vc',hk,?_,h2,?_,hr'⟩
  ·simp only[Xv,Instr.fill,Xq];rw[Br (by simp;omega)]
   exact hf
  ·rw[hl];simp[B3];omega
theorem Agd{t:TypeId}{z:Value}{cs:Ae}(hl:cs.length=z.cells.toList.length)(hc:∀(j:Nat) c,cs[j]?=some c->FB c/\∃u,z.cells.toList[j]?=some u/\u.oneCell'=true/\∀(w:World)(A:Nat->Prop),Az w A c u)(_ht:Vs P t=some z):
  Bw (Cj w A β) cs z.cells.toList/\∀c∈cs,Ay c=[]:=by
 refine⟨Bw.of_at hl fun i c u hci hu=>?_,fun c hcm=>?_⟩
 ·obtain⟨hT,u',Mk,_,hv⟩:=hc i c hci;rw[hu] at Mk;cases Mk;exact (Qm hT).2 (hv _ _)
 ·obtain⟨j,hj⟩:=List.mem_iff_getElem?.1 hcm;exact Ka (hc j c hj).1
theorem VT:∀{fs:List Field},(fs.all fun f=>VY P f.type)=true->fs.mapM (fun f=>(P.info? f.type).map fun i=>(f.offset,i.size))=some (fs.map fun f=>(f.offset,Bp P f.type))
 |[],_=>rfl
 |f::fs,h=>by
  simp only[List.all_cons,Fe] at h;obtain⟨i,hi⟩:=Option.isSome_iff_exists.1 h.1;simp[List.mapM_cons,hi,VT h.2,Bp]
theorem FT{p q:Nat->Option (Nat × Nat)}(h:∀i,p i=q i)(cells:Array Value)(parts:List (Nat × Value)):Instr.fill p cells parts=Instr.fill q cells parts:=by have:p=q:=funext h;rw[this]
theorem Afv(h:Cg N w0 X0 Y β s a w){t:TypeId}{ps:Array (Nat × Operand)}(ho:o.op=.build t ps){K:PV->Option R}(hk:(Ar (Xh P t&&Cw P t)<|Jl P t fun z=>CH (Yg P t) (ps.toList.map fun q=>(q.1,Cu s.tm q.2)) z fun cs=>Ub (Kv P t) cs 0 fun cs'=>K (.agg cs'))=some r):∃v,K v=some r/\Fq P a w o Y β s v [] []:=by
 obtain⟨Xq,hk⟩:=Aq hk;simp only[Fe] at Xq;obtain⟨Xq,H4⟩:=Xq;obtain⟨z,cs,hk,hz,hct,hl,Kx,hc⟩:=Uy hk;obtain⟨hzr,UZ⟩:=Agd (w:=w) (A:=Dv s.hp β Y) (β:=β) hl hc hz;obtain⟨pc',vc',hk,hf,h2,Ox,hr'⟩:=WK h hk hzr (fun c hcm id B1=>by rw[UZ c hcm] at B1;cases B1)
 obtain⟨qs,hk,hql,NC,hq⟩:=AR hk
 have A3e:P.built t (ps.toList.map fun q=>(q.1,a.eval q.2))=some vc':=by
  have hzi:∃i,P.info? t=some i/\i.zero=some z:=by
   unfold Vs at hz;cases hi:P.info? t with
   |none=>rw[hi] at hz;cases hz
   |some i=>rw[hi] at hz;exact⟨i,rfl,hz⟩
  obtain⟨i,hi,hzi⟩:=hzi;unfold Xh at Xq;unfold Program.built;split at Xq
  ·rename_i fs hu
   have hf':Instr.fill (((fs.toList.map fun f=>(f.offset,Bp P f.type)).toArray)[·]?) z.cells (ps.toList.map fun q=>(q.1,a.eval q.2))=some vc':=by
    rw[<-hf];refine FT (fun j=>?_) _ _;simp[Yg,hu]
   simp only[hi,hu,hzi,VT Xq];exact hf'
  ·rename_i n e hu;obtain⟨ie,hie⟩:=Option.isSome_iff_exists.1 Xq
   have hf':Instr.fill (fun j=>some (j*ie.size,ie.size)) z.cells (ps.toList.map fun q=>(q.1,a.eval q.2))=some vc':=by
    rw[<-hf];refine FT (fun j=>?_) _ _;simp[Yg,hu,Bp,hie]
   simp only[hi,hu,hzi,hie];exact hf'
  ·rename_i e hu;simp[Cw,hu] at H4
  ·cases Xq
 refine⟨_,hk,Cx (val:=.agg vc') ?_ ⟨vc'.toList,rfl,?_⟩ ?_⟩
 ·unfold execOp;rw[ho];have:=run_build (P:=P) w t (ps.map fun q=>(q.1,a.eval q.2)) vc' (by simpa using A3e);simp[this]
 ·refine Bw.of_at (by have:=h2.len;omega) fun j c u hcj hu=>?_
  obtain⟨p,hp,_,_,MJ⟩:=hq j c hcj;rw[Ir] at hp;exact (MJ _ _ _ _ (h2.at_ hp hu)).1
 ·intro id B1;obtain⟨c,hcm,B1⟩:=List.mem_flatMap.1 (show id∈qs.flatMap Ay from B1);obtain⟨j,hj⟩:=List.mem_iff_getElem?.1 hcm;obtain⟨p,hp,_,hpr,_⟩:=hq j c hj;rw[Ir] at hp;exact hr' p (List.mem_of_getElem? hp) id (hpr id B1)
end
open Go.RowKit
section
variable {R:Type}{r:R}{P:Program}{N:Nat}{w0:World}{X0:Gc}{Y:Nat->Prop}{β β':Bt}{s:St}{a:Act}{w w':World}{o:Oper}{A:Nat->Prop}
theorem Ajj(h:Cg N w0 X0 Y β s a w){fz:B7}(Zb:∀id∈fz,∃f c,s.hp id=some (.ar f c)){id:Nat}(hm:id∈fz){f:Bool}{c:Ae}(hb:s.hp id=some (.ar f c)){b ob:Nat}(hβ:β id=some (b,ob)):
  ¬Dv (Ah s.hp fz) β Y b/\WO w (Dv (Ah s.hp fz) β Y) ⟨b,ob,none⟩ c/\b<w.heap.size:=by
 have hf:=h.freeze Zb;have he:Ah s.hp fz id=some (.ar true c):=by rw[Cp,Ch hm,hb];rfl
 rcases hf.box id _ he with⟨h1,_⟩|⟨b',o',h1,h2,_,h4⟩
 ·rw[hβ] at h1;cases h1
 ·rw[hβ] at h1;simp at h1;obtain⟨rfl,rfl⟩:=h1;exact⟨h4 rfl,h2,h.blt id b ob (by rw[hb];simp) hβ⟩
theorem Ao2(h:Cg N w0 X0 Y β s a w){fz:B7}(Zb:∀id∈fz,∃f c,s.hp id=some (.ar f c)){id es off n:Nat}(hm:id∈fz){f:Bool}{c:Ae}(hb:s.hp id=some (.ar f c)){v:Value}(hv:Cj w (Dv s.hp β Y) β (.view id es off n) v):Az w (Dv (Ah s.hp fz) β Y) (.lst false es n ((c.drop off).take (n*es))) v:=by
 rcases hv with⟨_,rfl,rfl,ad,rfl⟩|⟨b,ob,y,cap,hβ,rfl,hy,hn,_,Ci⟩
 ·simp only[Nat.zero_mul,List.take_zero];cases ad with
  |none=>exact Az.lnil false es
  |some p=>exact Az.lemp es p 0
 ·obtain⟨h1,h2,_⟩:=Ajj h Zb hm hb hβ;by_cases LX:n*es=0
  ·rw[LX,List.take_zero];exact Az.lst es n [] ⟨b,y,none⟩ cap (fun _=>undef) rfl Ci h1 hn (by simp) (by simp) (by simp)
  ·have hy:y=ob+off:=by
    rcases hy with hy|⟨h0,_⟩
    ·exact hy
    ·rw[h0] at LX;simp at LX
   subst hy
   have Ey:∀(j:Nat) q,((c.drop off).take (n*es))[j]?=some q->c[off+j]?=some q:=by
    intro j q hq;rw[List.getElem?_take] at hq;split at hq
    ·rw[List.getElem?_drop] at hq;exact hq
    ·cases hq
   refine Az.lst es n _ ⟨b,ob+off,none⟩ cap (fun j=>(w.cell? ⟨b,ob+off+j,none⟩).getD undef) rfl Ci h1 hn (fun j q hq=>?_) (fun j q hq=>?_) (fun j q hq=>?_)
   ·obtain⟨v,hv,_⟩:=h2 _ q (Ey j q hq);rw[Et,<-Jq] at hv;rw[Et,hv];rfl
   ·obtain⟨v,hv,h3,_⟩:=h2 _ q (Ey j q hq);rw[Et,<-Jq] at hv;rw[hv];exact h3
   ·obtain⟨v,hv,_,ht⟩:=h2 _ q (Ey j q hq);rw[Et,<-Jq] at hv;rw[hv];exact ht
theorem Az.zf{A:Nat->Prop}{z:Bool}{es n:Nat}{c:Ae}{v:Value}(h:Az w A (.lst z es n c) v):Az w A (.lst false es n c) v:=by
 cases h with
 |lnil=>exact .lnil _ _
 |lemp=>exact .lemp _ _ _
 |lst _ _ _ a cap f hs hb hA hn hc h1 hr=>exact .lst _ _ _ a cap f hs hb hA hn hc h1 hr
theorem SM(h:Cg N w0 X0 Y β s a w){t:CT}{p:PV}{K:PV->B7->Option R}(hk:Uf (M3 s.hp) t p K=some r):
  ∃c m,K c m=some r/\FB c/\YC p/\(∀id∈m,∃f cc,s.hp id=some (.ar f cc))/\∀fz:B7,(∀id∈m,id∈fz)->(∀id∈fz,∃f cc,s.hp id=some (.ar f cc))->∀v,Cj w (Dv s.hp β Y) β p v->Az w (Dv (Ah s.hp fz) β Y) c v/\v.oneCell'=true:=by
 have tree:∀t',(NQ t' p fun c=>K c [])=some r->∃c m,K c m=some r/\FB c/\YC p/\(∀id∈m,∃f cc,s.hp id=some (.ar f cc))/\∀fz:B7,(∀id∈m,id∈fz)->(∀id∈fz,∃f cc,s.hp id=some (.ar f cc))->∀v,Cj w (Dv s.hp β Y) β p v->Az w (Dv (Ah s.hp fz) β Y) c v/\v.oneCell'=true:=by
  intro t' hk;obtain⟨c,hk,hT,WI,hv⟩:=Rr hk;refine⟨c,[],hk,hT,Yb WI,by simp,fun fz _ Zb v MJ=>?_⟩;obtain⟨h1,h2⟩:=hv _ _ _ _ MJ;exact⟨h1.step (Cs.refl _ _) (fun b _ hb=>hb.imp Xm id),h2⟩
 cases t with
 |sl es=>
  unfold Uf at hk;dsimp only at hk;split at hk
  ·rename_i id es' off n;cases hb:Nat.beq es' es
   ·rw[hb] at hk;cases hk
   ·rw[hb] at hk;have:=Dz hb;subst this;obtain⟨c,hc,hk⟩:=C9 (show Ea _ _=some r from hk);obtain⟨_,hk⟩:=Aq hk;obtain⟨f,Ms⟩:=Acs hc;refine⟨_,[id],hk,trivial,trivial,?_,fun fz hm Zb v hv=>⟨Ao2 h Zb (hm id (by simp)) Ms hv,?_⟩⟩
    ·intro i hi;simp at hi;subst hi;exact⟨f,c,Ms⟩
    ·rcases hv with⟨_,_,_,_,rfl⟩|⟨_,_,_,_,_,rfl,_⟩<;>rfl
  ·obtain⟨z,n,c,hk,hp⟩:=Ha hk;refine⟨_,[],hk,trivial,?_,by simp,fun fz _ Zb v MJ=>?_⟩
   ·rcases hp with rfl|⟨rfl,_⟩<;>trivial
   ·have ht:=GF hp MJ;refine⟨Az.zf (ht.step (Cs.refl _ _) (fun b _ hb=>hb.imp Xm id)),?_⟩;cases ht<;>rfl
 |int k=>exact tree (.int k) hk
 |bool=>exact tree .bool hk
 |str=>exact tree .str hk
 |any=>exact tree .any hk
theorem Ws(h:Cg N w0 X0 Y β s a w):∀{ts:List CT}{ps:Ae}{K:Ae->B7->Option R},Sq (M3 s.hp) ts ps K=some r ->
  ∃cs m,K cs m=some r/\cs.length=ts.length/\ps.length=ts.length/\(∀c∈cs,FB c)/\(∀p∈ps,YC p)/\(∀id∈m,∃f cc,s.hp id=some (.ar f cc)) /\
   ∀fz:B7,(∀id∈m,id∈fz)->(∀id∈fz,∃f cc,s.hp id=some (.ar f cc))->∀vs,Bw (Cj w (Dv s.hp β Y) β) ps vs->Bw (Az w (Dv (Ah s.hp fz) β Y)) cs vs/\∀v∈vs,v.oneCell'=true
 |[],[],K,hk=>⟨[],[],hk,rfl,rfl,by simp,by simp,by simp,fun fz _ _ vs hv=>by
   cases vs with
   |nil=>exact⟨trivial,by simp⟩
   |cons v vs=>exact hv.elim⟩
 |[],_::_,K,hk=>by cases hk
 |_::_,[],K,hk=>by cases hk
 |t::ts,p::ps,K,hk=>by
  unfold Sq at hk;obtain⟨c,m,hk,hT,hF,hm,hv⟩:=SM h hk;obtain⟨cs,ms,hk,hl,Ox,hTs,hFs,VA,Mm⟩:=Ws h hk;refine⟨c::cs,m++ms,hk,by simp[hl],by simp[Ox],?_,?_,?_,fun fz hfm Zb vs h2=>?_⟩
  ·intro x hx;rcases Ce.1 hx with rfl|hx
   ·exact hT
   ·exact hTs x hx
  ·intro x hx;rcases Ce.1 hx with rfl|hx
   ·exact hF
   ·exact hFs x hx
  ·intro x hx;rcases B2.1 hx with hx|hx
   ·exact hm x hx
   ·exact VA x hx
  ·cases vs with
   |nil=>exact h2.elim
   |cons v vs=>
    obtain⟨h3,h4⟩:=hv fz (fun i hi=>hfm i (by simp[hi])) Zb v h2.1;obtain⟨h5,h6⟩:=Mm fz (fun i hi=>hfm i (by simp[hi])) Zb vs h2.2;refine⟨⟨h3,h5⟩,?_⟩;intro x hx;rcases Ce.1 hx with rfl|hx
    ·exact h4
    ·exact h6 x hx
theorem Apn{R':PV->Value->Prop}{cs:Ae}{z:Array Value}(h:Bw R' cs z.toList)(n:Nat):Bw R' (T9 n cs) (madeCells z (n*cs.length)).toList:=by
 have hzl:z.size=cs.length:=by have:=h.len;simp at this;exact this.symm
 refine Bw.of_at ?_ fun j c v hc hv=>?_
 ·rw[Afm];simp[size_madeCells]
 ·obtain⟨h1,h2⟩:=LN hc
  have Ci:j % cs.length<cs.length:=by
   rcases Is (j % cs.length) cs.length with h|h
   ·exact h
   ·rw[List.getElem?_eq_none h] at h2;cases h2
  obtain⟨u,hu,hcu⟩:=h.get h2;have:(madeCells z (n*cs.length))[j]?=some u:=Ahc h1 (by rw[hzl];simpa using hu)
  have Uu:(madeCells z (n*cs.length))[j]?=some v:=by simpa using hv
  rw[this] at Uu;cases Uu;exact hcu
theorem ZQ{A':Nat->Prop}:∀{ps cs:Ae}{vs:List Value},Bw (Cj w (Dv s.hp β Y) β) ps vs->Bw (Az w A') cs vs->Bw (Az w A') (Aec true ps cs) vs
 |[],_,_,_,h=>h
 |_::_,[],_,_,h=>h
 |p::ps,c::cs,[],_,h=>h.elim
 |p::ps,c::cs,v::vs,hp,h=>by
  refine⟨?_,ZQ hp.2 h.2⟩;split
  ·have h1:Az w (Dv s.hp β Y) (.lst true _ 0 []) v:=hp.1;cases h1;exact .lnil true _
  ·exact h.1
theorem NZ(h:Cg N w0 X0 Y β s a w){nz:Bool}{t:TypeId}{n:Nat}{ps:Array (Nat × Operand)}(ho:o.op=.buildSlice t n ps){d:Nat}{K:PV->B7->List (Nat × Ca)->Option R}(hk:(match P.underlying t with
   |some (.slice e)=>Ar (Xh P t&&Nat.ble (n*Bp P e) 16777216) (Jl P e fun z=>CH (Yg P t) (ps.toList.map fun q=>(q.1,Cu s.tm q.2)) (T9 n z) fun cs=>
     Sq (M3 s.hp) (List.replicate n (Kv P e)).flatten cs fun cs' m=>K (.view d (Bp P e) 0 n) m [(d,.ar false (bif nz then Aec true cs cs' else cs'))])
   |_=>none)=some r):∃v fz nw,K v fz nw=some r/\Fq P a w o Y β s v fz nw:=by
 split at hk
 ·rename_i e hu;obtain⟨hb,hk⟩:=Aq hk;simp only[Fe] at hb;have Ys:n*Bp P e<=16777216:=Sn hb.2;have V0:(P.info? e).isSome=true:=by have:=hb.1;unfold Xh at this;rw[hu] at this;exact this
  obtain⟨z,cs,hk,hz,hct,hl,Kx,hc⟩:=Uy hk;obtain⟨hzr,UZ⟩:=Agd (w:=w) (A:=Dv s.hp β Y) (β:=β) hl hc hz;have Bjf:=Apn hzr n
  obtain⟨pc',vc',hk,hf,h2,Ox,hr'⟩:=WK h hk Bjf (fun c hcm id B1=>by
   obtain⟨j,hj⟩:=List.mem_iff_getElem?.1 hcm;obtain⟨_,hg⟩:=LN hj;rw[UZ c (List.mem_of_getElem? hg)] at B1;cases B1)
  obtain⟨qs,m,hk,hql,Xq,hqT,_,hm,hqv⟩:=Ws h hk;obtain⟨h3,h3'⟩:=hqv m (fun _ hi=>hi) hm _ h2
  have h3:Bw (Az w (Dv (Ah s.hp m) β Y)) (bif nz then Aec true pc' qs else qs) vc'.toList:=by
   cases nz
   ·exact h3
   ·exact ZQ h2 h3
  have hf':Instr.fill (fun i=>some (i*Bp P e,Bp P e)) (madeCells z.cells (n*cs.length)) (ps.toList.map fun q=>(q.1,a.eval q.2))=some vc':=by
   rw[<-hf];refine FT (fun i=>?_) _ _;simp[Yg,hu]
  have JX:vc'.size=n*Bp P e:=by
   have h4:=h2.len;rw[Ox,Afm] at h4;simp at h4;rw[<-h4,Kx]
  have Ds:(execOp a.eval o).run P w=.ok (.value (.slice (some ⟨w.heap.size,0,none⟩) n n)) (w.alloc (.cells vc' e)):=by
   unfold execOp;rw[ho];have Bbx:¬(n*Bp P e>2 ^ 24):=by omega
   rw[Kx] at hf';by_cases LX:n*Bp P e=0
   ·simp only[Instr.buildSlice,Sem.run_bind,run_underlying hu,Result.andThen_ok,D1 V0,Br Bbx,LX];rw[LX] at hf';have e0:madeCells z.cells 0=(Array.range 0).map (fun _=>default):=by simp[madeCells]
    rw[e0] at hf';simp[hf',newRow]
   ·simp only[Instr.buildSlice,Sem.run_bind,run_underlying hu,Result.andThen_ok,D1 V0,Br Bbx,Br LX,FF hz];unfold madeCells at hf';simp[hf',newRow]
  refine⟨_,_,_,hk,Wh (c:=vc') (e:=e) hm Ds (Hc.alloc w vc' e) (fun j p hj=>?_) (.inr ⟨Bp P e,n,n,rfl,rfl,Cd _,by rw[JX];exact Cd _,.inr (Ou w vc' e)⟩)⟩
  obtain⟨u,Mk,hp⟩:=h3.get hj;exact⟨u,by simpa using Mk,h3' u (List.mem_of_getElem? Mk),hp⟩
 ·cases hk
theorem Acc(h:Cg N w0 X0 Y β s a w){t:TypeId}{x k:Operand}{ok:Bool}(ho:o.op=.lookup t x k ok){K:PV->Option R}(hk:(match P.underlying t with
   |some (.map kt vt)=>Ar (match P.underlying kt with|some .string=>true|_=>false) (
    match Cu s.tm x with
    |.sc (.map none)=>Bi (Cu s.tm k) fun _=>Ea (Vs P vt) fun z=>cvK P vt z fun v=>Ar (match v with | .tup _=>false|_=>true) (K (bif ok then .tup [v,.sc (.bool false)] else v))
    |_=>none)
   |_=>none)=some r):∃v,K v=some r/\Fq P a w o Y β s v [] []:=by
 split at hk
 ·rename_i kt vt hu;obtain⟨hkt,hk⟩:=Aq hk
  have hkt:P.underlying kt=some .string:=by
   split at hkt
   ·assumption
   ·cases hkt
  split at hk
  ·rename_i hx;obtain⟨b,hkk,hk⟩:=Ep hk;obtain⟨z,hz,hk⟩:=C9 hk;obtain⟨v,hk,hr,hv⟩:=Am1 hk;obtain⟨hnt,hk⟩:=Aq hk
   have hnt:∀cs,v ≠ .tup cs:=by
    rintro cs rfl
    cases hnt
   have hzr:∀w:World,(zeroValue vt).run P w=.ok z w:=by
    intro w;unfold Vs at hz;cases hi:P.info? vt with
    |none=>rw[hi] at hz;cases hz
    |some i=>
     rw[hi] at hz;simp[zeroValue,typeInfo,hi,show i.zero=some z from hz]
   have Ds:(execOp a.eval o).run P w=.ok (.value (if ok then .tuple #[z,.bool false] else z)) w:=by
    unfold execOp;rw[ho];have hck:∀c (n:Nat),(Instr.checkKey c (n+1) kt (.string b)).run P w=.ok () w:=fun c n=>by simp[Instr.checkKey,run_underlying hkt]
    have FA:∀c,(Instr.checkKey c 10000 kt (.string b)).run P w=.ok () w:=fun c=>hck c 9999;cases ok<;>simp[Instr.lookup,run_underlying hu,C4 h hx,C4 h hkk,FA,Instr.findKey,Instr.findNow,run_underlying hkt,hzr]
   refine⟨_,hk,Cx Ds ?_ ?_⟩
   ·cases ok
    ·exact hv _ _ _
    ·refine⟨[z,.bool false],rfl,(Pi hnt).1 (hv _ _ _),?_,trivial⟩;exact Az.sc _
   ·cases ok
    ·intro id B1;simp only[cond_false] at B1;rw[hr] at B1;cases B1
    ·intro id B1;have:Cb (.tup [v,.sc (.bool false)])=Co v++[]:=by simp[Cb,Co,Ay]
     simp only[cond_true] at B1;rw[this,List.append_nil] at B1;have e:Co v=Cb v:=by cases v<;>first|rfl|exact absurd rfl (hnt _)
     rw[e,hr] at B1;cases B1
  ·cases hk
 ·cases hk
end
end
end
end Go.Proofs.YtohcncipgljdkaaGreatDoor.Pv
