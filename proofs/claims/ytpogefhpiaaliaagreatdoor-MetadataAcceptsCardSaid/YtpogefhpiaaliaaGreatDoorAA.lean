/-
  The proof of MetadataAccepts, part 1.
-/
import Derived.Orders
import Derived.LoopN
import Derived.Below
import Derived.Lib.ValidU
import Derived.Lib.Bytealg
import Derived.IntWalk
import Derived.WalkKit
import Derived.WalkLawsBesides
import Derived.Laws.IdiomStrings
import Derived.Laws.MakeOwn
import Derived.Laws.Tables
set_option linter.unusedSimpArgs false
set_option linter.unusedVariables false
namespace Go.Proofs.YtpogefhpiaaliaaGreatDoor.Pv
set_option maxRecDepth 1000000
noncomputable section
theorem Cp:type_of% @Bool.not_true:=@Bool.not_true
theorem Ev:type_of% @Bool.not_false:=@Bool.not_false
theorem De:type_of% @Nat.mul_one:=@Nat.mul_one
theorem Ck:type_of% @Nat.zero_add:=@Nat.zero_add
theorem Er:type_of% @List.drop_zero.{0}:=@List.drop_zero
theorem Hg:type_of% @List.take_of_length_le.{0}:=@List.take_of_length_le
theorem F9:type_of% @List.length_append.{0}:=@List.length_append
theorem Ud:type_of% @List.length_nil.{0}:=@List.length_nil
theorem He:type_of% @List.length_cons.{0}:=@List.length_cons
theorem H6:type_of% @Int.toNat_natCast:=@Int.toNat_natCast
theorem A4:type_of% @if_neg.{1}:=@if_neg
theorem Bn:type_of% @if_pos.{1}:=@if_pos
theorem Zzm:type_of% @Bool.true_and:=@Bool.true_and
theorem Zzp:type_of% @List.cons_append.{0}:=@List.cons_append
theorem UG:type_of% @List.nil_append.{0}:=@List.nil_append
theorem JY:type_of% @Nat.add_zero:=@Nat.add_zero
theorem Zzs:type_of% @Bool.false_and:=@Bool.false_and
theorem FX:type_of% @List.append_assoc.{0}:=@List.append_assoc
theorem Sn:type_of% @List.map_cons.{0,0}:=@List.map_cons
theorem G6:type_of% @Bool.and_eq_true:=@Bool.and_eq_true
theorem GU:type_of% @decide_eq_true_eq:=@decide_eq_true_eq
theorem Ez:type_of% @Nat.eq_of_beq_eq_true:=@Nat.eq_of_beq_eq_true
theorem B7:type_of% @List.mem_cons.{0}:=@List.mem_cons
theorem B4:type_of% @List.mem_append.{0}:=@List.mem_append
theorem J1:type_of% @List.flatMap_cons.{0,0}:=@List.flatMap_cons
theorem Xy:type_of% @List.mem_singleton_self.{0}:=@List.mem_singleton_self
theorem Jp:type_of% @Nat.lt_of_lt_of_le:=@Nat.lt_of_lt_of_le
theorem Sx:type_of% @List.mem_cons_of_mem.{0}:=@List.mem_cons_of_mem
theorem Ya:type_of% @Nat.le_of_ble_eq_true:=@Nat.le_of_ble_eq_true
theorem Mh:type_of% @Nat.lt_or_ge:=@Nat.lt_or_ge
theorem M0:type_of% @List.mem_singleton.{0}:=@List.mem_singleton
theorem Da:type_of% @Nat.le_refl:=@Nat.le_refl
theorem Sq:type_of% @Nat.add_assoc:=@Nat.add_assoc
theorem P6:type_of% @Nat.beq_refl:=@Nat.beq_refl
theorem KS:type_of% @List.mem_cons_self.{0}:=@List.mem_cons_self
theorem GK:type_of% @decide_eq_false_iff_not:=@decide_eq_false_iff_not
theorem Ag0:type_of% @not_false_eq_true:=@not_false_eq_true
theorem Im:type_of% @List.not_mem_nil.{0}:=@List.not_mem_nil
inductive PV where
 |sc (v:Value)
 |lst (z:Bool) (es n:Nat) (cells:List PV)
 |own (es n:Nat) (cells:List PV)
 |view (id es off n:Nat)
 |ptr (id off:Nat)
 |iptr (cells:List PV) (off:Nat)
 |pbox (cells:List PV)
 |agg (cells:List PV)
 |tup (vs:List PV)
 |top
 |ub
abbrev Ab:=List PV
abbrev B8:=List Int
abbrev Cc:=List Nat
inductive Cb where
 |st (cells:Ab)
 |ar (fz:Bool) (cells:Ab)
 |mv
structure St where
 tm:Nat->PV
 hp:Nat->Option Cb
structure Dt where
 vals:Ab
 outs:List Ab
structure Kr where
 shr:FuncId->Bool
 mvd:FuncId->Nat->Bool
 lnd:FuncId->Nat->Bool
 kz:FuncId->Bool
 ext:FuncId->Option (Ab->Option Dt)
def Kr.core(C:Kr):Kr:={ C with ext:=fun _=>none }
def D2{α:Type}(f:Nat->α)(i:Nat)(v:α):Nat->α:=fun j=>bif Nat.beq j i then v else f j
def rd(hp:Nat->Option Cb)(id:Nat):Option Ab:=
 match hp id with
 |some (.st c)=>some c
 |some (.ar _ c)=>some c
 |_=>none
def P7(hp:Nat->Option Cb)(id:Nat):Option Ab:=
 match hp id with
 |some (.ar _ c)=>some c
 |_=>none
inductive CT where
 |int (k:IntKind)
 |bool
 |str
 |sl (es:Nat)
 |any
def Bw(P:Program)(t:TypeId):Nat:=((P.info? t).map (·.size)).getD 0
def C9(P:Program)(t:TypeId):Bool:=
 match P.underlying t with
 |some (.struct _)=>true
 |some (.array _ _)=>true
 |_=>false
def A4k(P:Program):Nat->TypeId->List CT
 |0,_=>[]
 |d+1,t=>
  match P.underlying t with
  |some (.int k)=>[.int k]
  |some .bool=>[.bool]
  |some .string=>[.str]
  |some (.slice e)=>[.sl (Bw P e)]
  |some (.struct fs)=>fs.toList.flatMap fun f=>A4k P d f.type
  |some (.array n e)=>(List.replicate n (A4k P d e)).flatten
  |_=>[.any]
abbrev M5(P:Program)(t:TypeId):List CT:=A4k P 9 t
def Oj(P:Program)(t:TypeId):Bool:=(P.underlying t).isSome&&Nat.beq (M5 P t).length (Bw P t)
abbrev Oy(k:IntKind)(a b:Int):Int:=k.wrap (BitVec.ofInt k.bits a &&& BitVec.ofInt k.bits b).toNat
abbrev YF(k:IntKind)(a b:Int):Int:=k.wrap (BitVec.ofInt k.bits a ||| BitVec.ofInt k.bits b).toNat
abbrev Fj(k:IntKind)(a b:Int):Int:=k.wrap (BitVec.ofInt k.bits a ^^^ BitVec.ofInt k.bits b).toNat
abbrev Aws(k:IntKind)(a b:Int):Int:=k.wrap (BitVec.ofInt k.bits a &&& ~~~BitVec.ofInt k.bits b).toNat
abbrev Hq(k:IntKind)(a b:Int):Int:=k.wrap (a*2 ^ (min b.toNat k.bits))
abbrev Fp(k:IntKind)(a b:Int):Int:=a.fdiv (2 ^ (min b.toNat k.bits))
abbrev A52(k:IntKind)(n:Int):Int:=k.wrap (BitVec.ofInt k.bits (if k.signed then -1 else k.max) ^^^ BitVec.ofInt k.bits n).toNat
section
variable {R:Type}
def Be(k:IntKind)(p:PV)(K:Int->Option R):Option R:=
 match p with
 |.sc (.int k' n)=>if k'=k then K n else none
 |_=>none
def Cg(p:PV)(K:Bool->Option R):Option R:=
 match p with
 |.sc (.bool b)=>K b
 |_=>none
def Ec(p:PV)(K:ByteArray->Option R):Option R:=
 match p with
 |.sc (.string s)=>K s
 |_=>none
def Ow(es:Nat)(p:PV)(K:Bool->Nat->Ab->Option R):Option R:=
 match p with
 |.lst z es' n c=>bif Nat.beq es' es then K z n c else none
 |.sc (.slice none 0 0)=>K true 0 []
 |_=>none
def fsK(es:Nat)(p:PV)(K:PV->Option R):Option R:=
 match p with
 |.view id es' off n=>bif Nat.beq es' es then K (.view id es off n) else none
 |p=>Ow es p fun z n c=>K (.lst z es n c)
def J0(es:Nat)(p:PV)(K:Nat->Ab->Option R):Option R:=
 match p with
 |.own es' n c=>bif Nat.beq es' es then K n c else none
 |_=>none
def As(b:Bool)(K:Option R):Option R:=bif b then K else none
abbrev Aa{α:Type}(x:α)(K:α->Option R):Option R:=K x
def YH(b:Bool)(x y:Option R):Option R:=bif b then x else y
abbrev Bak(x:Nat)(K:Nat->Option R):Option R:=K x
def Asx(x:List Cc)(K:List Cc->Option R):Option R:=K x
def Az(b:Bool)(x y:Option R):Option R:=bif b then x else y
def F3{α:Type}(o:Option α)(K:α->Option R):Option R:=
 match o with
 |some a=>K a
 |none=>none
def Av{α:Type}(l:List α)(K:α->List α->Option R):Option R:=
 match l with
 |a::r=>K a r
 |[]=>none
def Ar{α:Type}(l:List α)(K:Option R):Option R:=
 match l with
 |[]=>K
 |_::_=>none
def Dl(p:PV)(K:Ab->Option R):Option R:=
 match p with
 |.agg c=>K c
 |_=>none
def HB(p:PV)(K:Ab->Option R):Option R:=
 match p with
 |.pbox c=>K c
 |_=>none
def Bj(r:Option Dt)(K:Ab->List Ab->Option R):Option R:=
 match r with
 |some ⟨v,o⟩=>K v o
 |none=>none
def fnK(p:PV)(K:Value->Option R):Option R:=
 match p with
 |.sc (.func f a b)=>K (.func f a b)
 |_=>none
def fvK(p:PV)(K:FuncId->Option R):Option R:=
 match p with
 |.sc (.func (.func f) a b)=>bif a.isEmpty&&b.isEmpty then K f else none
 |_=>none
def NM(t:CT)(p:PV)(K:PV->Option R):Option R:=
 match t with
 |.int k=>Be k p fun n=>K (.sc (.int k n))
 |.bool=>Cg p fun b=>K (.sc (.bool b))
 |.str=>Ec p fun s=>K (.sc (.string s))
 |.sl es=>Ow es p fun z n c=>K (.lst z es n c)
 |.any=>fnK p fun v=>K (.sc v)
def fcK(t:CT)(p:PV)(K:PV->Option R):Option R:=
 match t with
 |.sl es=>fsK es p K
 |t=>NM t p K
def DP:List CT->Ab->Nat->(Ab->Option R)->Option R
 |[],_,_,K=>K []
 |t::ts,cells,off,K=>NM t (cells.getD off .top) fun c=>DP ts cells (off+1) fun r=>K (c::r)
def Xp:List CT->Ab->Nat->(Ab->Option R)->Option R
 |[],_,_,K=>K []
 |t::ts,cells,off,K=>fcK t (cells.getD off .top) fun c=>Xp ts cells (off+1) fun r=>K (c::r)
def mkV(agg:Bool)(cells:Ab)(K:PV->Option R):Option R:=
 bif agg then K (.agg cells) else Av cells fun c r=>Ar r (K c)
def cellsOf:PV->Ab
 |.agg c=>c
 |p=>[p]
def cvK(P:Program)(t:TypeId)(v:Value)(K:PV->Option R):Option R:=
 match v with
 |.agg cs=>As (Nat.beq cs.toList.length (M5 P t).length) (DP (M5 P t) (cs.toList.map .sc) 0 fun c=>K (.agg c))
 |.slice none 0 0=>
  match P.underlying t with
  |some (.slice e)=>K (.lst true (Bw P e) 0 [])
  |_=>none
 |v=>K (.sc v)
end
def Dd(tm:Nat->PV):Operand->PV
 |.tmp t=>tm t
 |.const (.agg cs)=>.agg (cs.toList.map .sc)
 |.const v=>.sc v
 |.func f=>.sc (.func (.func f) #[] #[])
 |.global g=>.sc (.pointer (some ⟨g,0,none⟩))
section
variable {R:Type}
def Fk(p:PV)(K:IntKind->Int->Option R):Option R:=
 match p with
 |.sc (.int k n)=>K k n
 |_=>none
def Aju(rdf:Nat->Option Ab)(es:Nat)(p:PV)(K:Nat->Ab->Option R):Option R:=
 match p with
 |.view id es' off n=>bif Nat.beq es' es then F3 (rdf id) fun c=>As (decide (off+n*es<=c.length)) (K n ((c.drop off).take (n*es))) else none
 |p=>Ow es p fun _ n c=>K n c
def Wa(rdf:Nat->Option Ab)(t:CT)(p:PV)(K:PV->Cc->Option R):Option R:=
 match t with
 |.sl es=>
  match p with
  |.view id es' off n=>bif Nat.beq es' es then F3 (rdf id) fun c=>As (decide (off+n*es<=c.length)) (K (.lst false es n ((c.drop off).take (n*es))) [id]) else none
  |p=>Ow es p fun _ n c=>K (.lst false es n c) []
 |t=>NM t p fun c=>K c []
def U0(rdf:Nat->Option Ab):List CT->Ab->(Ab->Cc->Option R)->Option R
 |[],[],K=>K [] []
 |t::ts,p::ps,K=>Wa rdf t p fun c m=>U0 rdf ts ps fun cs ms=>K (c::cs) (m++ms)
 |_,_,_=>none
def Ali(P:Program)(rdf:Nat->Option Ab)(t:TypeId)(p:PV)(K:PV->Cc->Option R):Option R:=
 bif C9 P t then Dl p fun ps=>U0 rdf (M5 P t) ps fun cs m=>K (.agg cs) m
 else U0 rdf (M5 P t) [p] fun cs m=>Av cs fun c r=>Ar r (K c m)
def VC(P:Program)(rdf:Nat->Option Ab):List TypeId->Ab->(Ab->Cc->Option R)->Option R
 |[],[],K=>K [] []
 |t::ts,p::ps,K=>Ali P rdf t p fun v m=>VC P rdf ts ps fun vs ms=>K (v::vs) (m++ms)
 |_,_,_=>none
def Ath(shr:Bool)(id:Nat)(t:CT)(p:PV)(K:PV->List (Nat × Cb)->Option R):Option R:=
 match t with
 |.sl es=>bif shr then Ow es p fun _ n c=>K (.lst false es n c) [] else J0 es p fun n c=>K (.view id es 0 n) [(id,.ar false c)]
 |t=>NM t p fun c=>K c []
def Yu(shr:Bool)(N:Nat):Nat->List CT->Ab->(Ab->List (Nat × Cb)->Option R)->Option R
 |_,[],ps,K=>Ar ps (K [] [])
 |id,t::ts,ps,K=>Av ps fun p ps=>Ath shr id t p fun c b=>Yu shr N (id+N) ts ps fun cs bs=>K (c::cs) (b++bs)
def MQ(P:Program)(t:TypeId):Option TypeId:=
 match P.underlying t with
 |some (.pointer e)=>some e
 |_=>none
def Aho(P:Program)(t:TypeId):Nat:=
 match MQ P t with
 |some e=>1+(M5 P e).length
 |none=>(M5 P t).length
def Ape(P:Program)(shr:Bool)(N:Nat)(id:Nat)(t:TypeId)(p:PV)(K:PV->List (Nat × Cb)->Option R):Option R:=
 match MQ P t with
 |some e=>HB p fun ps=>Yu shr N (id+N) (M5 P e) ps fun cs bs=>K (.ptr id 0) ((id,.st cs)::bs)
 |none=>
 bif C9 P t then Dl p fun ps=>Yu shr N id (M5 P t) ps fun cs bs=>K (.agg cs) bs
 else Yu shr N id (M5 P t) [p] fun cs bs=>Av cs fun c r=>Ar r (K c bs)
def QH(P:Program)(shr:Bool)(N:Nat):Nat->List TypeId->Ab->(Ab->List (Nat × Cb)->Option R)->Option R
 |_,[],ps,K=>Ar ps (K [] [])
 |id,t::ts,ps,K=>Av ps fun p ps=>Ape P shr N id t p fun v bs=>QH P shr N (id+N*Aho P t) ts ps fun vs bs'=>K (v::vs) (bs++bs')
def Um(P:Program)(t:TypeId):List TypeId:=
 match P.underlying t with
 |some (.tuple ts)=>ts.toList
 |_=>[t]
def Ux(vs:Ab)(t:Bool):PV:=bif t then .tup vs else vs.headD .top
def Wy(P:Program)(t:TypeId):Bool:=
 match P.underlying t with
 |some (.tuple _)=>true
 |_=>false
def Ax5(op:BinOp)(a b:Int)(K:Bool->Option R):Option R:=
 match op with
 |.eql=>K (a==b)
 |.neq=>K (a != b)
 |.lss=>K (decide (a<b))
 |.leq=>K (decide (a<=b))
 |.gtr=>K (decide (a>b))
 |.geq=>K (decide (a>=b))
 |_=>none
def UU(op:BinOp)(k:IntKind)(a b:Int)(K:PV->Option R):Option R:=
 match op with
 |.add=>Aa ((k.wrap (a+b))) fun n=>K (.sc (.int k n))
 |.sub=>Aa ((k.wrap (a-b))) fun n=>K (.sc (.int k n))
 |.mul=>Aa ((k.wrap (a*b))) fun n=>K (.sc (.int k n))
 |.quo=>As (decide (b≠0)) (Aa ((k.wrap (a.tdiv b))) fun n=>K (.sc (.int k n)))
 |.rem=>As (decide (b≠0)) (Aa ((a.tmod b)) fun n=>K (.sc (.int k n)))
 |.and=>Aa (Oy k a b) fun n=>K (.sc (.int k n))
 |.or=>Aa (YF k a b) fun n=>K (.sc (.int k n))
 |.xor=>Aa (Fj k a b) fun n=>K (.sc (.int k n))
 |.andNot=>Aa (Aws k a b) fun n=>K (.sc (.int k n))
 |op=>Ax5 op a b fun r=>K (.sc (.bool r))
def XM(op:BinOp)(x y:ByteArray)(K:PV->Option R):Option R:=
 match op with
 |.add=>As (decide (x.size+y.size<=9223372036854775807)) (Aa (x++y) fun s=>K (.sc (.string s)))
 |.eql=>K (.sc (.bool (x.data.toList==y.data.toList)))
 |.neq=>K (.sc (.bool !(x.data.toList==y.data.toList)))
 |.lss=>K (.sc (.bool (Op.bytesLess x.data.toList y.data.toList)))
 |.leq=>K (.sc (.bool (Op.bytesLess x.data.toList y.data.toList||x.data.toList==y.data.toList)))
 |.gtr=>K (.sc (.bool !(Op.bytesLess x.data.toList y.data.toList||x.data.toList==y.data.toList)))
 |.geq=>K (.sc (.bool !(Op.bytesLess x.data.toList y.data.toList)))
 |_=>none
def WW(e:Bool)(p:PV)(K:PV->Option R):Option R:=
 match p with
 |.sc (.slice none 0 0)=>K (.sc (.bool e))
 |.lst z _ n _=>Az z (K (.sc (.bool e))) (Az (decide (0<n)) (K (.sc (.bool !e))) (K .ub))
 |.view _ _ _ n=>Az (decide (0<n)) (K (.sc (.bool !e))) (K .ub)
 |_=>none
def Aik(P:Program):List Field->Nat->Bool
 |[],_=>true
 |f::r,i=>Nat.beq f.offset i&&(f.name != "_")&&(match P.underlying f.type with|some (.int _)=>true|some .bool=>true|some .string=>true|_=>false)&&Aik P r (i+1)
def Uw(P:Program):List Field->Nat->Bool
  |[],_=>true
  |f::r,i=>Nat.beq f.offset i&&(f.name != "_") &&
    (match P.underlying f.type with
     |some (.int _)=>Uw P r (i+1)
     |some .bool=>Uw P r (i+1)
     |some .string=>Uw P r (i+1)
     |some (.struct gs)=>Aik P gs.toList 0 && !P.stoodInHeld f.type&&(P.info? f.type).isSome&&Nat.beq (Bw P f.type) gs.size&&Uw P r (i+gs.size)
     |_=>false)
def Aee(P:Program)(t:TypeId)(fs:Array Field):Bool:=Uw P fs.toList 0 && !P.stoodInHeld t && !P.eqGuardType P.depth t
def fty(P:Program)(f:Field):CT:=
 match P.underlying f.type with
 |some (.int k)=>.int k
 |some .bool=>.bool
 |some .string=>.str
 |_=>.any
def Afp(P:Program)(f:Field):List CT:=
 match P.underlying f.type with
 |some (.struct gs)=>gs.toList.map (fty P)
 |_=>[fty P f]
def HC(P:Program):List Field->List CT
 |[]=>[]
 |f::r=>Afp P f++HC P r
def Sk:List CT->Ab->Ab->(Bool->Option R)->Option R
 |[],[],[],K=>K true
 |.int k::ts,p::ps,q::qs,K=>Be k p fun a=>Be k q fun b=>Sk ts ps qs fun r=>K ((a==b)&&r)
 |.bool::ts,p::ps,q::qs,K=>Cg p fun a=>Cg q fun b=>Sk ts ps qs fun r=>K ((a==b)&&r)
 |.str::ts,p::ps,q::qs,K=>Ec p fun a=>Ec q fun b=>Sk ts ps qs fun r=>K ((a==b)&&r)
 |_,_,_,_=>none
def Ato(P:Program)(op:BinOp)(t:TypeId)(x y:PV)(K:PV->Option R):Option R:=
 match P.underlying t with
 |some (.int k)=>
  match op with
  |.shl=>Be k x fun a=>Fk y fun _ b=>As (decide (0<=b)) (Aa (Hq k a b) fun n=>K (.sc (.int k n)))
  |.shr=>Be k x fun a=>Fk y fun _ b=>As (decide (0<=b)) (Aa (Fp k a b) fun n=>K (.sc (.int k n)))
  |op=>Be k x fun a=>Be k y fun b=>UU op k a b K
 |some .string=>Ec x fun a=>Ec y fun b=>XM op a b K
 |some .bool=>
  match op with
  |.eql=>Cg x fun a=>Cg y fun b=>K (.sc (.bool (a==b)))
  |.neq=>Cg x fun a=>Cg y fun b=>K (.sc (.bool !(a==b)))
  |_=>none
 |some (.slice _)=>
  match op,y with
  |.eql,.sc (.slice none 0 0)=>WW true x K
  |.neq,.sc (.slice none 0 0)=>WW false x K
  |_,_=>none
 |_=>none
def EZ(P:Program)(op:BinOp)(t:TypeId)(x y:PV)(K:PV->Option R):Option R:=
 match P.underlying t with
 |some (.struct fs)=>
  match op with
  |.eql=>As (Aee P t fs) (Dl x fun xs=>Dl y fun ys=>Sk (HC P fs.toList) xs ys fun b=>K (.sc (.bool b)))
  |.neq=>As (Aee P t fs) (Dl x fun xs=>Dl y fun ys=>Sk (HC P fs.toList) xs ys fun b=>K (.sc (.bool !b)))
  |_=>none
 |_=>Ato P op t x y K
def unK(op:UnOp)(x:PV)(K:PV->Option R):Option R:=
 match op with
 |.not=>Cg x fun b=>K (.sc (.bool !b))
 |.neg=>Fk x fun k n=>Aa (k.wrap (0-n)) fun n=>K (.sc (.int k n))
 |.xor=>Fk x fun k n=>Aa (A52 k n) fun n=>K (.sc (.int k n))
 |_=>none
def bytesOf:Ab->Option (List UInt8)
 |[]=>some []
 |.sc (.int .u8 n)::r=>(bytesOf r).map (n.toNat.toUInt8 :: ·)
 |_::_=>none
def Ej(s:ByteArray):Ab:=s.data.toList.map fun b=>.sc (.int .u8 b.toNat)
def TL(P:Program)(rdf:Nat->Option Ab)(d:Nat)(src dst:TypeId)(x:PV)(K:PV->List (Nat × Cb)->Option R):Option R:=
 match P.underlying dst with
 |some (.int k)=>As (P.underlying src).isSome (Fk x fun _ n=>Aa (k.wrap n) fun n=>K (.sc (.int k n)) [])
 |some .string=>
  match P.underlying src with
  |some .string=>Ec x fun s=>K (.sc (.string s)) []
  |some (.slice e)=>
   match P.underlying e with
   |some (.int .u8)=>Aju rdf 1 x fun n c=>As (decide (c.length=n)) (F3 (bytesOf c) fun b=>K (.sc (.string ⟨b.toArray⟩)) [])
   |_=>none
  |_=>none
 |some (.slice e)=>
  match P.underlying e,P.underlying src with
  |some (.int .u8),some .string=>Ec x fun s=>As (decide (s.size<=1099511627776)) (K (.view d 1 0 s.size) [(d,.ar false (Ej s))])
  |_,_=>none
 |_=>none
def Ku(p:Option PV)(dflt:Nat)(K:Nat->Option R):Option R:=
 match p with
 |none=>K dflt
 |some p=>Fk p fun _ i=>As (decide (0<=i)) (K i.toNat)
def NN(P:Program)(rdf:Nat->Option Ab)(t:TypeId)(x:PV)(lo hi:Option PV)(K:PV->Option R):Option R:=
 match P.underlying t with
 |some .string=>Ec x fun s=>Ku lo 0 fun l=>Ku hi s.size fun h=>As (decide (l<=h)&&decide (h<=s.size)) (Aa (s.extract l h) fun s=>K (.sc (.string s)))
 |some (.slice e)=>As (P.info? e).isSome (
  match x with
  |.view id es off n=>As (Nat.beq es (Bw P e)) (Ku lo 0 fun l=>Ku hi n fun h=>As (decide (l<=h)&&decide (h<=n)) (Aa (off+l*es) fun o=>Aa (h-l) fun n=>K (.view id es o n)))
  |x=>Ow (Bw P e) x fun z n c=>Ku lo 0 fun l=>Ku hi n fun h=>As (decide (l<=h)&&decide (h<=n)) (Aa (h-l) fun n=>Aa ((c.drop (l*Bw P e)).take (n*Bw P e)) fun c=>K (.lst z (Bw P e) n c)))
 |some (.array n e)=>As (P.info? e).isSome (
  match x with
  |.ptr id off=>F3 (rdf id) fun c=>As (decide (1<=n*Bw P e)&&decide (off+n*Bw P e<=c.length))<|Ku lo 0 fun l=>Ku hi n fun h=>As (decide (l<=h)&&decide (h<=n)) (Aa (off+l*Bw P e) fun o=>Aa (h-l) fun n=>K (.view id (Bw P e) o n))
  |_=>none)
 |_=>none
def FL(P:Program)(d:Nat)(t:TypeId)(x:PV)(lo hi mx:Option PV)(K:PV->List (Nat × Cb)->Option R):Option R:=
 match P.underlying t with
 |some (.slice e)=>As ((P.info? e).isSome&&hi.isSome) (
  match x with
  |.view _ es _ n=>As (Nat.beq es (Bw P e)) (Ku lo 0 fun l=>Ku hi n fun h=>Ku mx n fun m=>As (Nat.beq l m&&Nat.beq h m&&decide (m<=n)) (K (.view d (Bw P e) 0 0) [(d,.ar false [])]))
  |x=>Ow (Bw P e) x fun _ n _=>Ku lo 0 fun l=>Ku hi n fun h=>Ku mx n fun m=>As (Nat.beq l m&&Nat.beq h m&&decide (m<=n)) (K (.view d (Bw P e) 0 0) [(d,.ar false [])]))
 |_=>none
def EJ(x:PV)(d:Nat)(K:PV->Option R):Option R:=
 match x with
 |.ptr id off=>K (.ptr id (off+d))
 |.iptr c off=>K (.iptr c (off+d))
 |_=>none
def WJ(P:Program)(e:TypeId):Bool:=(P.info? e).isSome
def Ye(P:Program)(t:TypeId)(f:Nat):Option (Nat × TypeId):=
 match P.underlying t with
 |some (.struct fs)=>(fs[f]?).map fun g=>(g.offset,g.type)
 |_=>none
def Qt(P:Program)(t:TypeId)(x:PV)(i:Int)(K:PV->Option R):Option R:=
 match P.underlying t with
 |some (.array n e)=>As (WJ P e) (As (decide (0<=i)&&decide (i<n)) (EJ x (i.toNat*Bw P e) K))
 |some (.slice e)=>As (WJ P e) (
  match x with
  |.view id es off n=>As (Nat.beq es (Bw P e)) (As (decide (0<=i)&&decide (i<n)) (K (.ptr id (off+i.toNat*es))))
  |x=>Ow (Bw P e) x fun _ n c=>As (decide (0<=i)&&decide (i<n)) (K (.iptr c (i.toNat*Bw P e))))
 |_=>none
def VM(P:Program)(rdf:Nat->Option Ab)(t:TypeId)(x:PV)(K:PV->Option R):Option R:=
 match x with
 |.ptr id off=>As (Oj P t) (F3 (rdf id) fun c=>Xp (M5 P t) c off fun cs=>mkV (C9 P t) cs K)
 |.iptr c off=>As (Oj P t) (DP (M5 P t) c off fun cs=>mkV (C9 P t) cs K)
 |_=>none
def Ad4:PV->PV
 |.lst _ es n c=>.lst false es n c
 |p=>p
def Aqg:PV->PV
 |.agg cs=>.agg (cs.map Ad4)
 |p=>Ad4 p
def LH(P:Program)(rdf rdaf:Nat->Option Ab)(t:TypeId)(x:PV)(K:PV->Option R):Option R:=
 match x with
 |.ptr id off=>As (Oj P t) (
  match rdaf id with
  |some c=>DP (M5 P t) c off fun cs=>mkV (C9 P t) cs fun v=>K (Aqg v)
  |none=>F3 (rdf id) fun c=>Xp (M5 P t) c off fun cs=>mkV (C9 P t) cs K)
 |.iptr c off=>As (Oj P t) (DP (M5 P t) c off fun cs=>mkV (C9 P t) cs fun v=>K (Aqg v))
 |_=>none
def B0(cells new:Ab)(off:Nat):Ab:=cells.take off++new++cells.drop (off+new.length)
def okP:PV->Bool
 |.agg _=>true
 |.lst _ _ _ _=>true
 |.view _ _ _ _=>true
 |.sc (.int _ _)=>true
 |.sc (.bool _)=>true
 |.sc (.string _)=>true
 |.sc (.slice none 0 0)=>true
 |_=>false
def DA(Kx:Nat->Option (Nat × Nat)):List (Nat × PV)->Ab->(Ab->Option R)->Option R
 |[],cells,K=>K cells
 |(i,p)::r,cells,K=>F3 (Kx i) fun q=>As (okP p&&Nat.beq (cellsOf p).length q.2&&Nat.ble (q.1+q.2) cells.length) (Aa (B0 cells (cellsOf p) q.1) fun cells=>DA Kx r cells K)
def Z3(P:Program)(t:TypeId)(i:Nat):Option (Nat × Nat):=
 match P.underlying t with
 |some (.struct fs)=>(fs[i]?).map fun f=>(f.offset,Bw P f.type)
 |some (.array _ e)=>some (i*Bw P e,Bw P e)
 |some (.slice e)=>some (i*Bw P e,Bw P e)
 |_=>none
def X4(P:Program)(t:TypeId):Bool:=
 match P.underlying t with
 |some (.struct fs)=>fs.toList.all fun f=>WJ P f.type
 |some (.array _ e)=>WJ P e
 |some (.slice e)=>WJ P e
 |_=>false
def HP(P:Program)(t:TypeId):Option Value:=(P.info? t).bind (·.zero)
def Lh(P:Program)(t:TypeId)(K:Ab->Option R):Option R:=
 F3 (HP P t) fun v=>As (Nat.beq v.cells.toList.length (M5 P t).length&&Oj P t) (DP (M5 P t) (v.cells.toList.map .sc) 0 K)
def EA(P:Program)(t:TypeId):Bool:=
 match P.underlying t with
 |some (.array _ _)=>true
 |_=>false
def As4(P:Program)(t:TypeId)(cells:Ab):Cb:=bif EA P t then .ar false cells else .st cells
def Zi(n:Nat)(l:Ab):Ab:=(List.replicate n l).flatten
def Ayq(a b:PV)(K:PV->Option R):Option R:=Fk a fun k x=>Be k b fun y=>Aa (if y<x then y else x) fun n=>K (.sc (.int k n))
def Azn(a b:PV)(K:PV->Option R):Option R:=Fk a fun k x=>Be k b fun y=>Aa (if x<y then y else x) fun n=>K (.sc (.int k n))
def Ao1(P:Program)(t:TypeId)(x:PV)(K:Nat->Option R):Option R:=
 match P.underlying t with
 |some .string=>Ec x fun s=>K s.size
 |some (.array n _)=>K n
 |some (.slice e)=>
  match x with
  |.view _ es _ n=>As (Nat.beq es (Bw P e)) (K n)
  |x=>Ow (Bw P e) x fun _ n _=>K n
 |_=>none
end
abbrev Bq:=FuncId->Ab->Option Dt
section
variable {R:Type}
def Pj(P:Program)(ts:List TypeId):Bool:=ts.any fun t=>(MQ P t).isSome||(M5 P t).any fun c=>match c with | .sl _=>true|_=>false
def OM(P:Program)(t:TypeId)(tm:Nat->PV)(x:Operand)(K:PV->Option R):Option R:=
 match x with
 |.const v=>cvK P t v K
 |x=>K (Dd tm x)
def Aem(P:Program)(e:TypeId):Bool:=
 match P.info? e with
 |some i=>(match i.zero with|some z=>Nat.beq z.cells.size i.size|none=>false)
 |none=>false
def Ak5(P:Program)(rdaf:Nat->Option Ab)(es:Nat)(t:TypeId)(x:PV)(K:Nat->Ab->Option R):Option R:=
 match P.underlying t with
 |some .string=>As (Nat.beq es 1) (Ec x fun b=>K b.size (Ej b))
 |some (.slice _)=>Aju rdaf es x K
 |_=>none
abbrev Ajs(P:Program)(s:St)(es:Nat)(t:TypeId)(x:PV)(K:Nat->Ab->Option R):Option R:=Ak5 P (P7 s.hp) es t x K
def MK(c:Call):Bool:=
 match c.args.toList with
 |.const (.slice none 0 0)::_=>true
 |_=>false
def FO(P:Program)(rdaf:Nat->Option Ab)(d:Nat)(t tx:TypeId)(x:PV)(K:PV->List (Nat × Cb)->Option R):Option R:=
 match P.underlying t with
 |some (.slice e)=>As (Aem P e) <|
  Ak5 P rdaf (Bw P e) tx x fun m new=>
   As (decide (new.length=m*Bw P e)&&decide (m*((P.info? e).map (·.bytes)).getD 0<=1099511627776)&&decide (m<=1099511627776)) (K (.view d (Bw P e) 0 m) [(d,.ar false new)])
 |_=>none
def Pd(k:Bool):List Operand->Ab->Ab
  |x::xs,p::ps=>
    (match x,p with
     |.const (.slice none 0 0),.lst z es 0 []=>.lst (k||z) es 0 []
     |_,p=>p)::Pd k xs ps
  |_,ps=>ps
def Aok(P:Program)(t:TypeId)(x:PV)(K:Nat->Option R):Option R:=
 match P.underlying t with
 |some (.slice e)=>Ow (Bw P e) x fun z _ _=>As z (K 0)
 |_=>none
def XR(P:Program)(f:FuncId)(c:Call):List TypeId:=
 match P.funcs[f]? with
 |some fn=>fn.params.toList
 |none=>c.argTypes.toList
def VW(C:Kr)(P:Program)(N:Nat)(call:Bq)(tm:Nat->PV)(rdaf:Nat->Option Ab)(o:Oper)(c:Call)(f:FuncId)(K:PV->Cc->List (Nat × Cb)->Option R):Option R:=
 VC P rdaf (XR P f c) (c.args.toList.map (Dd tm)) fun vs m=>
  Bj (call f (Pd (C.kz f) c.args.toList vs)) fun rv ro=>Ar ro (As (Nat.blt 0 N)<|QH P (C.shr f) N (o.dst.getD 0) (Um P o.type) rv fun ws bs=>
   As (bif Wy P o.type then !Nat.beq ws.length 1 else Nat.beq ws.length 1)<|K (Ux ws (Wy P o.type)) (bif Pj P (Um P o.type) then m else []) bs)
def UZ(C:Kr)(P:Program)(N:Nat)(call:Bq)(tm:Nat->PV)(rdf rdaf:Nat->Option Ab)(o:Oper)(K:PV->Cc->List (Nat × Cb)->Option R):Option R:=
  match o.op with
  |.move x=>OM P o.type tm x fun p=>K p [] []
  |.assign x=>OM P o.type tm x fun p=>K p [] []
  |.pick c a b=>Cg (Dd tm c) fun t=>Az t (K (Dd tm a) [] []) (K (Dd tm b) [] [])
  |.alloc t=>F3 o.dst fun d=>Lh P t fun cs=>K (.ptr d 0) [] [(d,As4 P t cs)]
  |.box t x=>F3 o.dst fun d=>As (Oj P t&&Nat.beq (cellsOf (Dd tm x)).length (M5 P t).length)
      (bif EA P t then DP (M5 P t) (cellsOf (Dd tm x)) 0 fun cs=>K (.ptr d 0) [] [(d,.ar false cs)]
       else Xp (M5 P t) (cellsOf (Dd tm x)) 0 fun cs=>K (.ptr d 0) [] [(d,.st cs)])
  |.build t ps=>As (X4 P t&&C9 P t)<|Lh P t fun z=>DA (Z3 P t) (ps.toList.map fun q=>(q.1,Dd tm q.2)) z fun cs=>Xp (M5 P t) cs 0 fun cs'=>K (.agg cs') [] []
  |.buildSlice t n ps=>F3 o.dst fun d=>
      match P.underlying t with
      |some (.slice e)=>As (X4 P t&&Nat.ble (n*Bw P e) 16777216) (Lh P e fun z=>DA (Z3 P t) (ps.toList.map fun q=>(q.1,Dd tm q.2)) (Zi n z) fun cs=>
          U0 rdaf (List.replicate n (M5 P e)).flatten cs fun cs' m=>K (.view d (Bw P e) 0 n) m [(d,.ar false cs')])
      |_=>none
  |.load t a=>LH P rdf rdaf t (Dd tm a) fun v=>K v [] []
  |.nilCheck x=>EJ (Dd tm x) 0 fun p=>K p [] []
  |.binOp op t x y _=>
      EZ P op t (Dd tm x) (Dd tm y) fun v=>K v [] []
  |.unOp op _ x=>unK op (Dd tm x) fun v=>K v [] []
  |.convert src dst x=>TL P rdaf (o.dst.getD 0) src dst (Dd tm x) fun v b=>F3 o.dst fun _=>K v [] b
  |.makeSlice t l c=>F3 o.dst fun d=>
      match P.underlying t with
      |some (.slice e)=>Fk (Dd tm l) fun _ n=>Fk (Dd tm c) fun _ m=>
          As (decide (0<=n)&&decide (n<=m)&&decide (m*((P.info? e).map (·.bytes)).getD 0<=1099511627776)&&decide (m<=1099511627776))
            (Lh P e fun z=>K (.view d (Bw P e) 0 n.toNat) [] [(d,.ar false (Zi n.toNat z))])
      |_=>none
  |.slice t x lo hi mx=>
      match mx with
      |none=>NN P rdf t (Dd tm x) (lo.map (Dd tm)) (hi.map (Dd tm)) fun v=>K v [] []
      |some m=>F3 o.dst fun d=>FL P d t (Dd tm x) (lo.map (Dd tm)) (hi.map (Dd tm)) (some (Dd tm m)) fun v nw=>K v [] nw
  |.fieldAddr t x f=>F3 (Ye P t f) fun q=>As (Nat.ble 1 (Bw P q.2)) (EJ (Dd tm x) q.1 fun p=>K p [] [])
  |.field t x f=>F3 (Ye P t f) fun q=>As (Oj P q.2)<|Dl (Dd tm x) fun cs=>Xp (M5 P q.2) cs q.1 fun c=>mkV (C9 P q.2) c fun v=>K v [] []
  |.indexAddr t x i=>Fk (Dd tm i) fun _ n=>Qt P t (Dd tm x) n fun p=>K p [] []
  |.index t x i=>Fk (Dd tm i) fun _ n=>
      match P.underlying t with
      |some .string=>Ec (Dd tm x) fun s=>As (decide (0<=n)) (F3 (s.data.toList[n.toNat]?) fun b=>K (.sc (.int .u8 b.toNat)) [] [])
      |some (.array len e)=>Dl (Dd tm x) fun cs=>As (decide (0<=n)&&decide (n<len)&&Oj P e) (Xp (M5 P e) cs (n.toNat*Bw P e) fun c=>mkV (C9 P e) c fun v=>K v [] [])
      |_=>none
  |.extract x i=>
      match Dd tm x with
      |.tup vs=>F3 vs[i]? fun p=>K p [] []
      |_=>none
  |.call c=>
      match c.callee with
      |.builtin .len=>Av c.args.toList fun x _=>Av c.argTypes.toList fun t _=>Ao1 P t (Dd tm x) fun n=>K (.sc (.int .i64 n)) [] []
      |.builtin .cap=>Av c.args.toList fun x _=>Av c.argTypes.toList fun t _=>Aok P t (Dd tm x) fun n=>K (.sc (.int .i64 n)) [] []
      |.builtin .min=>Av c.args.toList fun x r=>Av r fun y r'=>Ar r' (Ayq (Dd tm x) (Dd tm y) fun v=>K v [] [])
      |.builtin .max=>Av c.args.toList fun x r=>Av r fun y r'=>Ar r' (Azn (Dd tm x) (Dd tm y) fun v=>K v [] [])
      |.builtin .append=>As (MK c) (F3 o.dst fun d=>Av c.args.toList fun _ r=>Av r fun x r'=>Ar r' (Av c.argTypes.toList fun t u=>Av u fun tx _=>FO P rdaf d t tx (Dd tm x) fun v nw=>K v [] nw))
      |.value (.func f)=>VW C P N call tm rdaf o c f K
      |.value (.tmp t)=>fvK (tm t) fun f=>VW C P N call tm rdaf o c f K
      |_=>none
  |_=>none
def AW(C:Kr)(P:Program)(o:Op):Bool:=
 match o with
 |.store .. =>true
 |.call c=>
  match c.callee with
  |.builtin .append=> !MK c
  |.builtin .copy=>true
  |.builtin _=>false
  |.value (.func f)=>((XR P f c).any fun t=>(MQ P t).isSome)||((XR P f c).zipIdx.any fun q=>C.mvd f q.2||C.lnd f q.2)
  |_=>false
 |_=>false
def DN(b:Cb):Cb:=
 match b with
 |.ar _ c=>.ar true c
 |b=>b
def Al(hp:Nat->Option Cb)(ids:Cc):Nat->Option Cb:=fun i=>bif ids.any (Nat.beq i) then (hp i).map DN else hp i
def Bf(hp:Nat->Option Cb):List (Nat × Cb)->Nat->Option Cb
 |[]=>hp
 |(i,b)::r=>Bf (D2 hp i (some b)) r
def C3(hp:Nat->Option Cb):List (Nat × Cb)->Bool
 |[]=>true
 |(i,_)::r=>(hp i).isNone && !(r.any fun q=>Nat.beq q.1 i)&&C3 hp r
def Co(tm:Nat->PV)(d:Option Tmp)(v:PV):Nat->PV:=
 match d with
 |some i=>D2 tm i v
 |none=>tm
def J3(N:Nat)(d:Option Tmp):Bool:=
 match d with
 |some i=>Nat.blt i N
 |none=>true
def OJ(N:Nat)(s:St)(d:Option Tmp)(v:PV)(fz:Cc)(nw:List (Nat × Cb))(K:St->Option R):Option R:=
 As (J3 N d&&C3 s.hp nw) (K ⟨Co s.tm d v,Bf (Al s.hp fz) nw⟩)
def PF(P:Program)(s:St)(t:TypeId)(a x:PV)(K:St->Option R):Option R:=
 match a with
 |.ptr id off=>
  match s.hp id with
  |some (.st c)=>As (Oj P t&&Nat.beq (cellsOf x).length (M5 P t).length&&decide (off+(M5 P t).length<=c.length)) (Xp (M5 P t) (cellsOf x) 0 fun cs=>Aa (B0 c cs off) fun c=>K ⟨s.tm,D2 s.hp id (some (.st c))⟩)
  |some (.ar false c)=>As (Oj P t&&decide (off+(M5 P t).length<=c.length)) (U0 (P7 s.hp) (M5 P t) (cellsOf x) fun cs m=>As (!m.any (Nat.beq id)) (Aa (B0 c cs off) fun c=>K ⟨s.tm,D2 (Al s.hp m) id (some (.ar false c))⟩))
  |_=>none
 |_=>none
def JZ(P:Program)(t:TypeId):Bool:=
 match P.underlying t with
 |some (.int _)=>true
 |_=>false
def CY(P:Program)(N:Nat)(s:St)(d:Nat)(e:TypeId)(b x:PV)(K:St->Option R):Option R:=
 Fk x fun _ n=>Ow (Bw P e) b fun z _ _=>
  As (z&&Nat.blt d N&&(s.hp d).isNone&&decide (0<=n)&&decide (n.toNat*((P.info? e).map (·.bytes)).getD 0<=1099511627776)&&decide (n<=1099511627776))
   (K ⟨D2 s.tm d (.view d (Bw P e) 0 n.toNat),D2 s.hp d (some (.ar false []))⟩)
def Wp(P:Program)(N:Nat)(s:St)(d:Nat)(t tx:TypeId)(b x:PV)(K:St->Option R):Option R:=
 match P.underlying t with
 |some (.slice e)=>As (Aem P e) <|
  bif JZ P tx then CY P N s d e b x K else
  Ajs P s (Bw P e) tx x fun m new=>
  match b with
  |.view id es off n=>
   match s.hp id with
   |some (.ar false c)=>
    As (Nat.beq es (Bw P e)&&Nat.beq off 0&&Nat.blt d N&&(s.hp d).isNone&&decide (n*es<=c.length)&&decide (new.length=m*es)
     && decide ((n+m)*((P.info? e).map (·.bytes)).getD 0<=1099511627776)&&decide (n+m<=1099511627776))
     (Aa (n+m) fun n'=>Aa (c.take (n*es)++new) fun c=>K ⟨D2 s.tm d (.view d es 0 n'),D2 (D2 s.hp id (some .mv)) d (some (.ar false c))⟩)
   |_=>none
  |b=>Ow (Bw P e) b fun z _ _=>
    As (z&&Nat.blt d N&&(s.hp d).isNone&&decide (new.length=m*Bw P e)&&decide (m*((P.info? e).map (·.bytes)).getD 0<=1099511627776)&&decide (m<=1099511627776))
     (K ⟨D2 s.tm d (.view d (Bw P e) 0 m),D2 s.hp d (some (.ar false new))⟩)
 |_=>none
def Aau(P:Program)(N:Nat)(s:St)(d:Option Tmp)(t tx:TypeId)(b x:PV)(K:St->Option R):Option R:=
 match P.underlying t with
 |some (.slice e)=>As (WJ P e&&J3 N d) <|
  Ajs P s (Bw P e) tx x fun m new=>
  match b with
  |.view id es off n=>
   match s.hp id with
   |some (.ar false c)=>As (Nat.beq es (Bw P e)&&decide (off+n*es<=c.length)&&decide (new.length=m*es))
     (Aa (min m n) fun k=>Aa (B0 c (new.take (k*es)) off) fun c=>K ⟨Co s.tm d (.sc (.int .i64 k)),D2 s.hp id (some (.ar false c))⟩)
   |_=>none
  |_=>none
 |_=>none
def Aoh(mv:Bool)(hp:Nat->Option Cb)(t:CT)(p:PV)(K:PV->Cc->Cc->Option R):Option R:=
 match t with
 |.sl es=>
  bif mv then
   match p with
   |.view id es' off n=>
    match hp id with
    |some (.ar false c)=>
     bif Nat.beq es' es&&Nat.beq off 0 then As (decide (n*es<=c.length)) (K (.own es n (c.take (n*es))) [] [id])
     else Wa (P7 hp) (.sl es) (.view id es' off n) fun c m=>K c m []
    |_=>Wa (P7 hp) (.sl es) (.view id es' off n) fun c m=>K c m []
   |p=>Ow es p fun z n c=>bif z then K (.own es 0 []) [] [] else K (.lst false es n c) [] []
  else Wa (P7 hp) (.sl es) p fun c m=>K c m []
 |t=>NM t p fun c=>K c [] []
def QB(mv:Bool)(hp:Nat->Option Cb):List CT->Ab->(Ab->Cc->Cc->Option R)->Option R
 |[],[],K=>K [] [] []
 |t::ts,p::ps,K=>Aoh mv hp t p fun c m x=>QB mv hp ts ps fun cs ms xs=>K (c::cs) (m++ms) (x++xs)
 |_,_,_=>none
inductive Ks where
 |var (id off:Nat) (cts:List CT) (ws:Ab)
 |row (id:Nat)
 |none
def Ks.ids:Ks->Cc
 |.var id _ _ _=>[id]
 |.row id=>[id]
 |.none=>[]
def A8s(P:Program)(t:TypeId):Option TypeId:=
 match P.underlying t with
 |some (.slice e)=>some e
 |_=>none
def Ar5(hp:Nat->Option Cb)(es:Nat)(p:PV)(K:PV->List Ks->Option R):Option R:=
 match p with
 |.view id es' off n=>
  match hp id with
  |some (.ar false c)=>As (Nat.beq es' es&&Nat.beq off 0) (K (.tup [.own es n c]) [.row id])
  |_=>none
 |p=>Ow es p fun z _ _=>As z (K (.tup [.own es 0 []]) [.none])
def NP(C:Kr)(P:Program)(f:FuncId)(hp:Nat->Option Cb)(i:Nat)(t:TypeId)(p:PV)(K:PV->Cc->Cc->List Ks->Option R):Option R:=
 match MQ P t with
 |some e=>
  match p with
  |.ptr id off=>
   match hp id with
   |some (.st c)=>As (Oj P e&&decide (off+(M5 P e).length<=c.length)) (QB (C.mvd f i) hp (M5 P e) ((c.drop off).take (M5 P e).length) fun cs m x=>K (.pbox cs) m x [.var id off (M5 P e) cs])
   |_=>none
  |_=>none
 |none=>
  bif C.lnd f i then F3 (A8s P t) fun e=>Ar5 hp (Bw P e) p fun v l=>K v [] [] l
  else bif C9 P t then Dl p fun ps=>QB (C.mvd f i) hp (M5 P t) ps fun cs m x=>K (.agg cs) m x []
  else QB (C.mvd f i) hp (M5 P t) [p] fun cs m x=>Av cs fun c r=>Ar r (K c m x [])
def Ab8(C:Kr)(P:Program)(f:FuncId)(hp:Nat->Option Cb):Nat->List TypeId->Ab->(Ab->Cc->Cc->List Ks->Option R)->Option R
 |_,[],[],K=>K [] [] [] []
 |i,t::ts,p::ps,K=>NP C P f hp i t p fun v m x l=>Ab8 C P f hp (i+1) ts ps fun vs ms xs ls=>K (v::vs) (m++ms) (x++xs) (l++ls)
 |_,_,_,_=>none
def DR(hp:Nat->Option Cb)(ids:Cc):Nat->Option Cb:=fun i=>bif ids.any (Nat.beq i) then (hp i).map (fun _=>Cb.mv) else hp i
def nid(N t:Nat):Nat:=N*(1000+t)
def Ahl(N:Nat)(hp:Nat->Option Cb):Nat->Nat->Nat
 |0,t=>t
 |k+1,t=>bif (hp (nid N t)).isNone then t else Ahl N hp k (t+1)
def An0(N t:Nat)(ct:CT)(was p:PV)(K:Nat->PV->List (Nat × Cb)->Option R):Option R:=
 match ct with
 |.sl es=>
  match was with
  |.own _ _ _=>J0 es p fun n c=>K (t+1) (.view (nid N t) es 0 n) [(nid N t,.ar false c)]
  |_=>Ow es p fun _ n c=>K t (.lst false es n c) []
 |ct=>NM ct p fun c=>K t c []
def Aa1(N:Nat):Nat->List CT->Ab->Ab->(Nat->Ab->List (Nat × Cb)->Option R)->Option R
 |t,[],[],ps,K=>Ar ps (K t [] [])
 |t,ct::cts,w::ws,ps,K=>Av ps fun p ps=>An0 N t ct w p fun t' c b=>Aa1 N t' cts ws ps fun t'' cs bs=>K t'' (c::cs) (b++bs)
 |_,_,_,_,_=>none
def IC(N:Nat):Nat->List Ks->List Ab->(Nat->Option Cb)->((Nat->Option Cb)->List (Nat × Cb)->Option R)->Option R
 |_,[],ro,hp,K=>Ar ro (K hp [])
 |t,.var id off cts ws::l,ro,hp,K=>Av ro fun cs ro=>Aa1 N t cts ws cs fun t' cs' bs=>
   match hp id with
   |some (.st c)=>Aa (B0 c cs' off) fun c=>IC N t' l ro (D2 hp id (some (.st c))) fun Dg bs'=>K Dg (bs++bs')
   |_=>none
 |t,.row id::l,ro,hp,K=>Av ro fun cs ro=>IC N t l ro (D2 hp id (some (.ar false cs))) K
 |t,.none::l,ro,hp,K=>Av ro fun _ ro=>IC N t l ro hp K
def Gf:Cc->Bool
 |[]=>true
 |a::r=> !(r.any (Nat.beq a))&&Gf r
def PG(C:Kr)(P:Program)(N:Nat)(call:Bq)(s:St)(o:Oper)(f:FuncId)(c:Call)(K:St->Option R):Option R:=
 Ab8 C P f s.hp 0 (XR P f c) (c.args.toList.map (Dd s.tm)) fun vs m x l=>
  As (Gf (l.flatMap Ks.ids++x)&&m.all (fun i=> !((l.flatMap Ks.ids++x).any (Nat.beq i)))&&Nat.blt 0 N&&J3 N o.dst) <|
  Bj (call f (Pd (C.kz f) c.args.toList vs)) fun rv ro=>
   QH P (C.shr f) N (o.dst.getD N) (Um P o.type) rv fun ws bs=>
    As (bif Wy P o.type then !Nat.beq ws.length 1 else Nat.beq ws.length 1) <|
    Bak (Ahl N s.hp 100 0) fun t0=>IC N t0 l ro (DR (Al s.hp m) x) fun Dg bs'=>
     As (C3 Dg (bs++bs')) (K ⟨Co s.tm o.dst (Ux ws (Wy P o.type)),Bf Dg (bs++bs')⟩)
def GM(C:Kr)(P:Program)(N:Nat)(call:Bq)(s:St)(o:Oper)(K:St->Option R):Option R:=
 match o.op with
 |.store t a x=>As (o.dst.isNone) (PF P s t (Dd s.tm a) (Dd s.tm x) K)
 |.call c=>
  match c.callee with
  |.builtin .append=>F3 o.dst fun d=>Av c.args.toList fun b r=>Av r fun x r'=>Ar r' (Av c.argTypes.toList fun t u=>Av u fun tx _=>Wp P N s d t tx (Dd s.tm b) (Dd s.tm x) K)
  |.builtin .copy=>Av c.args.toList fun b r=>Av r fun x r'=>Ar r' (Av c.argTypes.toList fun t u=>Av u fun tx _=>Aau P N s o.dst t tx (Dd s.tm b) (Dd s.tm x) K)
  |.value (.func f)=>PG C P N call s o f c K
  |_=>none
 |_=>none
def Ag1(C:Kr)(P:Program)(N:Nat)(call:Bq)(o:Oper)(s:St)(K:St->Option R):Option R:=
 bif AW C P o.op then GM C P N call s o K
 else UZ C P N call s.tm (rd s.hp) (P7 s.hp) o fun v fz nw=>OJ N s o.dst v fz nw K
def Fg(C:Kr)(P:Program)(N:Nat)(call:Bq)(ops:Array Oper)(o:Oper)(s:St)(K:St->Option R):Option R:=
 match o.guard with
 |none=>Ag1 C P N call o s K
 |some (j,want)=>
  match (ops[j]?).bind (·.dst) with
  |none=>none
  |some d=>
   match s.tm d with
   |.sc (.bool b)=>
    Az b (bif want then Ag1 C P N call o ⟨D2 s.tm d (.sc (.bool true)),s.hp⟩ K else As (J3 N o.dst) (K ⟨Co (D2 s.tm d (.sc (.bool true))) o.dst (.sc undef),s.hp⟩))
     (bif want then As (J3 N o.dst) (K ⟨Co (D2 s.tm d (.sc (.bool false))) o.dst (.sc undef),s.hp⟩) else Ag1 C P N call o ⟨D2 s.tm d (.sc (.bool false)),s.hp⟩ K)
   |.sc (.tuple _)=>As (J3 N o.dst) (K ⟨Co s.tm o.dst (.sc undef),s.hp⟩)
   |_=>none
def Vi(C:Kr)(P:Program)(N:Nat)(call:Bq)(ops:Array Oper):List Oper->St->(St->Option R)->Option R
 |[],s,K=>K s
 |o::r,s,K=>Fg C P N call ops o s fun s'=>Vi C P N call ops r s' K
def CA(x y:Option R):Option R:=open Classical in if x=y then x else none
def Aj5(ops:Array Oper)(o:Oper)(s:St)(F:St->Option R):Option R:=
 match o.guard with
 |none=>F s
 |some (j,_)=>
  match (ops[j]?).bind (·.dst) with
  |none=>F s
  |some d=>
   match s.tm d with
   |.ub=>CA (F ⟨D2 s.tm d (.sc (.bool true)),s.hp⟩) (F ⟨D2 s.tm d (.sc (.bool false)),s.hp⟩)
   |_=>F s
def M4(C:Kr)(P:Program)(N:Nat)(call:Bq)(ops:Array Oper):List Oper->St->(St->Option R)->Option R
 |[],s,K=>K s
 |o::r,s,K=>Aj5 ops o s fun s1=>Fg C P N call ops o s1 fun s'=>M4 C P N call ops r s' K
end
def Au5(o:Oper):Cc:=o.op.operands.toList.filterMap fun x=>match x with | .tmp t=>some t|_=>none
def looks(ops:Array Oper)(o:Oper):Cc:=
 Au5 o++(match o.guard with|some (g,_)=>((ops[g]?).bind (·.dst)).toList|none=>[])
def Mg(P:Program)(o:Op):Bool:=
 match o with
 |.slice t .. =>match P.underlying t with|some (.array _ _)=>true|_=>false
 |.buildSlice t _ _=>match P.underlying t with|some (.slice e)=>Pj P [e]|_=>true
 |.convert _ dst _=>match P.underlying dst with|some .string=>true|_=>false
 |.alloc _ | .box .. | .makeSlice .. =>false
 |.move _ | .assign _ | .pick .. | .build .. | .binOp .. | .unOp .. | .fieldAddr .. | .field .. | .index .. | .indexAddr .. | .extract .. | .nilCheck _=>false
 |.call c=>match c.callee with | .builtin .len=>false | .builtin .min=>false | .builtin .max=>false|_=>true
 |_=>true
def XI(C:Kr)(P:Program)(ops:Array Oper)(x y:Oper):Bool:=
 (match x.dst with|some d=>(looks ops y).any (Nat.beq d)||(match y.dst with|some e=>Nat.beq d e|none=>false)|none=>false) ||
 (match y.dst with|some e=>(looks ops x).any (Nat.beq e)|none=>false) ||
 (AW C P x.op&&Mg P y.op)||(AW C P y.op&&Mg P x.op)
def Nj(ops:List Oper):Cc->Cc
 |acc=>match ops with
  |[]=>acc
  |o::r=>Nj r (acc++[o.after.toList.foldl (fun s e=>bif Region.binds .any e then s ||| 2 ^ e.on ||| acc.getD e.on 0 else s) 0])
def SS(C:Kr)(P:Program)(ops:Array Oper)(bs:Cc):List Oper->Nat->Bool
 |[],_=>true
 |o::r,i=>(ops.toList.zipIdx.all fun q=> !Nat.blt q.2 i || !XI C P ops q.1 o||(bs.getD i 0).testBit q.2)&&SS C P ops bs r (i+1)
def XG(C:Kr)(P:Program)(ops:Array Oper):Bool:=
 ops.toList.zipIdx.all (fun q=>q.1.after.toList.all fun e=> !Region.binds .any e||Nat.blt e.on q.2)&&SS C P ops (Nj ops.toList []) ops.toList 0
def Ba:PV->Cc
 |.view id _ _ _=>[id]
 |.ptr id _=>[id]
 |_=>[]
def C2:PV->Cc
 |.agg cs=>cs.flatMap Ba
 |p=>Ba p
def Cn:PV->Cc
 |.tup ps=>ps.flatMap C2
 |p=>C2 p
def EH(P:Program)(o:Op):Bool:=
 match o with
 |.load .. =>true
 |.convert _ dst _=>(match P.underlying dst with|some .string=>true|_=>false)
 |_=>false
def Vd(o:Op):Bool:=
 match o with
 |.call c=>(match c.callee with | .builtin .append=> !MK c|_=>false)
 |_=>false
def Atl(ops:Array Oper)(x y:Oper):Bool:=
 (match x.dst with|some d=>(looks ops y).any (Nat.beq d)||(match y.dst with|some e=>Nat.beq d e|none=>false)|none=>false) ||
 (match y.dst with|some e=>(looks ops x).any (Nat.beq e)|none=>false)
def AG(C:Kr)(P:Program)(x y:Oper):Bool:=(AW C P x.op&&Mg P y.op)||(AW C P y.op&&Mg P x.op)
def Qm(C:Kr)(P:Program)(x y:Oper):Bool:=(AW C P x.op&&EH P y.op)||(AW C P y.op&&EH P x.op)||(Vd x.op&&Vd y.op)
def Atz(C:Kr)(P:Program)(ops:Array Oper)(x y:Oper):Bool:=Atl ops x y||(AG C P x y && !Qm C P x y)
def KT(C:Kr)(P:Program)(ops:Array Oper)(bs:Cc):List Oper->Nat->Bool
 |[],_=>true
 |o::r,i=>(ops.toList.zipIdx.all fun q=> !Nat.blt q.2 i || !Atz C P ops q.1 o||(bs.getD i 0).testBit q.2)&&KT C P ops bs r (i+1)
def VZ(C:Kr)(P:Program)(ops:Array Oper):Bool:=
 ops.toList.zipIdx.all (fun q=>q.1.after.toList.all fun e=> !Region.binds .any e||Nat.blt e.on q.2)&&KT C P ops (Nj ops.toList []) ops.toList 0
def S3(C:Kr)(P:Program)(s:St)(o:Oper):Cc:=
 let l:=o.op.operands.toList.flatMap fun y=>Cn (Dd s.tm y)
 bif AW C P o.op && !Vd o.op then l++l.flatMap (fun i=>match s.hp i with|some (.st c)=>c.flatMap Ba|_=>[])
 else bif EH P o.op||Vd o.op then l else []
def An9(a b:Cc):Bool:=a.all fun i=> !b.any (Nat.beq i)
def LF(C:Kr)(P:Program)(ops:Array Oper)(bs:Cc)(i:Nat)(o:Oper):Cc:=
 (ops.toList.zipIdx.filter fun q=>Qm C P q.1 o && !(Nat.blt q.2 i&&(bs.getD i 0).testBit q.2) && !(Nat.blt i q.2&&(bs.getD q.2 0).testBit i)).map (·.2)
def QY(C:Kr)(P:Program)(ops:Array Oper)(bs:Cc):List Cc:=ops.toList.zipIdx.map fun q=>LF C P ops bs q.2 q.1
def SH(C:Kr)(P:Program)(sm:List Cc)(s:St)(i:Nat)(o:Oper):Cc:=
 match sm.getD i [] with
 |[]=>[]
 |_::_=>S3 C P s o
def ZA(C:Kr)(P:Program)(sm:List Cc)(s:St)(i:Nat)(o:Oper)(q:Nat × Oper × Cc):Bool:=
 !((sm.getD i []).any (Nat.beq q.1))||An9 q.2.2 (SH C P sm s i o)
def M3{R:Type}(C:Kr)(P:Program)(N:Nat)(call:Bq)(ops:Array Oper)(sm:List Cc):List (Nat × Oper × Cc)->Cc->St->(St->Option R)->Option R
 |_,[],s,K=>K s
 |dn,i::l,s,K=>F3 ops[i]? fun o=>As (dn.all (ZA C P sm s i o)&&(SH C P sm s i o).all (fun k=>(s.hp k).isSome)) (Fg C P N call ops o s fun s'=>M3 C P N call ops sm ((i,o,SH C P sm s i o)::dn) l s' K)
def Asr(m i:Nat):Nat:=m ||| 2 ^ i
def Ba2(m i:Nat):Nat:=bif m.testBit i then m ^^^ 2 ^ i else m
def Amn(ops:Array Oper):List Oper->Nat->Nat
 |[],m=>m
 |o::r,m=>
  let m1:=Amn ops r m
  let m2:=match o.dst with|some d=>Ba2 m1 d|none=>m1
  (looks ops o).foldl Asr m2
def V8:Code->Nat->(Nat->Nat)->Nat->Nat
 |.skip,ln,_,_=>ln
 |.region _ ops _,ln,_,_=>Amn ops ops.toList ln
 |.seq a b,ln,lx,lr=>V8 a (V8 b ln lx lr) lx lr
 |.cond c a b,ln,lx,lr=>let m:=V8 a ln lx lr ||| V8 b ln lx lr;match c with | .tmp d=>Asr m d|_=>m
 |.block id c,ln,lx,lr=>V8 c ln (fun j=>bif Nat.beq j id then ln else lx j) lr
 |.loop c,_,lx,lr=>V8 c (V8 c 0 lx lr) lx lr
 |.exit id,_,lx,_=>lx id
 |.ret,_,_,lr=>lr
 |_,_,_,_=>0
def Atp(ops:List Oper):Cc:=(ops.filterMap fun o=>o.guard.map (·.1)).eraseDups
def Ve:Code->Nat
 |.region _ _ _=>1
 |.seq a b=>Ve a+Ve b
 |.cond _ a b=>Ve a+Ve b
 |.block _ c=>Ve c
 |.loop c=>Ve c
 |_=>0
def SN:Code->Nat
 |.skip=>1
 |.region _ ops _=>2 ^ min 6 (Atp ops.toList).length
 |.seq a b=>bif (Nat.ble 7 (SN a)&&Nat.ble 6 (Ve b))||(Nat.ble 5 (SN a)&&Nat.ble 9 (Ve b)) then SN b else min 1000 (SN a*SN b)
 |.cond _ a b=>SN a+SN b
 |.block _ c=>SN c
 |.loop _=>1
 |.exit _=>1
 |_=>0
def A1m(P:Program)(o:Oper):Bool:=
 match o.op with
 |.load t _=>EA P t&&Nat.ble 8 (Bw P t)
 |.store t _ _=>EA P t&&Nat.ble 8 (Bw P t)
 |_=>false
def Afj(P:Program):Code->Bool
 |.region _ ops _=>ops.toList.any (A1m P)
 |.seq a _=>Afj P a
 |_=>false
def Anq(P:Program):Code->Bool
 |.region _ ops _=>ops.toList.any (A1m P)
 |.seq _ b=>Anq P b
 |_=>false
def Avq(x y:Code):Bool:=(Nat.beq (SN x) 4&&Nat.beq (Ve x) 7&&(Nat.beq (Ve y) 3||Nat.beq (Ve y) 1))||(Nat.beq (SN x) 9&&Nat.beq (Ve x) 5&&Nat.beq (Ve y) 5)
def LX(a b:Code):Bool:=Avq a b||(match b with | .seq x y=>Avq x y|_=>false)
def Ank(P:Program)(a b:Code):Bool:=(Nat.ble 7 (SN a)&&Nat.ble 6 (Ve b))||(Nat.ble 5 (SN a)&&Nat.ble 9 (Ve b))||LX a b||Afj P b||Anq P a
def Su(m:Nat):Nat->Cc
 |0=>[]
 |n+1=>Su m n++(bif m.testBit n then [n] else [])
def lk(l:List (Nat × PV))(i:Nat):PV:=
 match l with
 |[]=>.top
 |(j,p)::r=>bif Nat.beq i j then p else lk r i
def B3(l:List (Nat × Cb))(i:Nat):Option Cb:=
 match l with
 |[]=>none
 |(j,b)::r=>bif Nat.beq i j then some b else B3 r i
def GN(l:List (Nat × Nat))(i:Nat):Option Nat:=
 match l with
 |[]=>none
 |(j,b)::r=>bif Nat.beq i j then some b else GN r i
def SU(N:Nat)(s:St)(i:Nat):St:=
 match s.tm i with
 |.lst true es 0 []=>
  bif (s.hp i).isNone then ⟨D2 s.tm i (.view i es 0 0),D2 s.hp i (some (.ar false []))⟩
  else bif (s.hp (i+N*3000)).isNone then ⟨D2 s.tm i (.view (i+N*3000) es 0 0),D2 s.hp (i+N*3000) (some (.ar false []))⟩
  else s
 |_=>s
def Ads(N:Nat)(id:Nat)(s:St)(j:Nat):St:=
 match s.hp id with
 |some (.st c)=>
  match c[j]? with
  |some (.lst true es 0 [])=>bif (s.hp (id+N*(j+1))).isNone then ⟨s.tm,D2 (D2 s.hp id (some (.st (c.set j (.view (id+N*(j+1)) es 0 0))))) (id+N*(j+1)) (some (.ar false []))⟩ else s
  |_=>s
 |_=>s
def Acp(N:Nat)(s:St)(i:Nat):St:=
 match s.tm i with
 |.ptr id _=>
  match s.hp id with
  |some (.st c)=>(List.range c.length).foldl (Ads N id) s
  |_=>s
 |_=>s
def ZS(m:List (Nat × Nat))(old new:Nat):List (Nat × Nat):=
 match GN m old with
 |some _=>m
 |none=>m++[(old,new)]
def AL(N new:Nat):Ab->Nat->List (Nat × Nat)->List (Nat × Nat)
 |[],_,m=>m
 |.view id _ _ _::r,j,m=>AL N new r (j+1) (ZS m id (new+N*(j+1)))
 |_::r,j,m=>AL N new r (j+1) m
def SV(N:Nat)(s:St)(m:List (Nat × Nat))(i:Nat):List (Nat × Nat):=
 match s.tm i with
 |.view id _ _ _=>ZS m id i
 |.ptr id _=>
  match GN m id with
  |some _=>m
  |none=>
   match s.hp id with
   |some (.st c)=>AL N i c 0 (ZS m id i)
   |_=>ZS m id i
 |.agg c=>AL N i c 0 m
 |_=>m
def Ajg(m:List (Nat × Nat)):PV->PV
 |.view id es off n=>match GN m id with|some j=>.view j es off n|none=>.top
 |.ptr id off=>match GN m id with|some j=>.ptr j off|none=>.top
 |.sc v=>.sc v
 |.lst z es n c=>.lst z es n c
 |.iptr c off=>.iptr c off
 |_=>.top
def An4(m:List (Nat × Nat)):PV->PV
 |.agg c=>.agg (c.map (Ajg m))
 |p=>Ajg m p
def Axh(m:List (Nat × Nat)):Cb->Cb
 |.st c=>.st (c.map (Ajg m))
 |b=>b
def Ef(N i:Nat):Nat:=i+N*2000
def Ae7(N:Nat)(hp:Nat->Option Cb):Nat->List (Nat × Nat)
 |0=>[]
 |i+1=>bif (hp (Ef N i)).isSome then Ae7 N hp i++[(Ef N i,Ef N i)] else Ae7 N hp i
def DB(N:Nat)(hp:Nat->Option Cb):Nat->List (Nat × Nat)->List (Nat × Nat)
 |0,m=>m
 |i+1,m=>
  match hp (Ef N i) with
  |some (.st c)=>AL N (Ef N i) c 0 (DB N hp i m)
  |_=>DB N hp i m
def Bah(N:Nat)(hp:Nat->Option Cb)(k:Nat):List (Nat × Nat):=DB N hp k (Ae7 N hp k)
def Tg(m:List (Nat × Nat))(hp:Nat->Option Cb):List (Nat × Nat)->List (Nat × Cb)
 |[]=>[]
 |(old,new)::r=>match hp old with
  |some b=>(new,Axh m b)::Tg m hp r
  |none=>Tg m hp r
section
variable {R:Type}
def Amz(N:Nat)(ls:Cc)(q:Bool)(s:St)(K:St->Option R):Option R:=
 let s2:=bif q then s else ls.foldl (Acp N) (ls.foldl (SU N) s)
 let m:=ls.foldl (SV N s2) (Bah N s2.hp 8)
 As (Gf (m.map (·.1))&&Gf (m.map (·.2))) (K ⟨lk (ls.map fun i=>(i,An4 m (s2.tm i))),B3 (Tg m s2.hp m)⟩)
def Kg(N L:Nat)(s:St)(K:St->Option R):Option R:=Amz N (Su L N) false s K
def Agt(N L:Nat)(s:St)(K:St->Option R):Option R:=Amz N (Su L N) true s K
def YT(F:(St->Option R)->St->Option R)(nm:St->(St->Option R)->Option R):Nat->St->Option R
 |0,_=>none
 |n+1,s=>F (fun s'=>nm s' (YT F nm n)) s
def TU(n:Nat)(F:St->Option R)(s:St):Option R:=
 match n with
 |0=>none
 |_+1=>F s
def Aq1(s:St)(c:Operand)(kt kf:St->Option R):Option R:=
 match c with
 |.tmp d=>
  match s.tm d with
  |.sc (.bool b)=>Az b (kt ⟨D2 s.tm d (.sc (.bool true)),s.hp⟩) (kf ⟨D2 s.tm d (.sc (.bool false)),s.hp⟩)
  |.ub=>CA (kt s) (kf s)
  |_=>none
 |.const (.bool true)=>kt s
 |.const (.bool false)=>kf s
 |_=>none
def Ph(C:Kr)(P:Program)(fu N:Nat)(call:Bq):Code->Nat->(Nat->Nat)->Nat->(St->Option R)->(Nat->St->Option R)->(St->Option R)->St->Option R
 |.skip,_,_,_,kn,_,_,s=>kn s
 |.region _ ops draw,_,_,_,kn,_,_,s=>YH (draw && !XG C P ops) (As (VZ C P ops) (Asx (QY C P ops (Nj ops.toList [])) fun sm=>M3 C P N call ops sm [] (List.range ops.size) s kn)) (YH draw (Vi C P N call ops ops.toList s kn) (M4 C P N call ops ops.toList s kn))
 |.seq a b,ln,lx,lr,kn,kx,kr,s=>Ph C P fu N call a (V8 b ln lx lr) lx lr (fun s'=>YH (Ank P a b) (YH (LX a b) (Agt N (V8 b ln lx lr) s' (TU fu fun s''=>Ph C P fu N call b ln lx lr kn kx kr s'')) (Kg N (V8 b ln lx lr) s' (TU fu fun s''=>Ph C P fu N call b ln lx lr kn kx kr s''))) (Ph C P fu N call b ln lx lr kn kx kr s')) kx kr s
 |.cond c a b,ln,lx,lr,kn,kx,kr,s=>Aq1 s c (Ph C P fu N call a ln lx lr kn kx kr) (Ph C P fu N call b ln lx lr kn kx kr)
 |.block id c,ln,lx,lr,kn,kx,kr,s=>Ph C P fu N call c ln (fun j=>bif Nat.beq j id then ln else lx j) lr kn (fun j s'=>bif Nat.beq j id then kn s' else kx j s') kr s
 |.loop c,ln,lx,lr,_,kx,kr,s=>
  Kg N (V8 (.loop c) ln lx lr) s (YT (fun k s'=>Ph C P fu N call c (V8 (.loop c) ln lx lr) lx lr k kx kr s') (Kg N (V8 (.loop c) ln lx lr)) fu)
 |.exit id,_,_,_,_,kx,_,s=>kx id s
 |.ret,_,_,_,_,_,kr,s=>kr s
 |_,_,_,_,_,_,_,_=>none
def Aq8(id:Nat)(t:CT)(p:PV)(K:PV->List (Nat × Cb)->Option R):Option R:=
 match t with
 |.sl es=>
  match p with
  |.own es' n c=>bif Nat.beq es' es then K (.view id es 0 n) [(id,.ar false c)] else none
  |p=>Ow es p fun z n c=>K (.lst z es n c) []
 |t=>NM t p fun c=>K c []
def RG(N:Nat):Nat->List CT->Ab->(Ab->List (Nat × Cb)->Option R)->Option R
 |_,[],ps,K=>Ar ps (K [] [])
 |id,t::ts,ps,K=>Av ps fun p ps=>Aq8 id t p fun c b=>RG N (id+N) ts ps fun cs bs=>K (c::cs) (b++bs)
def inK(P:Program)(N i:Nat)(t:TypeId)(p:PV)(K:PV->List (Nat × Cb)->Option R):Option R:=
 match MQ P t with
 |some e=>HB p fun ps=>As (Nat.blt i 8) (RG N (Ef N i+N) (M5 P e) ps fun cs bs=>K (.ptr (Ef N i) 0) ((Ef N i,.st cs)::bs))
 |none=>
  match p with
  |.tup ps=>F3 (A8s P t) fun e=>As (Nat.blt i 8) (Av ps fun q r=>Ar r (J0 (Bw P e) q fun n c=>K (.view (Ef N i) (Bw P e) 0 n) [(Ef N i,.ar false c)]))
  |p=>
   bif C9 P t then Dl p fun ps=>RG N (i+N) (M5 P t) ps fun cs bs=>K (.agg cs) bs
   else RG N (i+N) (M5 P t) [p] fun cs bs=>Av cs fun c r=>Ar r (K c bs)
def Aji(P:Program)(N:Nat):Nat->List TypeId->Ab->(List (Nat × PV)->List (Nat × Cb)->Option R)->Option R
 |_,[],ps,K=>Ar ps (K [] [])
 |i,t::ts,ps,K=>Av ps fun p ps=>inK P N i t p fun v bs=>Aji P N (i+1) ts ps fun vs bs'=>K ((i,v)::vs) (bs++bs')
def A0m(hp:Nat->Option Cb)(t:CT)(p:PV)(K:PV->Cc->Cc->Option R):Option R:=
  match t with
  |.sl es=>
    match p with
    |.view id es' off n=>bif Nat.beq es' es&&Nat.beq off 0 then
        (match hp id with
         |some (.ar false c)=>As (decide (n*es<=c.length)) (K (.own es n (c.take (n*es))) [id] [])
         |_=>none) else none
    |p=>Ow es p fun z _ _=>As z (K (.own es 0 []) [] [])
  |t=>NM t p fun c=>K c [] []
def Ane(shr:Bool)(hp:Nat->Option Cb)(t:CT)(p:PV)(K:PV->Cc->Cc->Option R):Option R:=
 bif shr then Wa (P7 hp) t p fun c m=>K c [] m else A0m hp t p K
def NZ(shr:Bool)(hp:Nat->Option Cb):List CT->Ab->(Ab->Cc->Cc->Option R)->Option R
 |[],[],K=>K [] [] []
 |t::ts,p::ps,K=>Ane shr hp t p fun c m z=>NZ shr hp ts ps fun cs ms zs=>K (c::cs) (m++ms) (z++zs)
 |_,_,_=>none
def Au3(P:Program)(shr:Bool)(hp:Nat->Option Cb)(t:TypeId)(p:PV)(K:PV->Cc->Cc->Option R):Option R:=
 match MQ P t with
 |some e=>
  match p with
  |.ptr id off=>
   match hp id with
   |some (.st c)=>As (Nat.beq off 0) (NZ shr hp (M5 P e) c fun cs m z=>K (.pbox cs) (id::m) z)
   |_=>none
  |_=>none
 |none=>
  bif C9 P t then Dl p fun ps=>NZ shr hp (M5 P t) ps fun cs m z=>K (.agg cs) m z
  else NZ shr hp (M5 P t) [p] fun cs m z=>Av cs fun c r=>Ar r (K c m z)
def Aq3(P:Program)(s:St)(r:ResultVar)(K:PV->Option R):Option R:=
 match r with
 |.tmp t=>K (s.tm t)
 |.cell a t=>LH P (rd s.hp) (P7 s.hp) t (s.tm a) K
def Ac8(P:Program)(shr:Bool)(s:St):List ResultVar->List TypeId->(Ab->Cc->Cc->Option R)->Option R
 |[],[],K=>K [] [] []
 |r::rs,t::ts,K=>Aq3 P s r fun p=>Au3 P shr s.hp t p fun v m z=>Ac8 P shr s rs ts fun vs ms zs=>K (v::vs) (m++ms) (z++zs)
 |_,_,_=>none
def SZ(hp:Nat->Option Cb):List CT->Ab->Ab->(Ab->Cc->Cc->Option R)->Option R
 |[],[],[],K=>K [] [] []
 |t::ts,w::ws,p::ps,K=>Ane (match w with | .own _ _ _=>false|_=>true) hp t p fun c m z=>SZ hp ts ws ps fun cs ms zs=>K (c::cs) (m++ms) (z++zs)
 |_,_,_,_=>none
def OB(P:Program)(N:Nat)(hp:Nat->Option Cb):Nat->List TypeId->Ab->(List Ab->Cc->Cc->Cc->Option R)->Option R
 |_,[],ps,K=>Ar ps (K [] [] [] [])
 |i,t::ts,ps,K=>Av ps fun p ps=>
  match p with
  |.pbox ws=>F3 (MQ P t) fun e=>
    match hp (Ef N i) with
    |some (.st c)=>SZ hp (M5 P e) ws c fun cs m z=>OB P N hp (i+1) ts ps fun r m' z' q=>K (cs::r) (m++m') (z++z') (Ef N i::q)
    |_=>none
  |.tup _=>
    match hp (Ef N i) with
    |some (.ar false c)=>OB P N hp (i+1) ts ps fun r m' z' q=>K (c::r) m' z' (Ef N i::q)
    |_=>none
  |_=>OB P N hp (i+1) ts ps K
def Alk(rs:List ResultVar):Nat:=rs.foldl (fun m r=>match r with | .tmp t=>Asr m t | .cell a _=>Asr m a) 0
end
def US(P:Program):Nat->List TypeId->Nat->Nat
 |_,[],m=>m
 |i,t::ts,m=>US P (i+1) ts (match P.underlying t with|some (.pointer _)=>Asr m i|_=>m)
def Ahi(C:Kr)(P:Program)(f:FuncId)(fn:Func)(args:Ab)(s:St):Option Dt:=
 Ac8 P (C.shr f) s fn.results.toList fn.resultTypes.toList fun vs m z=>OB P fn.ntmps s.hp 0 fn.params.toList args fun os m' z' q=>
  As (Gf ((m++m')++q)&&(z++z').all (fun i=> !(((m++m')++q).any (Nat.beq i)))) (some ⟨vs,os⟩)
def Axb(C:Kr)(P:Program)(fu:Nat)(call:Bq)(f:FuncId)(fn:Func)(c:Code)(args:Ab):Option Dt:=
  Aji P fn.ntmps 0 fn.params.toList args fun tms bs=>As (Nat.ble args.length fn.ntmps&&C3 (fun _=>none) bs)
    (let lr:=US P 0 fn.params.toList (Alk fn.results.toList)
     Ph C P fu fn.ntmps call c lr (fun _=>0) lr (Ahi C P f fn args) (fun _ _=>none) (Ahi C P f fn args) ⟨lk tms,B3 bs⟩)
def Aq(C:Kr)(P:Program)(fu:Nat):Nat->FuncId->Ab->Option Dt
 |0,_,_=>none
 |d+1,f,args=>
  match C.ext f with
  |some g=>g args
  |none=>
   match P.funcs[f]? with
   |none=>none
   |some fn=>match fn.body with
    |none=>none
    |some c=>Axb C.core P fu (Aq C P fu d) f fn c args
inductive Dir where
 |l
 |r
 |i (m:Nat)
section
variable {R:Type}
def JJ(C:Kr)(P:Program)(fu N:Nat)(call:Bq):List Dir->Code->Nat->(Nat->Nat)->Nat->(St->Option R)->(Nat->St->Option R)->(St->Option R)->Nat->St->Option R
 |[],.seq _ b,ln,lx,lr,kn,kx,kr,n,s=>TU n (fun s''=>Ph C P fu N call b ln lx lr kn kx kr s'') s
 |[],.loop c,ln,lx,lr,_,kx,kr,n,s=>YT (fun k s'=>Ph C P fu N call c (V8 (.loop c) ln lx lr) lx lr k kx kr s') (Kg N (V8 (.loop c) ln lx lr)) n s
 |.l::p,.seq a b,ln,lx,lr,kn,kx,kr,n,s=>JJ C P fu N call p a (V8 b ln lx lr) lx lr (fun s'=>YH (Ank P a b) (YH (LX a b) (Agt N (V8 b ln lx lr) s' (TU fu fun s''=>Ph C P fu N call b ln lx lr kn kx kr s'')) (Kg N (V8 b ln lx lr) s' (TU fu fun s''=>Ph C P fu N call b ln lx lr kn kx kr s''))) (Ph C P fu N call b ln lx lr kn kx kr s')) kx kr n s
 |.r::p,.seq _ b,ln,lx,lr,kn,kx,kr,n,s=>JJ C P fu N call p b ln lx lr kn kx kr n s
 |.l::p,.cond _ a _,ln,lx,lr,kn,kx,kr,n,s=>JJ C P fu N call p a ln lx lr kn kx kr n s
 |.r::p,.cond _ _ b,ln,lx,lr,kn,kx,kr,n,s=>JJ C P fu N call p b ln lx lr kn kx kr n s
 |.l::p,.block id c,ln,lx,lr,kn,kx,kr,n,s=>JJ C P fu N call p c ln (fun j=>bif Nat.beq j id then ln else lx j) lr kn (fun j s'=>bif Nat.beq j id then kn s' else kx j s') kr n s
 |.i m::p,.loop c,ln,lx,lr,_,kx,kr,n,s=>
  JJ C P fu N call p c (V8 (.loop c) ln lx lr) lx lr
   (fun s'=>Kg N (V8 (.loop c) ln lx lr) s' (YT (fun k s'=>Ph C P fu N call c (V8 (.loop c) ln lx lr) lx lr k kx kr s') (Kg N (V8 (.loop c) ln lx lr)) m)) kx kr n s
 |_,_,_,_,_,_,_,_,_,_=>none
end
def A6q(C:Kr)(P:Program)(fu:Nat)(call:Bq)(f:FuncId)(fn:Func)(c:Code)(args:Ab)(p:List Dir)(n:Nat)(s:St):Option Dt:=
 let lr:=US P 0 fn.params.toList (Alk fn.results.toList)
 JJ C P fu fn.ntmps call p c lr (fun _=>0) lr (Ahi C P f fn args) (fun _ _=>none) (Ahi C P f fn args) n s
def Ayd:Cc:=[
 1000000]
def A3k:Cc:=[
 10,
 36,
 11,
 16,
 26,
 48,
 91,
 27,
 52,
 37,
 71,
 72,
 12,
 43,
 83,
 28,
 1000000]
def A2t:Cc:=[
 1000000]
def Aw0:Cc:=[
 1000000]
def A2q:Cc:=[
 108,
 133,
 106,
 87,
 142,
 122,
 123,
 144,
 132,
 88,
 121,
 117,
 138,
 1000000]
def VT(args:Ab):Option Dt:=
 match args with
 |[.sc (.string s)]=>bif decide (s.size<=9223372036854775807) then some ⟨[.sc (.bool (Lib.validD s.data.toList))],[]⟩ else none
 |_=>none
def EE(args:Ab):Option Dt:=
  match args with
  |[.lst _ 1 n c,.lst _ 1 m c']=>bif Nat.beq c.length n&&Nat.beq c'.length m then
      (match bytesOf c,bytesOf c' with
       |some a,some b=>some ⟨[.sc (.int .i64 (Lib.compareBytes a b))],[]⟩
       |_,_=>none) else none
  |_=>none
def MH:Cc:=[
 147,
 86,
 135,
 136,
 134,
 109,
 66,
 137,
 128,
 103,
 61,
 33,
 85,
 79,
 120,
 110,
 111,
 115,
 75,
 112,
 114,
 69,
 67,
 68,
 92,
 76,
 129,
 125,
 46,
 49,
 40,
 71,
 72,
 37,
 52,
 1000000]
def CB:Kr:=⟨fun f=>A3k.any (Nat.beq f),fun f i=>Nat.beq i 0&&A2q.any (Nat.beq f),fun f i=>(Nat.beq i 0&&A2t.any (Nat.beq f))||(Nat.beq i 2&&Aw0.any (Nat.beq f)),fun f=>Ayd.any (Nat.beq f),fun _=>none⟩
def CX(xs:FuncId->Option (Ab->Option Dt)):Kr:={ CB with ext:=fun f=>bif MH.any (Nat.beq f) then none else xs f }
def VR(f:Func):Code:=match f.body with|some c=>c|none=>.skip
section
variable {R:Type}{r:Option R}
theorem Aj{k:IntKind}{p:PV}{K:Int->Option R}{n:Int}(h:p=.sc (.int k n))(hk:K n=r):Be k p K=r:=by subst h;unfold Be;simp[hk]
theorem Bcb{p:PV}{K:IntKind->Int->Option R}{k:IntKind}{n:Int}(h:p=.sc (.int k n))(hk:K k n=r):Fk p K=r:=by subst h;exact hk
theorem Ao{p:PV}{K:Bool->Option R}{b:Bool}(h:p=.sc (.bool b))(hk:K b=r):Cg p K=r:=by subst h;exact hk
theorem Aw{p:PV}{K:ByteArray->Option R}{s:ByteArray}(h:p=.sc (.string s))(hk:K s=r):Ec p K=r:=by subst h;exact hk
theorem A6{es:Nat}{p:PV}{K:Bool->Nat->Ab->Option R}{z:Bool}{n:Nat}{c:Ab}(h:p=.lst z es n c)(hk:K z n c=r):Ow es p K=r:=by subst h;unfold Ow;simp[P6,hk]
theorem Bb{es:Nat}{p:PV}{K:Nat->Ab->Option R}{n:Nat}{c:Ab}(h:p=.own es n c)(hk:K n c=r):J0 es p K=r:=by subst h;unfold J0;simp[P6,hk]
theorem Ah{b:Bool}{K:Option R}(h:b=true)(hk:K=r):As b K=r:=by subst h;exact hk
theorem As7{b:Bool}{x y:Option R}(hx:b=true->x=r)(hy:b=false->y=r):Az b x y=r:=by
 cases b
 ·exact hy rfl
 ·exact hx rfl
theorem Akf{b:Bool}{x y:Option R}(h:b=true)(hx:x=r):Az b x y=r:=by subst h;exact hx
theorem Ajn{b:Bool}{x y:Option R}(h:b=false)(hx:y=r):Az b x y=r:=by subst h;exact hx
theorem Gp{α:Type}{o:Option α}{K:α->Option R}{a:α}(h:o=some a)(hk:K a=r):F3 o K=r:=by subst h;exact hk
theorem Ae{α:Type}{l:List α}{K:α->List α->Option R}{a:α}{t:List α}(h:l=a::t)(hk:K a t=r):Av l K=r:=by subst h;exact hk
theorem Ai{α:Type}{l:List α}{K:Option R}(h:l=[])(hk:K=r):Ar l K=r:=by subst h;exact hk
theorem At{p:PV}{K:Ab->Option R}{c:Ab}(h:p=.agg c)(hk:K c=r):Dl p K=r:=by subst h;exact hk
theorem Adr{p:PV}{K:Ab->Option R}{c:Ab}(h:p=.pbox c)(hk:K c=r):HB p K=r:=by subst h;exact hk
theorem Ad{o:Option Dt}{K:Ab->List Ab->Option R}{v:Ab}{q:List Ab}(h:o=some ⟨v,q⟩)(hk:K v q=r):Bj o K=r:=by subst h;exact hk
theorem Adz{x y:Option R}(hx:x=r)(hy:y=r):CA x y=r:=by subst hx;subst hy;unfold CA;simp
end
theorem SB(a b:Int):(a != b)=decide (a≠b):=by by_cases h:a=b<;>simp[h,bne]
theorem Apy(a b:Int):(a==b)=decide (a=b):=by by_cases h:a=b<;>simp[h]
section
variable {R:Type}
theorem Amy(v:Ab)(o:List Ab)(K:Ab->List Ab->Option R):Bj (some ⟨v,o⟩) K=K v o:=by exact id rfl
theorem Asc{α:Type}(K:Option R):Ar ([]:List α) K=K:=by exact id rfl
theorem Al2{α:Type}(a:α)(r:List α)(K:α->List α->Option R):Av (a::r) K=K a r:=by exact id rfl
theorem Amq(b:Bool)(K:Bool->Option R):Cg (.sc (.bool b)) K=K b:=by exact id rfl
theorem Avf(s:ByteArray)(K:ByteArray->Option R):Ec (.sc (.string s)) K=K s:=by exact id rfl
theorem Acn(k:IntKind)(n:Int)(K:Int->Option R):Be k (.sc (.int k n)) K=K n:=by unfold Be;simp
theorem Au6(k:IntKind)(n:Int)(K:IntKind->Int->Option R):Fk (.sc (.int k n)) K=K k n:=by exact id rfl
theorem A1b(z:Bool)(es n:Nat)(c:Ab)(K:Bool->Nat->Ab->Option R):Ow es (.lst z es n c) K=K z n c:=by unfold Ow;simp
theorem A1n(es n:Nat)(c:Ab)(K:Nat->Ab->Option R):J0 es (.own es n c) K=K n c:=by unfold J0;simp
theorem Aux(c:Ab)(K:Ab->Option R):Dl (.agg c) K=K c:=by exact id rfl
theorem Al0(c:Ab)(K:Ab->Option R):HB (.pbox c) K=K c:=by exact id rfl
theorem Ajo{α:Type}(a:α)(K:α->Option R):F3 (some a) K=K a:=by exact id rfl
theorem Ke{α:Type}(a:α)(K:α->Option R):Aa a K=K a:=by exact id rfl
theorem Asl(K:Option R):As true K=K:=by exact id rfl
theorem ET(p:Prop)[Decidable p](K:Option R)(h:p):As (decide p) K=K:=by simp[As,h]
theorem Amb(b c:Bool)(K:Option R):As (b&&c) K=As b (As c K):=by cases b<;>rfl
theorem At4(x y:Option R):Az true x y=x:=by exact id rfl
theorem Ad8(x y:Option R):Az false x y=y:=by exact id rfl
theorem IU(p:Prop)[Decidable p](x y:Option R)(h:p):Az (decide p) x y=x:=by simp[Az,h]
theorem D6(p:Prop)[Decidable p](x y:Option R)(h:¬p):Az (decide p) x y=y:=by simp[Az,h]
theorem NW(p:Prop)[Decidable p](x y:Option R):Az (decide p) x y=if p then x else y:=by by_cases h:p<;>simp[Az,h]
theorem Gy(a b:Int)(x y:Option R):Az (a==b) x y=if a=b then x else y:=by rw[Apy,NW]
theorem Eb(a b:Int)(x y:Option R):Az (a != b) x y=if a=b then y else x:=by rw[SB,NW];by_cases h:a=b<;>simp[h]
theorem SW(x:Option R):CA x x=x:=by unfold CA;simp
end
theorem Ag{x:Int}(h1: -9223372036854775808<=x)(h2:x<=9223372036854775807):IntKind.wrap .i64 x=x:=by have:=IntWalk.i64_in x (by omega);exact this
theorem Cd{x:Int}(h1:0<=x)(h2:x<=18446744073709551615):IntKind.wrap .u64 x=x:=by simp only[IntKind.wrap,IntKind.signed,IntKind.bits];simp;omega
theorem Il{x:Int}(h1:0<=x)(h2:x<=255):IntKind.wrap .u8 x=x:=by simp only[IntKind.wrap,IntKind.signed,IntKind.bits];simp;omega
theorem Ls(x:Int):0<=IntKind.wrap .u64 x/\IntKind.wrap .u64 x<=18446744073709551615:=by simp only[IntKind.wrap,IntKind.signed,IntKind.bits];simp;omega
theorem C8{α:Type}{l r:List α}{x:α}{i:Nat}(h:l.drop i=x::r):i<l.length/\l[i]?=some x/\l.drop (i+1)=r:=by
 have h1:i<l.length:=by
  rcases Mh i l.length with h1|h1
  ·exact h1
  ·rw[List.drop_of_length_le h1] at h;cases h
 rw[List.drop_eq_getElem_cons h1] at h;injection h with h2 h3;exact⟨h1,by rw[List.getElem?_eq_getElem h1,h2],h3⟩
theorem drop_nil{α:Type}{l:List α}{i:Nat}(h:l.drop i=[]):l.length<=i:=by have:=congrArg List.length h;simp at this;omega
section
variable {α:Type}{f:α->Ab}{k:Nat}
theorem Xw(hf:∀x,(f x).length=k):∀(l:List α),(l.flatMap f).length=l.length*k
 |[]=>by simp
 |x::l=>by simp[hf x,Xw hf l,Nat.succ_mul];omega
theorem Aed(hf:∀x,(f x).length=k):∀(l:List α)(i:Nat),(l.flatMap f).drop (i*k)=(l.drop i).flatMap f
 |l,0=>by simp
 |[],i+1=>by simp
 |x::l,i+1=>by
  rw[J1,Nat.succ_mul,Nat.add_comm,<-List.drop_drop,List.drop_append_of_le_length (by rw[hf x];omega)]
  rw[show (f x).drop k=[] from List.drop_of_length_le (by rw[hf x];omega),UG]
  exact Aed hf l i
theorem Amk(hf:∀x,(f x).length=k):∀(l:List α)(i:Nat),(l.flatMap f).take (i*k)=(l.take i).flatMap f
 |l,0=>by simp
 |[],i+1=>by simp
 |x::l,i+1=>by
  rw[J1,Nat.succ_mul,Nat.add_comm,List.take_succ_cons,J1,<-Amk hf l i];rw[show k+i*k=(f x).length+i*k by rw[hf x],List.take_length_add_append]
theorem H4(hf:∀x,(f x).length=k){l:List α}{i:Nat}{x:α}(h:l[i]?=some x){j:Nat}(hj:j<k):(l.flatMap f).getD (i*k+j) .top=(f x).getD j .top:=by
 have h1:((l.flatMap f).drop (i*k))[j]?=(l.flatMap f)[i*k+j]?:=List.getElem?_drop;rw[Aed hf] at h1
 have h2:i<l.length:=by
  rcases Mh i l.length with h1|h1
  ·exact h1
  ·rw[List.getElem?_eq_none h1] at h;cases h
 rw[List.drop_eq_getElem_cons h2,J1] at h1;have h3:l[i]=x:=by rw[List.getElem?_eq_getElem h2] at h;injection h
 rw[h3,List.getElem?_append_left (by rw[hf x];exact hj)] at h1
 simp only[List.getD_eq_getElem?_getD,<-h1]
theorem Arx(hf:∀x,(f x).length=k){p:PV}{j:Nat}(hj:j<k):∀{l:List α}{i:Nat}{x y:α},l[i]?=some x->f y=(f x).set j p->(l.flatMap f).set (i*k+j) p=(l.set i y).flatMap f
 |[],i,x,y,h,_=>by simp at h
 |a::l,0,x,y,h,hy=>by
  simp at h;subst h;rw[Nat.zero_mul,Ck,J1,List.set_cons_zero,J1,hy,List.set_append_left _ _ (by rw[hf];exact hj)]
 |a::l,i+1,x,y,h,hy=>by
  simp at h;rw[J1,List.set_cons_succ,J1,List.set_append_right _ _ (by rw[hf,Nat.succ_mul];omega),hf]
  congr 1
  rw[show (i+1)*k+j-k=i*k+j by rw[Nat.succ_mul];omega]
  exact Arx hf hj h hy
theorem Hs{c:Ab}{p:PV}{i:Nat}(h:i<c.length):B0 c [p] i=c.set i p:=by unfold B0;rw[List.set_eq_take_append_cons_drop,Bn h];simp
end
theorem A4x{α:Type}{l:List α}{i:Nat}{x:α}(h:l[i]?=some x):i<l.length:=by
 rcases Mh i l.length with h1|h1
 ·exact h1
 ·rw[List.getElem?_eq_none h1] at h;cases h
abbrev Ayy(k:IntKind)(n:Int):Ab:=[.sc (.int k n)]
abbrev Ac(k:IntKind)(l:B8):Ab:=l.flatMap (Ayy k)
theorem CQ(k:IntKind)(n:Int):(Ayy k n).length=1:=rfl
theorem Ss{k:IntKind}{l:B8}{i:Nat}{n:Int}(h:l[i]?=some n):(Ac k l).getD i .top=.sc (.int k n):=by
 have:=H4 (CQ k) h (j:=0) (by omega)
 simpa using this
theorem Ap(k:IntKind)(l:B8):(Ac k l).length=l.length:=by rw[Xw (CQ k)];omega
theorem G7(k:IntKind)(l:B8)(n:Int):Ac k l++[.sc (.int k n)]=Ac k (l++[n]):=by simp
theorem Mi(k:IntKind)(l:B8):List.take l.length (Ac k l)=Ac k l:=Hg (by rw[Ap];omega)
theorem Aie{a m:Int}(h0:0<=m)(h1:m<9223372036854775808):0<=Oy .i64 a m/\Oy .i64 a m<=m:=by
 have FC:(BitVec.ofInt 64 a &&& BitVec.ofInt 64 m).toNat<=m.toNat:=by
  rw[BitVec.toNat_and];refine Nat.le_trans Nat.and_le_right ?_;rw[BitVec.toNat_ofInt];omega
 have:Oy .i64 a m=((BitVec.ofInt 64 a &&& BitVec.ofInt 64 m).toNat:Int):=by
  unfold Oy;exact Ag (by omega) (by show ((BitVec.ofInt 64 a &&& BitVec.ofInt 64 m).toNat:Int)<=_;omega)
 rw[this];omega
theorem Bz:type_of% @Amy/\type_of% @Asc/\type_of% @Al2/\type_of% @Amq/\type_of% @Avf/\type_of% @Acn/\type_of% @Au6/\type_of% @A1b/\type_of% @A1n/\type_of% @Aux/\type_of% @Al0/\type_of% @Ajo/\type_of% @Ke/\type_of% @Asl/\type_of% @ET/\type_of% @Amb/\type_of% @At4/\type_of% @Ad8/\type_of% @IU/\type_of% @D6/\type_of% @SW/\type_of% @Bool.not_true/\type_of% @Bool.not_false/\type_of% @Bool.false_eq_true/\type_of% @if_true.{1}/\type_of% @if_false.{1}/\type_of% @Bool.true_and/\type_of% @Bool.and_true/\type_of% @Bool.false_and/\type_of% @Bool.and_false/\type_of% @decide_true/\type_of% @decide_false:=
 ⟨@Amy,@Asc,@Al2,@Amq,@Avf,@Acn,@Au6,@A1b,@A1n,@Aux,@Al0,@Ajo,@Ke,@Asl,@ET,@Amb,@At4,@Ad8,@IU,@D6,@SW,@Bool.not_true,@Bool.not_false,@Bool.false_eq_true,@if_true.{1},@if_false.{1},@Bool.true_and,@Bool.and_true,@Bool.false_and,@Bool.and_false,@decide_true,@decide_false⟩
theorem gT:type_of% @Bool.and_eq_true/\type_of% @decide_eq_true_eq/\type_of% @beq_iff_eq.{0}/\type_of% @bne_iff_ne.{0}/\type_of% @ne_eq.{1}/\type_of% @Bool.not_eq_true'/\type_of% @true_and/\type_of% @and_true:=
 ⟨@Bool.and_eq_true,@decide_eq_true_eq,@beq_iff_eq.{0},@bne_iff_ne.{0},@ne_eq.{1},@Bool.not_eq_true',@true_and,@and_true⟩
theorem gF:type_of% @decide_eq_false_iff_not/\type_of% @beq_eq_false_iff_ne.{0}/\type_of% @bne_eq_false_iff_eq.{0}/\type_of% @ne_eq.{1}/\type_of% @Bool.not_eq_false':=
 ⟨@decide_eq_false_iff_not,@beq_eq_false_iff_ne.{0},@bne_eq_false_iff_eq.{0},@ne_eq.{1},@Bool.not_eq_false'⟩
section
open Go.RowKit
def Ca{α β:Type}(R:α->β->Prop):List α->List β->Prop
 |[],[]=>True
 |a::zs,b::bs=>R a b/\Ca R zs bs
 |_,_=>False
section
variable {α β γ:Type}{R S:α->β->Prop}
theorem Ca.len:∀{zs:List α}{bs:List β},Ca R zs bs->zs.length=bs.length
 |[],[],_=>rfl
 |_::_,_::_,h=>by simp[Ca.len h.2]
 |[],_::_,h=>h.elim
 |_::_,[],h=>h.elim
theorem Ca.at_:∀{zs:List α}{bs:List β},Ca R zs bs->∀{i:Nat} {a b},zs[i]?=some a->bs[i]?=some b->R a b
 |[],[],_,i,a,b,h,_=>by simp at h
 |_::_,_::_,h,0,a,b,ha,hb=>by simp at ha hb;subst ha;subst hb;exact h.1
 |_::_,_::_,h,i+1,a,b,ha,hb=>by simp at ha hb;exact Ca.at_ h.2 ha hb
 |[],_::_,h,_,_,_,_,_=>h.elim
 |_::_,[],h,_,_,_,_,_=>h.elim
theorem Ca.of_at:∀{zs:List α}{bs:List β},zs.length=bs.length->(∀(i:Nat) a b,zs[i]?=some a->bs[i]?=some b->R a b)->Ca R zs bs
 |[],[],_,_=>trivial
 |a::zs,b::bs,hl,h=>⟨h 0 a b rfl rfl,Ca.of_at (by simpa using hl) fun i x y hx hy=>h (i+1) x y hx hy⟩
 |[],_::_,hl,_=>by simp at hl
 |_::_,[],hl,_=>by simp at hl
theorem Ca.mono(hRS:∀a b,R a b->S a b):∀{zs:List α}{bs:List β},Ca R zs bs->Ca S zs bs
 |[],[],_=>trivial
 |_::_,_::_,h=>⟨hRS _ _ h.1,Ca.mono hRS h.2⟩
 |[],_::_,h=>h.elim
 |_::_,[],h=>h.elim
theorem Ca.mono_mem:∀{zs:List α}{bs:List β},(∀a∈zs,∀b,R a b->S a b)->Ca R zs bs->Ca S zs bs
 |[],[],_,_=>trivial
 |a::_,_::_,hRS,h=>⟨hRS a (by simp) _ h.1,Ca.mono_mem (fun x hx=>hRS x (by simp[hx])) h.2⟩
 |[],_::_,_,h=>h.elim
 |_::_,[],_,h=>h.elim
theorem Ca.app:∀{zs:List α}{bs:List β}{as':List α}{bs':List β},Ca R zs bs->Ca R as' bs'->Ca R (zs++as') (bs++bs')
 |[],[],_,_,_,h'=>h'
 |_::_,_::_,_,_,h,h'=>⟨h.1,Ca.app h.2 h'⟩
 |[],_::_,_,_,h,_=>h.elim
 |_::_,[],_,_,h,_=>h.elim
theorem Ca.take:∀(n:Nat){zs:List α}{bs:List β},Ca R zs bs->Ca R (zs.take n) (bs.take n)
 |0,_,_,_=>by simp[Ca]
 |_+1,[],[],_=>trivial
 |n+1,_::_,_::_,h=>⟨h.1,Ca.take n h.2⟩
 |_+1,[],_::_,h=>h.elim
 |_+1,_::_,[],h=>h.elim
theorem Ca.drop:∀(n:Nat){zs:List α}{bs:List β},Ca R zs bs->Ca R (zs.drop n) (bs.drop n)
 |0,_,_,h=>h
 |_+1,[],[],_=>trivial
 |n+1,_::_,_::_,h=>Ca.drop n h.2
 |_+1,[],_::_,h=>h.elim
 |_+1,_::_,[],h=>h.elim
end
inductive Bd(w:World)(A:Nat->Prop):PV->Value->Prop where
 |sc (v:Value):Bd w A (.sc v) v
 |top (v:Value):Bd w A .top v
 |ub (b:Bool):Bd w A .ub (.bool b)
 |lnil (z:Bool) (es:Nat):Bd w A (.lst z es 0 []) (.slice none 0 0)
 |lemp (es:Nat) (a:Addr) (cap:Nat):Bd w A (.lst false es 0 []) (.slice (some a) 0 cap)
 |lst (es n:Nat) (cells:Ab) (a:Addr) (cap:Nat) (f:Nat->Value) (hs:a.spot=none) (hb:a.block<w.heap.size) (hA:¬A a.block) (hn:n<=cap)
   (hc:∀j c,cells[j]?=some c->w.cell? (a.add j)=some (f j)) (h1:∀j c,cells[j]?=some c->(f j).oneCell'=true) (hr:∀j c,cells[j]?=some c->Bd w A c (f j)):Bd w A (.lst false es n cells) (.slice (some a) n cap)
def bsz(w:World)(b:Nat):Nat:=
 match w.heap[b]? with
 |some (.cells c _ _)=>c.size
 |_=>0
def YL(w:World)(A:Nat->Prop)(a:Addr)(cells:Ab):Prop:=∀j c,cells[j]?=some c->∃v,w.cell? (a.add j)=some v/\v.oneCell'=true/\Bd w A c v
def Cz(w:World)(A:Nat->Prop)(β:Nat->Option (Nat × Nat))(p:PV)(v:Value):Prop:=
 match p with
 |.view id es off n=>(β id=none/\off=0/\n=0/\∃ad,v=.slice ad 0 0) \/
   ∃b o x cap,β id=some (b,o)/\v=.slice (some ⟨b,x,none⟩) n cap/\(x=o+off\/(n=0/\off≠0))/\n<=cap/\x+cap*es<=bsz w b/\b<w.heap.size
 |.ptr id off=>∃b o,β id=some (b,o)/\v=.pointer (some ⟨b,o+off,none⟩)
 |.iptr c off=>∃a:Addr,v=.pointer (some (a.add off))/\a.spot=none/\a.block<w.heap.size/\¬A a.block/\YL w A a c
 |p=>Bd w A p v
def Jv(w:World)(A:Nat->Prop)(β:Nat->Option (Nat × Nat))(p:PV)(v:Value):Prop:=
 match p with
 |.agg cs=>∃vs,v=.agg ⟨vs⟩/\Ca (Cz w A β) cs vs
 |p=>Cz w A β p v
def Fe(w:World)(A:Nat->Prop)(β:Nat->Option (Nat × Nat))(p:PV)(v:Value):Prop:=
 match p with
 |.tup ps=>∃vs,v=.tuple ⟨vs⟩/\Ca (Jv w A β) ps vs
 |p=>Jv w A β p v
structure C6(A:Nat->Prop)(w w':World):Prop where
 size:w.heap.size<=w'.heap.size
 keep:∀b,b<w.heap.size->¬A b->w'.heap[b]?=w.heap[b]?
 bs:∀b,b<w.heap.size->bsz w b<=bsz w' b
theorem Iv(a:Addr)(j:Nat):(a.add j).block=a.block:=by unfold Addr.add;split<;>rfl
theorem add_add(a:Addr)(i j:Nat):(a.add i).add j=a.add (i+j):=by unfold Addr.add;by_cases hi:i=0<;>by_cases hj:j=0<;>simp[hi,hj,Sq]
theorem Fy(b o j:Nat):(⟨b,o,none⟩:Addr).add j=⟨b,o+j,none⟩:=by unfold Addr.add;by_cases hj:j=0<;>simp[hj]
theorem Ar8{a:Addr}(h:a.spot=none)(j:Nat):(a.add j).spot=none:=by unfold Addr.add;split<;>simp[h]
section
variable {w w':World}{A A':Nat->Prop}{β β':Nat->Option (Nat × Nat)}
theorem C6.cell(h:C6 A w w'){a:Addr}(hb:a.block<w.heap.size)(hA:¬A a.block):w'.cell? a=w.cell? a:=
 World.cell?_of_block (h.keep a.block hb hA)
theorem Bd.step(h:C6 A w w')(hA:∀b,b<w.heap.size->A' b->A b){p:PV}{v:Value}(t:Bd w A p v):Bd w' A' p v:=by
 induction t with
 |sc v=>exact .sc v
 |top v=>exact .top v
 |ub b=>exact .ub b
 |lnil z es=>exact .lnil z es
 |lemp es a cap=>exact .lemp es a cap
 |lst es n cells a cap f hs hb hA1 hn hc h1 hr ih=>
  refine .lst es n cells a cap f hs (Jp hb h.size) (fun x=>hA1 (hA _ hb x)) hn (fun j c hj=>?_) h1 (fun j c hj=>ih j c hj);rw[h.cell (by rw[Iv];exact hb) (by rw[Iv];exact hA1)]
  exact hc j c hj
theorem YL.step(h:C6 A w w')(hA:∀b,b<w.heap.size->A' b->A b){a:Addr}(hb:a.block<w.heap.size)(hn:¬A a.block){cells:Ab}(t:YL w A a cells):YL w' A' a cells:=by intro j c hj;obtain⟨v,hv,h1,ht⟩:=t j c hj;exact⟨v,by rw[h.cell (by rw[Iv];exact hb) (by rw[Iv];exact hn)];exact hv,h1,ht.step h hA⟩
theorem Cz.step(h:C6 A w w')(hA:∀b,b<w.heap.size->A' b->A b){p:PV}{v:Value}(hβ:∀id∈Ba p,β' id=β id)(t:Cz w A β p v):Cz w' A' β' p v:=by
 cases p with
 |view id es off n=>
  have e:=hβ id (by simp[Ba]);rcases t with⟨h1,h2,h3,h4⟩|⟨b,o,x,cap,h1,h2,hx,h3,h4,h5⟩
  ·exact .inl ⟨by rw[e];exact h1,h2,h3,h4⟩
  ·exact .inr ⟨b,o,x,cap,by rw[e];exact h1,h2,hx,h3,Nat.le_trans h4 (h.bs b h5),Jp h5 h.size⟩
 |ptr id off=>
  have e:=hβ id (by simp[Ba]);obtain⟨b,o,h1,h2⟩:=t;exact⟨b,o,by rw[e];exact h1,h2⟩
 |iptr c off=>
  obtain⟨a,h1,h2,h3,h4,h5⟩:=t;exact⟨a,h1,h2,Jp h3 h.size,fun x=>h4 (hA _ h3 x),h5.step h hA h3 h4⟩
 |sc v=>exact Bd.step h hA t
 |lst z es n c=>exact Bd.step h hA t
 |own es n c=>exact Bd.step h hA t
 |pbox c=>exact Bd.step h hA t
 |agg c=>exact Bd.step h hA t
 |tup c=>exact Bd.step h hA t
 |top=>exact Bd.step h hA t
 |ub=>exact Bd.step h hA t
theorem Jv.step(h:C6 A w w')(hA:∀b,b<w.heap.size->A' b->A b){p:PV}{v:Value}(hβ:∀id∈C2 p,β' id=β id)(t:Jv w A β p v):Jv w' A' β' p v:=by
 cases p with
 |agg cs=>
  obtain⟨vs,rfl,h2⟩:=t;exact⟨vs,rfl,h2.mono_mem fun c hc v hv=>hv.step h hA fun id B6=>hβ id (by simp only[C2,List.mem_flatMap];exact⟨c,hc,B6⟩)⟩
 |sc x=>exact Cz.step (p:=.sc x) h hA hβ t
 |lst x y z u=>exact Cz.step (p:=.lst x y z u) h hA hβ t
 |own x y z=>exact Cz.step (p:=.own x y z) h hA hβ t
 |view x y z u=>exact Cz.step (p:=.view x y z u) h hA hβ t
 |ptr x y=>exact Cz.step (p:=.ptr x y) h hA hβ t
 |iptr x y=>exact Cz.step (p:=.iptr x y) h hA hβ t
 |pbox x=>exact Cz.step (p:=.pbox x) h hA hβ t
 |tup x=>exact Cz.step (p:=.tup x) h hA hβ t
 |top=>exact Cz.step (p:=.top) h hA hβ t
 |ub=>exact Cz.step (p:=.ub) h hA hβ t
theorem Fe.step(h:C6 A w w')(hA:∀b,b<w.heap.size->A' b->A b){p:PV}{v:Value}(hβ:∀id∈Cn p,β' id=β id)(t:Fe w A β p v):Fe w' A' β' p v:=by
 cases p with
 |tup cs=>
  obtain⟨vs,rfl,h2⟩:=t;exact⟨vs,rfl,h2.mono_mem fun c hc v hv=>hv.step h hA fun id B6=>hβ id (by simp only[Cn,List.mem_flatMap];exact⟨c,hc,B6⟩)⟩
 |sc x=>exact Jv.step (p:=.sc x) h hA hβ t
 |lst x y z u=>exact Jv.step (p:=.lst x y z u) h hA hβ t
 |own x y z=>exact Jv.step (p:=.own x y z) h hA hβ t
 |view x y z u=>exact Jv.step (p:=.view x y z u) h hA hβ t
 |ptr x y=>exact Jv.step (p:=.ptr x y) h hA hβ t
 |iptr x y=>exact Jv.step (p:=.iptr x y) h hA hβ t
 |pbox x=>exact Jv.step (p:=.pbox x) h hA hβ t
 |top=>exact Jv.step (p:=.top) h hA hβ t
 |ub=>exact Jv.step (p:=.ub) h hA hβ t
 |agg x=>exact Jv.step (p:=.agg x) h hA hβ t
theorem C6.refl(A:Nat->Prop)(w:World):C6 A w w:=⟨Da _,fun _ _ _=>rfl,fun _ _=>Da _⟩
theorem YL.weak(hA:∀b,b<w.heap.size->A' b->A b){a:Addr}{cells:Ab}(t:YL w A a cells):YL w A' a cells:=by intro j c hj;obtain⟨v,hv,h1,ht⟩:=t j c hj;exact⟨v,hv,h1,ht.step (C6.refl A w) hA⟩
theorem C6.trans{w'':World}(h:C6 A w w')(h':C6 A' w' w'')(hA:∀b,b<w.heap.size->A' b->A b):C6 A w w'':=
  ⟨Nat.le_trans h.size h'.size,fun b hb hn=>(h'.keep b (Jp hb h.size) (fun x=>hn (hA b hb x))).trans (h.keep b hb hn),
   fun b hb=>Nat.le_trans (h.bs b hb) (h'.bs b (Jp hb h.size))⟩
theorem C6.weaken(h:C6 A w w')(hA:∀b,b<w.heap.size->A b->A' b):C6 A' w w':=⟨h.size,fun b hb hn=>h.keep b hb (fun x=>hn (hA b hb x)),h.bs⟩
end
section
variable {R:Type}{r:R}
theorem Hb{k:IntKind}{p:PV}{K:Int->Option R}(h:Be k p K=some r):∃n,p=.sc (.int k n)/\K n=some r:=by
 unfold Be at h;split at h
 ·split at h
  ·rename_i hk;subst hk;exact⟨_,rfl,h⟩
  ·cases h
 ·cases h
theorem Ft{p:PV}{K:Bool->Option R}(h:Cg p K=some r):∃b,p=.sc (.bool b)/\K b=some r:=by
 unfold Cg at h;split at h
 ·exact⟨_,rfl,h⟩
 ·cases h
theorem Fq{p:PV}{K:ByteArray->Option R}(h:Ec p K=some r):∃b,p=.sc (.string b)/\K b=some r:=by
 unfold Ec at h;split at h
 ·exact⟨_,rfl,h⟩
 ·cases h
theorem Fb{p:PV}{K:IntKind->Int->Option R}(h:Fk p K=some r):∃k n,p=.sc (.int k n)/\K k n=some r:=by
 unfold Fk at h;split at h
 ·exact⟨_,_,rfl,h⟩
 ·cases h
theorem A5{b:Bool}{K:Option R}(h:As b K=some r):b=true/\K=some r:=by
 unfold As at h;cases b
 ·cases h
 ·exact⟨rfl,h⟩
theorem Eh{α:Type}{o:Option α}{K:α->Option R}(h:F3 o K=some r):∃a,o=some a/\K a=some r:=by
 unfold F3 at h;split at h
 ·exact⟨_,rfl,h⟩
 ·cases h
theorem Bv{α:Type}{l:List α}{K:α->List α->Option R}(h:Av l K=some r):∃a t,l=a::t/\K a t=some r:=by
 unfold Av at h;split at h
 ·exact⟨_,_,rfl,h⟩
 ·cases h
theorem Fh{α:Type}{l:List α}{K:Option R}(h:Ar l K=some r):l=[]/\K=some r:=by
 unfold Ar at h;split at h
 ·exact⟨rfl,h⟩
 ·cases h
theorem Lx{p:PV}{K:Ab->Option R}(h:Dl p K=some r):∃c,p=.agg c/\K c=some r:=by
 unfold Dl at h;split at h
 ·exact⟨_,rfl,h⟩
 ·cases h
theorem Abl{p:PV}{K:Ab->Option R}(h:HB p K=some r):∃c,p=.pbox c/\K c=some r:=by
 unfold HB at h;split at h
 ·exact⟨_,rfl,h⟩
 ·cases h
theorem Ad6{p:PV}{K:Value->Option R}(h:fnK p K=some r):∃f a b,p=.sc (.func f a b)/\K (.func f a b)=some r:=by
 unfold fnK at h;split at h
 ·exact⟨_,_,_,rfl,h⟩
 ·cases h
theorem Awn{p:PV}{K:FuncId->Option R}(h:fvK p K=some r):∃f,p=.sc (.func (.func f) #[] #[])/\K f=some r:=by
 unfold fvK at h;split at h
 ·rename_i f a b;cases hb:(a.isEmpty&&b.isEmpty)<;>rw[hb] at h
  ·cases h
  ·simp only[G6,Array.isEmpty_iff] at hb;rw[hb.1,hb.2];exact⟨f,rfl,h⟩
 ·cases h
theorem Abs{o:Option Dt}{K:Ab->List Ab->Option R}(h:Bj o K=some r):∃v x,o=some ⟨v,x⟩/\K v x=some r:=by
 unfold Bj at h;split at h
 ·exact⟨_,_,rfl,h⟩
 ·cases h
theorem Tz{b:Bool}{x y:Option R}(h:Az b x y=some r):(b=true/\x=some r)\/(b=false/\y=some r):=by
 unfold Az at h;cases b
 ·exact .inr ⟨rfl,h⟩
 ·exact .inl ⟨rfl,h⟩
theorem I4{es:Nat}{p:PV}{K:Bool->Nat->Ab->Option R}(h:Ow es p K=some r):
  ∃z n c,K z n c=some r/\(p=.lst z es n c\/(p=.sc (.slice none 0 0)/\z=true/\n=0/\c=[])):=by
 unfold Ow at h;split at h
 ·rename_i z es' n c;cases hb:Nat.beq es' es
  ·rw[hb] at h;cases h
  ·rw[hb] at h;have:=Ez hb;subst this;exact⟨z,n,c,h,.inl rfl⟩
 ·exact⟨true,0,[],h,.inr ⟨rfl,rfl,rfl,rfl⟩⟩
 ·cases h
def GT:PV->Prop
 |.sc _=>True
 |.lst _ _ _ _=>True
 |_=>False
def YX:PV->Prop
 |.sc _=>True
 |.lst _ _ _ _=>True
 |.view _ _ _ _=>True
 |_=>False
theorem AV{c:PV}(h:GT c):YX c:=by cases c<;>first|trivial|exact h.elim
theorem Ml{c:PV}(h:GT c):Ba c=[]:=by cases c<;>first|rfl|exact h.elim
variable {w:World}{A:Nat->Prop}{β:Nat->Option (Nat × Nat)}
theorem Se{c:PV}{v:Value}(h:GT c):Cz w A β c v↔Bd w A c v:=by cases c<;>first|exact Iff.rfl|exact h.elim
theorem BI{c:PV}{v:Value}(h:∀cs,c ≠ .agg cs):Jv w A β c v↔Cz w A β c v:=by cases c<;>first|exact Iff.rfl|exact absurd rfl (h _)
theorem Tq{c:PV}{v:Value}(h:∀cs,c ≠ .tup cs):Fe w A β c v↔Jv w A β c v:=by cases c<;>first|exact Iff.rfl|exact absurd rfl (h _)
theorem LR{c:PV}(h:GT c)(cs:Ab):c ≠ .agg cs:=by rintro rfl;exact h
theorem Am3{c:PV}(h:GT c)(cs:Ab):c ≠ .tup cs:=by rintro rfl;exact h
theorem Bd.val{v u:Value}(h:Bd w A (.sc v) u):u=v:=by cases h;rfl
theorem IM{es n:Nat}{z:Bool}{c:Ab}{p:PV}{v:Value}(h:p=.lst z es n c\/(p=.sc (.slice none 0 0)/\z=true/\n=0/\c=[]))(hv:Cz w A β p v):Bd w A (.lst z es n c) v:=by
 rcases h with rfl|⟨rfl,rfl,rfl,rfl⟩
 ·exact hv
 ·have:=Bd.val (w:=w) (A:=A) hv;subst this;exact .lnil true es
theorem To{t:CT}{p:PV}{K:PV->Option R}(h:NM t p K=some r):
  ∃c,K c=some r/\GT c/\GT p/\∀(w:World) (A:Nat->Prop) (β:Nat->Option (Nat × Nat)) (v:Value),Cz w A β p v->Bd w A c v/\v.oneCell'=true:=by
 cases t with
 |int k=>obtain⟨n,rfl,h2⟩:=Hb h;exact⟨_,h2,trivial,trivial,fun w A β v hv=>⟨hv,by have:=Bd.val (w:=w) (A:=A) hv;subst this;rfl⟩⟩
 |bool=>obtain⟨n,rfl,h⟩:=Ft h;exact⟨_,h,trivial,trivial,fun w A β v hv=>⟨hv,by have:=Bd.val (w:=w) (A:=A) hv;subst this;rfl⟩⟩
 |str=>obtain⟨n,rfl,h⟩:=Fq h;exact⟨_,h,trivial,trivial,fun w A β v hv=>⟨hv,by have:=Bd.val (w:=w) (A:=A) hv;subst this;rfl⟩⟩
 |sl es=>
  obtain⟨z,n,c,h,hp⟩:=I4 h;refine⟨_,h,trivial,?_,fun w A β v hv=>⟨IM hp hv,?_⟩⟩
  ·rcases hp with rfl|⟨rfl,_⟩<;>trivial
  ·have ht:=IM hp hv;cases ht<;>rfl
 |any=>
  obtain⟨f,a,b,rfl,h2⟩:=Ad6 (show fnK p (fun v=>K (.sc v))=some r from h);exact⟨_,h2,trivial,trivial,fun w A β v hv=>⟨hv,by have:=Bd.val (w:=w) (A:=A) hv;subst this;rfl⟩⟩
theorem Aw1{t:CT}{p:PV}{K:PV->Option R}(h:fcK t p K=some r):
  ∃c,K c=some r/\(GT c\/c=p)/\YX p/\p ≠ .top/\(∀cs,c ≠ .agg cs)/\(∀cs,c ≠ .tup cs)/\(∀id,id∈Ba c->id∈Ba p)/\∀(w:World) (A:Nat->Prop) (β:Nat->Option (Nat × Nat)) (v:Value),Cz w A β p v->Cz w A β c v/\v.oneCell'=true:=by
 have tree:∀t',NM t' p K=some r->∃c,K c=some r/\(GT c\/c=p)/\YX p/\p ≠ .top/\(∀cs,c ≠ .agg cs)/\(∀cs,c ≠ .tup cs)/\(∀id,id∈Ba c->id∈Ba p)/\∀(w:World) (A:Nat->Prop) (β:Nat->Option (Nat × Nat)) (v:Value),Cz w A β p v->Cz w A β c v/\v.oneCell'=true:=by
  intro t' h;obtain⟨c,h,hc,hp,hv⟩:=To h;exact⟨c,h,.inl hc,AV hp,by rintro rfl;exact hp,LR hc,Am3 hc,by rw[Ml hc];simp,fun w A β v h=>⟨(Se hc).2 (hv w A β v h).1,(hv w A β v h).2⟩⟩
 cases t with
 |sl es=>
  unfold fcK fsK at h;dsimp only at h;split at h
  ·rename_i id es' off n;cases hb:Nat.beq es' es
   ·rw[hb] at h;cases h
   ·rw[hb] at h;have:=Ez hb;subst this;exact⟨_,h,.inr rfl,trivial,by simp,by simp,by simp,fun _ h=>h,fun _ _ _ _ h=>⟨h,by rcases h with⟨_,_,_,_,rfl⟩|⟨_,_,_,_,_,rfl,_⟩<;>rfl⟩⟩
  ·exact tree (.sl es) h
 |int k=>exact tree (.int k) h
 |bool=>exact tree (.bool) h
 |str=>exact tree (.str) h
 |any=>exact tree (.any) h
theorem PU{cells:Ab}{i:Nat}{p:PV}(h:cells.getD i .top=p)(hp:p ≠ .top):cells[i]?=some p:=by
 rw[List.getD_eq_getElem?_getD] at h;cases hc:cells[i]? with
 |none=>rw[hc] at h;exact absurd h.symm hp
 |some q=>rw[hc] at h;simp at h;rw[h]
theorem CU:∀{ts:List CT}{cells:Ab}{off:Nat}{K:Ab->Option R},DP ts cells off K=some r ->
  ∃cs,K cs=some r/\cs.length=ts.length/\∀j c,cs[j]?=some c->GT c/\∃p,cells[off+j]?=some p/\GT p /\
   ∀(w:World) (A:Nat->Prop) (β:Nat->Option (Nat × Nat)) (v:Value),Cz w A β p v->Bd w A c v/\v.oneCell'=true
 |[],_,_,_,h=>⟨[],h,rfl,fun j c hj=>by simp at hj⟩
 |t::ts,cells,off,K,h=>by
  unfold DP at h;obtain⟨c,h,hc,hp,hv⟩:=To h;obtain⟨cs,h,hl,hcs⟩:=CU h;refine⟨c::cs,h,by simp[hl],fun j c' hj=>?_⟩;cases j with
  |zero=>
   simp at hj;subst hj;refine⟨hc,cells.getD off .top,PU rfl ?_,hp,hv⟩;intro e;rw[e] at hp;exact hp
  |succ j=>
   simp at hj;have:=hcs j c' hj
   rwa [Nat.add_right_comm,Sq] at this
theorem CV:∀{ts:List CT}{cells:Ab}{off:Nat}{K:Ab->Option R},Xp ts cells off K=some r ->
  ∃cs,K cs=some r/\cs.length=ts.length/\(∀c∈cs,(∀x,c ≠ .agg x)/\(∀x,c ≠ .tup x))/\∀j c,cs[j]?=some c->∃p,cells[off+j]?=some p/\YX p/\(∀id,id∈Ba c->id∈Ba p) /\
   ∀(w:World) (A:Nat->Prop) (β:Nat->Option (Nat × Nat)) (v:Value),Cz w A β p v->Cz w A β c v/\v.oneCell'=true
 |[],_,_,_,h=>⟨[],h,rfl,by simp,fun j c hj=>by simp at hj⟩
 |t::ts,cells,off,K,h=>by
  unfold Xp at h;obtain⟨c,h,hc,hf,hp,ha,ht,hr,hv⟩:=Aw1 h;obtain⟨cs,h,hl,PD,hcs⟩:=CV h;refine⟨c::cs,h,by simp[hl],?_,fun j c' hj=>?_⟩
  ·intro x hx;rcases B7.1 hx with rfl|hx
   ·exact⟨ha,ht⟩
   ·exact PD x hx
  ·cases j with
   |zero=>
    simp at hj;subst hj;exact⟨cells.getD off .top,PU rfl hp,hf,hr,hv⟩
   |succ j=>
    simp at hj;have:=hcs j c' hj
    rwa [Nat.add_right_comm,Sq] at this
theorem Ac4{agg:Bool}{cells:Ab}{K:PV->Option R}(h:mkV agg cells K=some r):
  (agg=true/\K (.agg cells)=some r)\/(agg=false/\∃c,cells=[c]/\K c=some r):=by
 unfold mkV at h;cases agg
 ·obtain⟨c,t,rfl,h⟩:=Bv h;obtain⟨rfl,h⟩:=Fh h;exact .inr ⟨rfl,c,rfl,h⟩
 ·exact .inl ⟨rfl,h⟩
end
open Go.RowKit
def Db(b:Option Cb):Prop:=
 match b with
 |some (.st _)=>True
 |some (.ar false _)=>True
 |_=>False
abbrev Bt:=Nat->Option (Nat × Nat)
def JO(hp:Nat->Option Cb)(β:Bt)(b:Nat):Prop:=∃id o,Db (hp id)/\β id=some (b,o)
def D4(hp:Nat->Option Cb)(β:Bt)(Y:Nat->Prop)(b:Nat):Prop:=JO hp β b\/Y b
def Ys(w:World)(A:Nat->Prop)(β:Bt)(id:Nat)(bx:Cb):Prop:=
 match bx with
 |.st cells=>∃b o,β id=some (b,o)/\(∀j c,cells[j]?=some c->∃v,w.cell? ⟨b,o+j,none⟩=some v/\Cz w A β c v)/\∀j,j<cells.length->w.frozen? ⟨b,o+j,none⟩=false
 |.ar fz cells=>(β id=none/\cells=[])\/∃b o,β id=some (b,o)/\YL w A ⟨b,o,none⟩ cells/\(fz=false->∀j,o<=j->j<bsz w b->w.frozen? ⟨b,j,none⟩=false)/\(fz=true->¬A b)
 |.mv=>True
structure Gt where
 X:Nat->Prop
 L:Nat->Nat->Prop
 pn:Nat->Prop
 pt:Nat->Option (Nat × Nat)
 p8:∀i,pn i->i<8
def BR(bx:Cb)(o j:Nat):Prop:=
 match bx with
 |.st c=>o<=j/\j<o+c.length
 |.ar _ _=>o<=j
 |.mv=>False
structure Fr(X0:Gt)(w0 w:World):Prop where
 os:w.os=w0.os
 tape:w.tape=w0.tape
 output:w.output=w0.output
 step:C6 X0.X w0 w
 rng:∀b j,b<w0.heap.size->¬X0.L b j->w.cell? ⟨b,j,none⟩=w0.cell? ⟨b,j,none⟩/\w.frozen? ⟨b,j,none⟩=w0.frozen? ⟨b,j,none⟩
structure Cj(N:Nat)(w0:World)(X0:Gt)(Y:Nat->Prop)(β:Bt)(s:St)(a:Act)(w:World):Prop where
 dfr:a.defers=[]
 tsz:a.tmps.size=N
 tmo:∀i,N<=i->s.tm i=.top
 tms:∀i,i<N->Fe w (D4 s.hp β Y) β (s.tm i) (a.tmps.getD i undef)
 box:∀id b,s.hp id=some b->Ys w (D4 s.hp β Y) β id b
 inj:∀id id' b o o',Db (s.hp id)->Db (s.hp id')->β id=some (b,o)->β id'=some (b,o')->id=id'
 blt:∀id b o,s.hp id≠none->β id=some (b,o)->b<w.heap.size
 wfT:∀i,i<N->∀id∈Cn (s.tm i),s.hp id≠none
 wfB:∀id cells,s.hp id=some (.st cells)->∀c∈cells,∀id'∈Ba c,s.hp id'≠none
 ownd:∀b,JO s.hp β b->X0.X b\/w0.heap.size<=b
 rngB:∀id bx b o,s.hp id=some bx->Db (some bx)->β id=some (b,o)->b<w0.heap.size->∀j,BR bx o j->X0.L b j
 pin:∀i,X0.pn i->s.hp (Ef N i)≠none/\β (Ef N i)=X0.pt i
 stp:∀id c b o,s.hp id=some (.st c)->β id=some (b,o)->b<w0.heap.size->∃i,id=Ef N i/\X0.pn i
 Yx:∀b,Y b->¬JO s.hp β b
 Ylt:∀b,Y b->b<w0.heap.size
 fr:Fr X0 w0 w
theorem Ed{b:Option Cb}(h:Db b):b≠none:=by rintro rfl;exact h
theorem A8{α:Type}(f:Nat->α)(i:Nat)(v:α):D2 f i v i=v:=by simp[D2,P6]
theorem Ax{α:Type}(f:Nat->α){i j:Nat}(v:α)(h:j≠i):D2 f i v j=f j:=by
 have:Nat.beq j i=false:=by
  cases hb:Nat.beq j i
  ·rfl
  ·exact absurd (Ez hb) h
 simp[D2,this]
theorem MM{α:Type}(f:Nat->α){i:Nat}{v:α}(h:f i=v):D2 f i v=f:=by
 funext j
 by_cases e:j=i
 ·subst e;rw[A8];exact h.symm
 ·exact Ax f v e
theorem Agp{α:Type}(f:Nat->α){i j:Nat}(u v:α)(h:i≠j):D2 (D2 f i u) j v=D2 (D2 f j v) i u:=by
 funext k
 by_cases e:k=j
 ·subst e;rw[A8,Ax _ _ (Ne.symm h),A8]
 ·rw[Ax _ _ e];by_cases e':k=i
  ·subst e';rw[A8,A8]
  ·rw[Ax _ _ e',Ax _ _ e',Ax _ _ e]
theorem ZC{a:Act}{d:Nat}{v:Value}(h:d<a.tmps.size):(a.put (some d) v).tmps.getD d undef=v:=by simp[Act.put,h]
theorem WD{a:Act}{d i:Nat}{v:Value}(h:i≠d):(a.put (some d) v).tmps.getD i undef=a.tmps.getD i undef:=by have h':d≠i:=fun e=>h e.symm;simp[Act.put,Array.getElem?_setIfInBounds_ne h']
section
variable {N:Nat}{w0:World}{X0:Gt}{Y:Nat->Prop}{β β':Bt}{s:St}{a:Act}{w w':World}
theorem I1(d:Option Tmp)(v:Value):(a.put d v).tmps.size=a.tmps.size:=by cases d<;>simp[Act.put]
theorem Ln(d:Option Tmp)(v:Value):(a.put d v).defers=a.defers:=by cases d<;>rfl
theorem X5{d:Option Tmp}(h:J3 N d=true){i:Nat}(e:d=some i):i<N:=by subst e;exact Nat.lt_of_succ_le (Ya h)
theorem Wt{Q:Nat->PV->Value->Prop}{tm:Nat->PV}{d:Option Tmp}{v:PV}{val:Value}(hN:a.tmps.size=N)(hd:J3 N d=true)(h:∀i,i<N->Q i (tm i) (a.tmps.getD i undef))(hv:∀i,Q i v val):∀i,i<N->Q i (Co tm d v i) ((a.put d val).tmps.getD i undef):=by
 intro i hi;cases d with
 |none=>exact h i hi
 |some d=>
  have Cr:=X5 hd rfl;by_cases e:i=d
  ·subst e;show Q i (D2 tm i v i) _;rw[A8,ZC (by omega)];exact hv i
  ·show Q i (D2 tm d v i) _;rw[Ax _ _ e,WD e];exact h i hi
theorem Adw{tm:Nat->PV}{d:Option Tmp}{v:PV}(hd:J3 N d=true)(h:∀i,N<=i->tm i=.top):∀i,N<=i->Co tm d v i=.top:=by
 intro i hi;cases d with
 |none=>exact h i hi
 |some d=>
  have:=X5 hd rfl;show D2 tm d v i=_;rw[Ax _ _ (by omega)];exact h i hi
theorem Cj.put(h:Cj N w0 X0 Y β s a w){d:Option Tmp}{v:PV}{val:Value}(hd:J3 N d=true)(hv:Fe w (D4 s.hp β Y) β v val)(hr:∀id∈Cn v,s.hp id≠none):
  Cj N w0 X0 Y β ⟨Co s.tm d v,s.hp⟩ (a.put d val) w where
 dfr:=by rw[Ln];exact h.dfr
 tsz:=by rw[I1];exact h.tsz
 tmo:=Adw hd h.tmo
 tms:=Wt (Q:=fun _ p u=>Fe w (D4 s.hp β Y) β p u) h.tsz hd h.tms (fun _=>hv)
 box:=h.box
 inj:=h.inj
 blt:=h.blt
 wfT:=by
  have:=Wt (Q:=fun _ p _=>∀id∈Cn p,s.hp id≠none) (val:=val) h.tsz hd h.wfT (fun _=>hr);exact this
 wfB:=h.wfB
 ownd:=h.ownd
 rngB:=h.rngB
 pin:=h.pin
 stp:=h.stp
 Yx:=h.Yx
 Ylt:=h.Ylt
 fr:=h.fr
theorem C5(hp:Nat->Option Cb)(ids:Cc)(i:Nat):Al hp ids i=if i∈ids then (hp i).map DN else hp i:=by
 unfold Al;by_cases hi:i∈ids
 ·have:ids.any (Nat.beq i)=true:=List.any_eq_true.2 ⟨i,hi,P6 i⟩;rw[this,Bn hi];rfl
 ·have:ids.any (Nat.beq i)=false:=by
   cases hb:ids.any (Nat.beq i)
   ·rfl
   ·obtain⟨j,hj,e⟩:=List.any_eq_true.1 hb;exact absurd (Ez e ▸ hj) hi
  rw[this,A4 hi];rfl
theorem Gd{hp:Nat->Option Cb}{ids:Cc}{i:Nat}:Al hp ids i=none↔hp i=none:=by rw[C5];split<;>simp
theorem Xe{hp:Nat->Option Cb}{ids:Cc}{i:Nat}(h:Db (Al hp ids i)):Db (hp i):=by
 rw[C5] at h;split at h
 ·cases hb:hp i with
  |none=>rw[hb] at h;exact h
  |some b=>cases b with
   |st c=>trivial
   |ar fz c=>rw[hb] at h;exact h.elim
   |mv=>rw[hb] at h;exact h
 ·exact h
theorem N8{hp:Nat->Option Cb}{ids:Cc}{i:Nat}{bx:Cb}(h:Al hp ids i=some bx)(hl:Db (some bx)):hp i=some bx:=by
 rw[C5] at h;split at h
 ·cases hb:hp i with
  |none=>rw[hb] at h;cases h
  |some b=>
   rw[hb] at h;cases b with
   |st c=>exact h
   |ar fz c=>simp only[Option.map_some,DN,Option.some.injEq] at h;subst h;exact hl.elim
   |mv=>simp only[Option.map_some,DN,Option.some.injEq] at h;subst h;exact hl.elim
 ·exact h
theorem Yp{hp:Nat->Option Cb}{ids:Cc}{b:Nat}(h:JO (Al hp ids) β b):JO hp β b:=by obtain⟨id,o,hl,hb⟩:=h;exact⟨id,o,Xe hl,hb⟩
theorem Ys.step'{A A':Nat->Prop}{id:Nat}{bx:Cb}(hA:∀b,A' b->A b)(h:Ys w A β id bx):Ys w A' β id bx:=by
 have hs:=C6.refl A w;cases bx with
 |st c=>
  obtain⟨b,o,h1,h2,h3⟩:=h;exact⟨b,o,h1,fun j c hj=>let ⟨v,hv,hc⟩:=h2 j c hj;⟨v,hv,hc.step hs (fun b _=>hA b) (fun _ _=>rfl)⟩,h3⟩
 |ar fz c=>
  rcases h with h|⟨b,o,h1,h2,h3,h4⟩
  ·exact .inl h
  ·exact .inr ⟨b,o,h1,h2.weak (fun b _=>hA b),h3,fun e x=>h4 e (hA b x)⟩
 |mv=>trivial
theorem Cj.freeze(h:Cj N w0 X0 Y β s a w){fz:Cc}(PB:∀id∈fz,∃f c,s.hp id=some (.ar f c)):Cj N w0 X0 Y β ⟨s.tm,Al s.hp fz⟩ a w:=by
 have hA:∀b,D4 (Al s.hp fz) β Y b->D4 s.hp β Y b:=fun b hb=>hb.imp Yp id
 refine⟨h.dfr,h.tsz,h.tmo,fun i hi=>(h.tms i hi).step (C6.refl _ _) (fun b _=>hA b) (fun _ _=>rfl),fun id b hb=>?_,fun id id' b o o' h1 h2=>h.inj id id' b o o' (Xe h1) (Xe h2),
  fun id b o hn=>h.blt id b o (fun e=>hn (Gd.2 e)),fun i hi id B6 e=>h.wfT i hi id B6 (Gd.1 e),fun id cells hc c hcm id' B6 e=>?_,fun b hb=>h.ownd b (Yp hb),
  fun id bx b o hb hl=>h.rngB id bx b o (N8 hb hl) hl,fun i hi=>⟨fun e=>(h.pin i hi).1 (Gd.1 e),(h.pin i hi).2⟩,fun id c b o hc=>h.stp id c b o (N8 hc trivial),fun b hb x=>h.Yx b hb (Yp x),h.Ylt,h.fr⟩
 ·simp only at hb;rw[C5] at hb;split at hb
  ·rename_i hm;obtain⟨f,c,hc⟩:=PB id hm;rw[hc] at hb;simp only[Option.map_some,DN,Option.some.injEq] at hb;subst hb;have P4:=h.box id _ hc;rcases P4 with P4|⟨b,o,h1,h2,h3,h4⟩
   ·exact .inl P4
   ·refine .inr ⟨b,o,h1,h2.weak (fun b _=>hA b),(fun e=>by cases e),fun _ hb=>?_⟩;rcases hb with⟨id',o',hl,hb⟩|hY
    ·have Zx:=Xe hl;cases f with
     |true=>exact h4 rfl (.inl ⟨id',o',Zx,hb⟩)
     |false=>
      have e:=h.inj id' id b o' o Zx (by rw[hc];trivial) hb h1
      subst e;simp only at hl;rw[C5,Bn hm,hc] at hl;exact hl
    ·cases f with
     |true=>exact h4 rfl (.inr hY)
     |false=>exact h.Yx b hY ⟨id,o,by rw[hc];trivial,h1⟩
  ·exact (h.box id b hb).step' hA
 ·simp only at hc;rw[C5] at hc;refine h.wfB id cells ?_ c hcm id' B6 (Gd.1 e);split at hc
  ·rename_i hm;obtain⟨f,c,AE⟩:=PB id hm;rw[AE] at hc;cases hc
  ·exact hc
theorem Cl:∀{nw:List (Nat × Cb)} {hp:Nat->Option Cb},C3 hp nw=true ->
  (∀id bx,(id,bx)∈nw->hp id=none)/\(∀id bx bx',(id,bx)∈nw->(id,bx')∈nw->bx=bx')
 |[],_,_=>⟨by simp,by simp⟩
 |(i,b)::r,hp,h=>by
  simp only[C3,G6,Option.isNone_iff_eq_none,Bool.not_eq_true'] at h;obtain⟨⟨h1,h2⟩,h3⟩:=h;obtain⟨h4,h5⟩:=Cl h3
  have Gu:∀bx,(i,bx) ∉ r:=by
   intro bx hm;have:r.any (fun q=>Nat.beq q.1 i)=true:=List.any_eq_true.2 ⟨_,hm,P6 i⟩;rw[this] at h2;cases h2
  refine⟨fun id bx hm=>?_,fun id bx bx' hm Nh=>?_⟩
  ·rcases B7.1 hm with e|hm
   ·cases e;exact h1
   ·exact h4 id bx hm
  ·rcases B7.1 hm with e|hm
   ·cases e;rcases B7.1 Nh with e|Nh
    ·cases e;rfl
    ·exact absurd Nh (Gu _)
   ·rcases B7.1 Nh with e|Nh
    ·cases e;exact absurd hm (Gu _)
    ·exact h5 id bx bx' hm Nh
theorem G3:∀{nw:List (Nat × Cb)} {hp:Nat->Option Cb},(∀id bx bx',(id,bx)∈nw->(id,bx')∈nw->bx=bx') ->
  (∀id bx,(id,bx)∈nw->Bf hp nw id=some bx)/\(∀id,(∀bx,(id,bx) ∉ nw)->Bf hp nw id=hp id)
 |[],_,_=>⟨by simp,fun _ _=>rfl⟩
 |(i,b)::r,hp,h=>by
  obtain⟨h1,h2⟩:=G3 (nw:=r) (hp:=D2 hp i (some b)) (fun id bx bx' hm Nh=>h id bx bx' (by simp[hm]) (by simp[Nh]));refine⟨fun id bx hm=>?_,fun id hn=>?_⟩
  ·by_cases hr:∃bx',(id,bx')∈r
   ·obtain⟨bx',hr⟩:=hr;have:=h id bx bx' hm (by simp[hr]);subst this;exact h1 id bx hr
   ·rcases B7.1 hm with e|hm
    ·cases e;show Bf (D2 hp i (some b)) r i=_;rw[h2 i (fun bx' hb=>hr ⟨bx',hb⟩),A8]
    ·exact absurd ⟨bx,hm⟩ hr
  ·show Bf (D2 hp i (some b)) r id=_;rw[h2 id (fun bx hb=>hn bx (by simp[hb])),Ax]
   rintro rfl
   exact hn b (by simp)
structure Aa0(Y:Nat->Prop)(β:Bt)(s:St)(w:World)(v:PV)(nw:List (Nat × Cb))(val:Value)(w':World)(β':Bt):Prop where
 os:w'.os=w.os
 tape:w'.tape=w.tape
 output:w'.output=w.output
 ext:C6 (fun _=>False) w w'
 old:∀id,s.hp id≠none->β' id=β id
 nlive:∀id bx,(id,bx)∈nw->Db (some bx)
 nbox:∀id bx,(id,bx)∈nw->Ys w' (D4 (Bf s.hp nw) β' Y) β' id bx
 nblk:∀id bx b o,(id,bx)∈nw->β' id=some (b,o)->w.heap.size<=b/\b<w'.heap.size
 ninj:∀id bx id' bx' b o o',(id,bx)∈nw->(id',bx')∈nw->β' id=some (b,o)->β' id'=some (b,o')->id=id'
 nwf:∀id cells,(id,.st cells)∈nw->∀c∈cells,∀id'∈Ba c,s.hp id'≠none\/∃bx,(id',bx)∈nw
 val:Fe w' (D4 (Bf s.hp nw) β' Y) β' v val
 vwf:∀id∈Cn v,s.hp id≠none\/∃bx,(id,bx)∈nw
theorem Cj.stepR(h:Cj N w0 X0 Y β s a w){d:Option Tmp}{v:PV}{nw:List (Nat × Cb)}{val:Value}(hd:J3 N d=true)(X1:C3 s.hp nw=true)(st:Aa0 Y β s w v nw val w' β'):Cj N w0 X0 Y β' ⟨Co s.tm d v,Bf s.hp nw⟩ (a.put d val) w':=by
 obtain⟨ha1,ha2⟩:=Cl X1;obtain⟨hg1,hg2⟩:=G3 (hp:=s.hp) ha2
 have Lt:∀id,(∃bx,(id,bx)∈nw)\/Bf s.hp nw id=s.hp id:=fun id=>by
  by_cases hx:∃bx,(id,bx)∈nw
  ·exact .inl hx
  ·exact .inr (hg2 id fun bx hb=>hx ⟨bx,hb⟩)
 have A7l:∀id,s.hp id≠none->Bf s.hp nw id=s.hp id:=fun id hn=>by
  rcases Lt id with⟨bx,hx⟩|e
  ·exact absurd (ha1 id bx hx) hn
  ·exact e
 have M6:∀id,(s.hp id≠none\/∃bx,(id,bx)∈nw)->Bf s.hp nw id≠none:=by
  rintro id (hn|⟨bx,hx⟩)
  ·rw[A7l id hn];exact hn
  ·rw[hg1 id bx hx];simp
 have Az6:∀b,b<w.heap.size->JO (Bf s.hp nw) β' b->JO s.hp β b:=by
  rintro b hb ⟨id,o,hl,hβ⟩
  rcases Lt id with⟨bx,hx⟩|e
  ·have:=(st.nblk id bx b o hx hβ).1;omega
  ·rw[e] at hl;exact⟨id,o,hl,by rw[<-st.old id (Ed hl)];exact hβ⟩
 have Amc:∀b,b<w.heap.size->D4 (Bf s.hp nw) β' Y b->D4 s.hp β Y b:=fun b hb hA=>hA.imp (Az6 b hb) id;have As2:C6 (D4 s.hp β Y) w w':=st.ext.weaken (fun _ _ x=>x.elim);refine⟨by rw[Ln];exact h.dfr,by rw[I1];exact h.tsz,Adw hd h.tmo,?_,?_,?_,?_,?_,?_,?_,?_,?_,?_,?_,h.Ylt,?_⟩
 ·refine Wt (Q:=fun _ p u=>Fe w' (D4 (Bf s.hp nw) β' Y) β' p u) h.tsz hd (fun i hi=>?_) (fun _=>st.val);exact (h.tms i hi).step As2 Amc fun id B6=>st.old id (h.wfT i hi id B6)
 ·intro id b hb;simp only at hb;rcases Lt id with⟨bx,hx⟩|e
  ·rw[hg1 id bx hx] at hb;cases hb;exact st.nbox id _ hx
  ·rw[e] at hb;have hβ:=st.old id (by rw[hb];simp)
   have P4:=h.box id b hb;have Cr:=h.blt id;have Gu:s.hp id≠none:=by rw[hb];simp
   cases b with
   |st c=>
    obtain⟨b,o,h1,h2,h3⟩:=P4;have Kh:=Cr b o Gu h1;have GQ:=st.ext.keep b Kh (fun x=>x);refine⟨b,o,by rw[hβ];exact h1,fun j c hj=>?_,fun j hj=>?_⟩
    ·obtain⟨v,hv,hc⟩:=h2 j c hj;refine⟨v,by rw[World.cell?_of_block (w:=w) GQ];exact hv,hc.step As2 Amc fun id' B6=>st.old id' ?_⟩
     exact h.wfB id _ hb c (List.mem_of_getElem? hj) id' B6
    ·rw[World.frozen?_of_block (w:=w) GQ];exact h3 j hj
   |ar fz c=>
    rcases P4 with⟨h1,h2⟩|⟨b,o,h1,h2,h3,h4⟩
    ·exact .inl ⟨by rw[hβ];exact h1,h2⟩
    ·have Kh:=Cr b o Gu h1;have GQ:=st.ext.keep b Kh (fun x=>x);have TY:bsz w' b=bsz w b:=by unfold bsz;rw[GQ]
     refine .inr ⟨b,o,by rw[hβ];exact h1,fun j c hj=>?_,fun e j hj CM=>?_,fun e x=>h4 e (Amc b Kh x)⟩
     ·obtain⟨v,hv,h5,hc⟩:=h2 j c hj;exact⟨v,by rw[World.cell?_of_block (w:=w) (by rw[Iv];exact GQ)];exact hv,h5,hc.step As2 Amc⟩
     ·rw[World.frozen?_of_block (w:=w) GQ];exact h3 e j hj (by rw[<-TY];exact CM)
   |mv=>trivial
 ·intro id id' b o o' hl Q7 hb Kh;simp only at hl Q7;rcases Lt id with⟨bx,hx⟩|e
  ·rcases Lt id' with⟨bx',Zy⟩|e'
   ·exact st.ninj id bx id' bx' b o o' hx Zy hb Kh
   ·rw[e'] at Q7;have h1:=(st.nblk id bx b o hx hb).1;have h2:=h.blt id' b o' (Ed Q7) (by rw[<-st.old id' (Ed Q7)];exact Kh)
    omega
  ·rw[e] at hl;rcases Lt id' with⟨bx',Zy⟩|e'
   ·have h1:=(st.nblk id' bx' b o' Zy Kh).1;have h2:=h.blt id b o (Ed hl) (by rw[<-st.old id (Ed hl)];exact hb)
    omega
   ·rw[e'] at Q7;exact h.inj id id' b o o' hl Q7 (by rw[<-st.old id (Ed hl)];exact hb) (by rw[<-st.old id' (Ed Q7)];exact Kh)
 ·intro id b o hn hb;simp only at hn;rcases Lt id with⟨bx,hx⟩|e
  ·exact (st.nblk id bx b o hx hb).2
  ·rw[e] at hn;exact Jp (h.blt id b o hn (by rw[<-st.old id hn];exact hb)) st.ext.size
 ·have:=Wt (Q:=fun _ p _=>∀id∈Cn p,Bf s.hp nw id≠none) (val:=val) (d:=d) (v:=v) h.tsz hd (fun i hi id B6=>M6 id (.inl (h.wfT i hi id B6))) (fun _ id B6=>M6 id (st.vwf id B6));exact this
 ·intro id cells hc c hcm id' B6;simp only at hc;rcases Lt id with⟨bx,hx⟩|e
  ·rw[hg1 id bx hx] at hc;cases hc;exact M6 id' (st.nwf id _ hx c hcm id' B6)
  ·rw[e] at hc;exact M6 id' (.inl (h.wfB id cells hc c hcm id' B6))
 ·rintro b ⟨id,o,hl,hb⟩
  simp only at hl;rcases Lt id with⟨bx,hx⟩|e
  ·exact .inr (Nat.le_trans h.fr.step.size (st.nblk id bx b o hx hb).1)
  ·rw[e] at hl;exact h.ownd b ⟨id,o,hl,by rw[<-st.old id (Ed hl)];exact hb⟩
 ·intro id bx b o hb hl hβ Cr;simp only at hb;rcases Lt id with⟨bx',hx⟩|e
  ·have:=(st.nblk id bx' b o hx hβ).1;have:=h.fr.step.size;omega
  ·rw[e] at hb;exact h.rngB id bx b o hb hl (by rw[<-st.old id (by rw[hb];simp)];exact hβ) Cr
 ·intro i hi;obtain⟨h1,h2⟩:=h.pin i hi;exact⟨M6 _ (.inl h1),by rw[st.old _ h1];exact h2⟩
 ·intro id c b o hb hβ Cr;simp only at hb;rcases Lt id with⟨bx',hx⟩|e
  ·have:=(st.nblk id bx' b o hx hβ).1;have:=h.fr.step.size;omega
  ·rw[e] at hb;exact h.stp id c b o hb (by rw[<-st.old id (by rw[hb];simp)];exact hβ) Cr
 ·rintro b hY hX
  have hb:b<w.heap.size:=Jp (h.Ylt b hY) h.fr.step.size;exact h.Yx b hY (Az6 b hb hX)
 ·refine⟨st.os.trans h.fr.os,st.tape.trans h.fr.tape,st.output.trans h.fr.output,h.fr.step.trans st.ext (fun _ _ x=>x.elim),fun b j hb hL=>?_⟩;have GQ:=st.ext.keep b (Jp hb h.fr.step.size) (fun x=>x);have hc:w'.cell? ⟨b,j,none⟩=w.cell? ⟨b,j,none⟩:=World.cell?_of_block (w:=w) GQ;have hf:w'.frozen? ⟨b,j,none⟩=w.frozen? ⟨b,j,none⟩:=World.frozen?_of_block (w:=w) GQ;rw[hc,hf];exact h.fr.rng b j hb hL
end
open Go.RowKit
section
variable {P:Program}{N:Nat}{w0:World}{X0:Gt}{Y:Nat->Prop}{β β':Bt}{s:St}{a:Act}{w w':World}{o:Oper}
theorem Aih(cs:List Value)(A:Nat->Prop):Ca (Cz w A β) (cs.map PV.sc) cs:=by
 induction cs with
 |nil=>trivial
 |cons v r ih=>exact⟨Bd.sc v,ih⟩
theorem Ai1(cs:List Value):(cs.map PV.sc).flatMap Ba=[]:=by
 induction cs with
 |nil=>rfl
 |cons v r ih=>exact ih
theorem Ew(h:Cj N w0 X0 Y β s a w)(x:Operand):Fe w (D4 s.hp β Y) β (Dd s.tm x) (a.eval x):=by
 cases x with
 |tmp t=>
  show Fe _ _ _ (s.tm t) (a.tmps.getD t undef);by_cases ht:t<N
  ·exact h.tms t ht
  ·rw[h.tmo t (Nat.le_of_not_lt ht)];exact Bd.top _
 |const v=>
  cases v with
  |agg cs=>exact⟨cs.toList,by simp[Act.eval],Aih cs.toList _⟩
  |_=>exact Bd.sc _
 |func f=>exact Bd.sc _
 |global g=>exact Bd.sc _
theorem H8(h:Cj N w0 X0 Y β s a w)(x:Operand):∀id∈Cn (Dd s.tm x),s.hp id≠none:=by
 cases x with
 |tmp t=>
  show ∀id∈Cn (s.tm t),_;by_cases ht:t<N
  ·exact h.wfT t ht
  ·rw[h.tmo t (Nat.le_of_not_lt ht)];intro id B6;cases B6
 |const v=>
  cases v with
  |agg cs=>
   intro id B6;have:Cn (.agg (cs.toList.map .sc))=[]:=Ai1 cs.toList;simp only[Dd] at B6;rw[this] at B6;cases B6
  |_=>intro id B6;cases B6
 |func f=>intro id B6;cases B6
 |global g=>intro id B6;cases B6
theorem Ny{A:Nat->Prop}{v u:Value}(h:Fe w A β (.sc v) u):u=v:=Bd.val h
theorem D5(h:Cj N w0 X0 Y β s a w){x:Operand}{v:Value}(e:Dd s.tm x=.sc v):a.eval x=v:=by have:=Ew h x;rw[e] at this;exact Ny this
def G9(P:Program)(a:Act)(w:World)(o:Oper)(Y:Nat->Prop)(β:Bt)(s:St)(v:PV)(fz:Cc)(nw:List (Nat × Cb)):Prop:=
 (∀id∈fz,∃f c,s.hp id=some (.ar f c))/\∃val w',(execOp a.eval o).run P w=.ok (.value val) w'/\(C3 s.hp nw=true->∃β',Aa0 Y β ⟨s.tm,Al s.hp fz⟩ w v nw val w' β')
theorem Aj0{v:PV}{val:Value}(hv:Fe w (D4 s.hp β Y) β v val)(hr:∀id∈Cn v,s.hp id≠none):Aa0 Y β s w v [] val w β:=
 ⟨rfl,rfl,rfl,C6.refl _ _,fun _ _=>rfl,by simp,by simp,by simp,by simp,by simp,hv,fun id B6=>.inl (hr id B6)⟩
theorem Df{v:PV}{val:Value}(Eo:(execOp a.eval o).run P w=.ok (.value val) w)(hv:Fe w (D4 s.hp β Y) β v val)(hr:∀id∈Cn v,s.hp id≠none):G9 P a w o Y β s v [] []:=
 ⟨by simp,val,w,Eo,fun _=>⟨β,Aj0 (s:=⟨s.tm,Al s.hp []⟩) hv hr⟩⟩
theorem El{v:Value}(Eo:(execOp a.eval o).run P w=.ok (.value v) w):G9 P a w o Y β s (.sc v) [] []:=Df Eo (Bd.sc v) (by intro id B6;cases B6)
structure J6(w w':World)(c:Array Value)(e:TypeId):Prop where
 os:w'.os=w.os
 tape:w'.tape=w.tape
 output:w'.output=w.output
 old:∀b,b<w.heap.size->w'.heap[b]?=w.heap[b]?
 size:w'.heap.size=w.heap.size+1
 new:∃fz:Nat × Nat,w'.heap[w.heap.size]?=some (.cells c e fz)/\(fz.1=fz.2\/c.size<=fz.1)
theorem J6.alloc(w:World)(c:Array Value)(e:TypeId):J6 w (w.alloc (.cells c e)) c e:=
 ⟨rfl,rfl,rfl,fun b hb=>Below.heap_alloc w _ b hb,by show (w.heap.push _).size=_;simp,(0,0),by show (w.heap.push _)[w.heap.size]?=_;simp,.inl rfl⟩
theorem J6.drew{c:Array Value}{e:TypeId}(h:J6 w w' c e):J6 w w'.drew c e:=⟨h.os,h.tape,h.output,h.old,h.size,h.new⟩
section
variable {c:Array Value}{e:TypeId}
theorem J6.step(h:J6 w w' c e):C6 (fun _=>False) w w':=
 ⟨by rw[h.size];omega,fun b hb _=>h.old b hb,fun b hb=>by unfold bsz;rw[h.old b hb];exact Da _⟩
theorem J6.cell(h:J6 w w' c e)(j:Nat):w'.cell? ⟨w.heap.size,j,none⟩=c[j]?:=by obtain⟨fz,hn,_⟩:=h.new;simp[World.cell?,hn]
theorem J6.frozen(h:J6 w w' c e){j:Nat}(hj:j<c.size):w'.frozen? ⟨w.heap.size,j,none⟩=false:=by obtain⟨fz,hn,hf⟩:=h.new;simp only[World.frozen?,hn];rcases hf with hf|hf<;>simp<;>omega
theorem J6.bsz(h:J6 w w' c e):bsz w' w.heap.size=c.size:=by obtain⟨fz,hn,_⟩:=h.new;simp[Pv.bsz,hn]
end
theorem Zw{c:Array Value}{e:TypeId}{d:Nat}{bx:Cb}{v:PV}{val:Value}(hg:J6 w w' c e)(hd:s.hp d=none)(hl:Db (some bx))(P4:Ys w' (D4 (D2 s.hp d (some bx)) (D2 β d (some (w.heap.size,0))) Y) (D2 β d (some (w.heap.size,0))) d bx)(hcw:∀cells,bx=.st cells->∀x∈cells,∀id'∈Ba x,s.hp id'≠none)(hv:Fe w' (D4 (D2 s.hp d (some bx)) (D2 β d (some (w.heap.size,0))) Y) (D2 β d (some (w.heap.size,0))) v val)(hvr:∀id∈Cn v,s.hp id≠none\/id=d):Aa0 Y β s w v [(d,bx)] val w' (D2 β d (some (w.heap.size,0))) where
 os:=hg.os
 tape:=hg.tape
 output:=hg.output
 ext:=hg.step
 old:=fun id hn=>Ax _ _ (by rintro rfl;exact hn hd)
 nlive:=by intro id b hm;simp at hm;obtain⟨rfl,rfl⟩:=hm;exact hl
 nbox:=by intro id b hm;simp at hm;obtain⟨rfl,rfl⟩:=hm;exact P4
 nblk:=by
  intro id b x y hm hb;simp at hm;obtain⟨rfl,rfl⟩:=hm;rw[A8] at hb;simp at hb;have:=hg.size;omega
 ninj:=by intro id b id' b' x y z hm Nh _ _;simp at hm Nh;rw[hm.1,Nh.1]
 nwf:=by intro id cells hm x hx id' B6;simp at hm;exact .inl (hcw cells hm.2.symm x hx id' B6)
 val:=hv
 vwf:=by
  intro id B6;rcases hvr id B6 with h|rfl
  ·exact .inl h
  ·exact .inr ⟨bx,by simp⟩
theorem Am9{c:Array Value}{e:TypeId}(hg:J6 w w' c e){A A':Nat->Prop}(hA:∀b,b<w.heap.size->A' b->A b){cells:Ab}(h:∀(j:Nat) p,cells[j]?=some p->∃v,c[j]?=some v/\v.oneCell'=true/\Bd w A p v):YL w' A' ⟨w.heap.size,0,none⟩ cells:=by intro j p hj;obtain⟨v,hv,h1,ht⟩:=h j p hj;exact⟨v,by rw[Fy,Ck,hg.cell];exact hv,h1,ht.step (hg.step.weaken (fun _ _ x=>x.elim)) hA⟩
theorem Al8{d:Nat}{bx:Cb}(hwf:s.hp d=none):∀b,b<w.heap.size->D4 (D2 s.hp d (some bx)) (D2 β d (some (w.heap.size,0))) Y b->D4 s.hp β Y b:=by
 intro b hb hA;rcases hA with⟨id,o,hl,hβ⟩|hY
 ·by_cases e:id=d
  ·subst e;rw[A8] at hβ;simp at hβ;omega
  ·rw[Ax _ _ e] at hl hβ;exact .inl ⟨id,o,hl,hβ⟩
 ·exact .inr hY
theorem Zc{c:Array Value}{e:TypeId}{d:Nat}{cells:Ab}{fz:Cc}{v:PV}{val:Value}(PB:∀id∈fz,∃f c,s.hp id=some (.ar f c))(Eo:(execOp a.eval o).run P w=.ok (.value val) w')(hg:J6 w w' c e)(hc:∀(j:Nat) p,cells[j]?=some p->∃u,c[j]?=some u/\u.oneCell'=true/\Bd w (D4 (Al s.hp fz) β Y) p u)(hv:(v=.ptr d 0/\val=.pointer (some ⟨w.heap.size,0,none⟩))\/∃es n cap,v=.view d es 0 n/\val=.slice (some ⟨w.heap.size,0,none⟩) n cap/\n<=cap/\cap*es<=c.size):
  G9 P a w o Y β s v fz [(d,.ar false cells)]:=by
 refine⟨PB,val,w',Eo,fun X1=>⟨D2 β d (some (w.heap.size,0)),?_⟩⟩;have hd:s.hp d=none:=(Cl X1).1 d (.ar false cells) (by simp);have hd':Al s.hp fz d=none:=Gd.2 hd;refine Zw (s:=⟨s.tm,Al s.hp fz⟩) hg hd' trivial ?_ (fun cells hx=>by cases hx) ?_ ?_
 ·refine .inr ⟨w.heap.size,0,A8 _ _ _,?_,fun _ j _ hj=>?_,(fun x=>by cases x)⟩
  ·exact Am9 hg (Al8 (s:=⟨s.tm,Al s.hp fz⟩) hd') hc
  ·rw[hg.bsz] at hj;exact hg.frozen hj
 ·rcases hv with⟨rfl,rfl⟩|⟨es,n,cap,rfl,rfl,hn,SK⟩
  ·exact⟨w.heap.size,0,A8 _ _ _,rfl⟩
  ·exact .inr ⟨w.heap.size,0,0,cap,A8 _ _ _,rfl,.inl rfl,hn,by rw[hg.bsz];omega,by rw[hg.size];omega⟩
 ·intro id B6;rcases hv with⟨rfl,_⟩|⟨es,n,cap,rfl,_⟩<;>(simp[Cn,C2,Ba] at B6;exact .inr B6)
theorem ZV{c:Array Value}{e:TypeId}{d:Nat}{cells:Ab}(Eo:(execOp a.eval o).run P w=.ok (.value (.pointer (some ⟨w.heap.size,0,none⟩))) w')(hg:J6 w w' c e)(hc:∀(j:Nat) p,cells[j]?=some p->∃u,c[j]?=some u/\Cz w (D4 s.hp β Y) β p u)(hr:∀x∈cells,∀id∈Ba x,s.hp id≠none):
  G9 P a w o Y β s (.ptr d 0) [] [(d,.st cells)]:=by
 refine⟨by simp,_,w',Eo,fun X1=>⟨D2 β d (some (w.heap.size,0)),?_⟩⟩;have hd:s.hp d=none:=(Cl X1).1 d (.st cells) (by simp);refine Zw (s:=⟨s.tm,Al s.hp []⟩) hg hd trivial ?_ (fun cs hx x hxm id B6=>?_) ?_ ?_
 ·refine⟨w.heap.size,0,A8 _ _ _,fun j p hj=>?_,fun j hj=>?_⟩
  ·obtain⟨u,hu,hp⟩:=hc j p hj;refine⟨u,by rw[Ck,hg.cell];exact hu,hp.step (hg.step.weaken (fun _ _ x=>x.elim)) (Al8 (s:=⟨s.tm,Al s.hp []⟩) hd) fun id B6=>Ax _ _ ?_⟩
   rintro rfl
   exact hr p (List.mem_of_getElem? hj) id B6 hd
  ·rw[Ck];obtain⟨u,hu,_⟩:=hc j _ (List.getElem?_eq_getElem hj)
   exact hg.frozen (by
    rcases Mh j c.size with h|h
    ·exact h
    ·rw[Array.getElem?_eq_none h] at hu;cases hu)
 ·injection hx with hx;subst hx;exact hr x hxm id B6
 ·exact⟨w.heap.size,0,A8 _ _ _,rfl⟩
 ·intro id B6;simp[Cn,C2,Ba] at B6;exact .inr B6
end
open Go.RowKit
section
variable {R:Type}{r:R}{P:Program}{N:Nat}{w0:World}{X0:Gt}{Y:Nat->Prop}{β β':Bt}{s:St}{a:Act}{w w':World}{o:Oper}
theorem Q2{t:TypeId}{n:Nat}(h:(P.info? t).map (·.size)=some n)(w:World):(sizeOf t).run P w=.ok n w:=by
 cases hi:P.info? t with
 |none=>rw[hi] at h;cases h
 |some i=>rw[hi] at h;simp at h;simp[sizeOf,typeInfo,hi,h]
theorem Ar0{t:TypeId}{n:Nat}(h:Bw P t=n)(hn:0<n):(P.info? t).map (·.size)=some n:=by
 unfold Bw at h;cases hi:(P.info? t).map (·.size) with
 |none=>rw[hi] at h;simp at h;omega
 |some i=>rw[hi] at h;simp at h;rw[h]
theorem Ug{t:TypeId}{d:TypeDesc}(h:P.underlying t=some d)(w:World):(isAgg t).run P w=.ok (C9 P t) w:=by unfold isAgg C9;rw[h];simp only[Sem.run_bind,run_underlying h,Result.andThen_ok];cases d<;>rfl
theorem Ax9{t:TypeId}{v:Value}{K:PV->Option R}(h:cvK P t v K=some r):∃p,K p=some r/\Cn p=[]/\∀(w:World)(A:Nat->Prop)(β:Bt),Fe w A β p v:=by
 have sc:∀v:Value,K (.sc v)=some r->∃p,K p=some r/\Cn p=[]/\∀(w:World) (A:Nat->Prop) (β:Bt),Fe w A β p v:=fun v h=>⟨_,h,rfl,fun w A β=>Bd.sc v⟩;unfold cvK at h;split at h
 ·rename_i cs;obtain⟨hl,h⟩:=A5 h;obtain⟨xs,h,hxl,hx⟩:=CU h;have hl:=Ez hl;refine⟨_,h,?_,fun w A β=>⟨cs.toList,by simp,?_⟩⟩
  ·show xs.flatMap Ba=[];rw[List.flatMap_eq_nil_iff];intro c hc;obtain⟨j,hj⟩:=List.mem_iff_getElem?.1 hc;exact Ml (hx j c hj).1
  ·refine Ca.of_at (by rw[hxl,hl]) fun i c u hc hu=>?_;obtain⟨hT,p,hp,_,II⟩:=hx i c hc;refine (Se hT).2 (II w A β u ?_).1;rw[Ck,List.getElem?_map,hu] at hp;simp at hp;subst hp;exact Bd.sc u
 ·split at h
  ·exact⟨_,h,rfl,fun w A β=>Bd.lnil true _⟩
  ·cases h
 ·exact sc _ h
theorem KK(h:Cj N w0 X0 Y β s a w){x:Operand}(Eo:(execOp a.eval o).run P w=.ok (.value (a.eval x)) w){K:PV->Option R}(hk:OM P o.type s.tm x K=some r):
  ∃v,K v=some r/\G9 P a w o Y β s v [] []:=by
 have dflt:K (Dd s.tm x)=some r->∃v,K v=some r/\G9 P a w o Y β s v [] []:=fun hk=>⟨_,hk,Df Eo (Ew h x) (H8 h x)⟩;cases x with
 |const v=>
  obtain⟨p,hk,hr,hv⟩:=Ax9 hk;exact⟨p,hk,Df Eo (hv _ _ _) (by rw[hr];simp)⟩
 |tmp t=>exact dflt hk
 |func f=>exact dflt hk
 |global g=>exact dflt hk
theorem Aqb{x:Operand}(ho:o.op=.move x):(execOp a.eval o).run P w=.ok (.value (a.eval x)) w:=by unfold execOp;rw[ho];rfl
theorem Afo{x:Operand}(ho:o.op=.assign x):(execOp a.eval o).run P w=.ok (.value (a.eval x)) w:=by unfold execOp;rw[ho];rfl
theorem Ajq(h:Cj N w0 X0 Y β s a w){c x y:Operand}(ho:o.op=.pick c x y){K:PV->Option R}(hk:(Cg (Dd s.tm c) fun t=>Az t (K (Dd s.tm x)) (K (Dd s.tm y)))=some r):
  ∃v,K v=some r/\G9 P a w o Y β s v [] []:=by
 obtain⟨b,hb,hk⟩:=Ft hk;have hc:=D5 h hb;rcases Tz hk with⟨rfl,hk⟩|⟨rfl,hk⟩
 ·exact⟨_,hk,Df (by unfold execOp;rw[ho];simp[asBool,hc]) (Ew h x) (H8 h x)⟩
 ·exact⟨_,hk,Df (by unfold execOp;rw[ho];simp[asBool,hc]) (Ew h y) (H8 h y)⟩
theorem W9{t:TypeId}{K:Ab->Option R}(h:Lh P t K=some r):∃(v:Value)(cs:Ab),K cs=some r/\HP P t=some v/\cs.length=(M5 P t).length/\cs.length=v.cells.toList.length/\cs.length=Bw P t /\
  ∀(j:Nat) c,cs[j]?=some c->GT c/\∃u,v.cells.toList[j]?=some u/\u.oneCell'=true/\∀(w:World) (A:Nat->Prop),Bd w A c u:=by
 unfold Lh at h;obtain⟨v,hz,h⟩:=Eh h;obtain⟨hl,h⟩:=A5 h;obtain⟨cs,h,CN,hc⟩:=CU h;simp only[G6] at hl;have NK:=Ez hl.1
 have SQ:(M5 P t).length=Bw P t:=by
  have:=hl.2;simp only[Oj,G6] at this;exact Ez this.2
 refine⟨v,cs,h,hz,CN,by rw[CN,NK],by rw[CN,SQ],fun j c hj=>?_⟩;obtain⟨hT,p,hp,_,II⟩:=hc j c hj;rw[Ck,List.getElem?_map] at hp;cases hu:v.cells.toList[j]? with
 |none=>rw[hu] at hp;cases hp
 |some u=>
  rw[hu] at hp;simp at hp;subst hp;exact⟨hT,u,rfl,(II default (fun _=>False) (fun _=>none) u (Bd.sc u)).2,fun w A=>(II w A (fun _=>none) u (Bd.sc u)).1⟩
theorem GV{t:TypeId}{v:Value}(h:HP P t=some v)(w:World):(zeroValue t).run P w=.ok v w:=by
 unfold HP at h;cases hi:P.info? t with
 |none=>rw[hi] at h;cases h
 |some i=>rw[hi] at h;simp at h;simp[zeroValue,typeInfo,hi,h]
theorem Afz{t:TypeId}(ho:o.op=.alloc t){d:Nat}{K:PV->Cc->List (Nat × Cb)->Option R}(hk:(Lh P t fun cs=>K (.ptr d 0) [] [(d,As4 P t cs)])=some r):∃v fz nw,K v fz nw=some r/\G9 P a w o Y β s v fz nw:=by
 obtain⟨z,cs,hk,hz,_,hl,_,hc⟩:=W9 hk
 have Eo:(execOp a.eval o).run P w=.ok (.value (.pointer (some ⟨w.heap.size,0,none⟩))) (w.alloc (.cells z.cells t)):=by
  unfold execOp;rw[ho];simp[Instr.alloc,GV hz,newVar,newRow]
 have hg:=J6.alloc w z.cells t;refine⟨_,_,_,hk,?_⟩;unfold As4;cases EA P t
 ·refine ZV Eo hg (fun j p hj=>?_) fun x hx id B6=>?_
  ·obtain⟨hT,u,hu,_,hv⟩:=hc j p hj;exact⟨u,by simpa using hu,(Se hT).2 (hv _ _)⟩
  ·obtain⟨j,hj⟩:=List.mem_iff_getElem?.1 hx;rw[Ml (hc j x hj).1] at B6;cases B6
 ·refine Zc (by simp) Eo hg (fun j p hj=>?_) (.inl ⟨rfl,rfl⟩);obtain⟨hT,u,hu,h1,hv⟩:=hc j p hj;exact⟨u,by simpa using hu,h1,hv _ _⟩
end
open Go.RowKit
section
variable {R:Type}{r:R}{P:Program}{N:Nat}{w0:World}{X0:Gt}{Y:Nat->Prop}{β β':Bt}{s:St}{a:Act}{w w':World}{o:Oper}{A:Nat->Prop}
theorem Yi{t:TypeId}(h:Oj P t=true):(∃d,P.underlying t=some d)/\(M5 P t).length=Bw P t/\(P.info? t).map (·.size)=some (Bw P t):=by
 simp only[Oj,G6] at h;refine⟨Option.isSome_iff_exists.1 h.1,Ez h.2,?_⟩;unfold Bw;cases hi:P.info? t with
 |none=>unfold Program.underlying at h;rw[hi] at h;cases h.1
 |some i=>simp
theorem Uh{v:Value}(h:v.oneCell'=true):v.cells = #[v]:=by cases v<;>first|rfl|cases h
theorem Amh{p:PV}{v:Value}{ts:List CT}{K:Ab->Option R}(hv:Fe w A β p v)(hl:(cellsOf p).length=ts.length)(h:Xp ts (cellsOf p) 0 K=some r):
  ∃cs,K cs=some r/\cs.length=ts.length/\Ca (Cz w A β) cs v.cells.toList/\(∀u∈v.cells.toList,u.oneCell'=true)/\(∀c∈cs,∀id∈Ba c,id∈Cn p)/\∀c∈cs,(∀x,c ≠ .agg x)/\(∀x,c ≠ .tup x):=by
 obtain⟨cs,h,CN,PD,hc⟩:=CV h;refine⟨cs,h,CN,?_⟩
 have single:(∀x,p ≠ .agg x)->cellsOf p=[p]:=by
  intro hp;cases p<;>first|rfl|exact absurd rfl (hp _)
 by_cases Jy:∃x,p=.agg x
 ·obtain⟨x,rfl⟩:=Jy;obtain⟨vs,rfl,h2⟩:=hv;have H2:cs.length=vs.length:=by rw[CN,<-hl];exact h2.len
  have key:∀(i:Nat) c u,cs[i]?=some c->vs[i]?=some u->Cz w A β c u/\u.oneCell'=true:=by
   intro i c u AE hu;obtain⟨q,hq,_,_,hqv⟩:=hc i c AE;rw[Ck] at hq;exact hqv w A β u (h2.at_ hq hu)
  refine⟨Ca.of_at H2 fun i c u AE hu=>(key i c u AE hu).1,?_,?_,PD⟩
  ·intro u hu;obtain⟨i,hi⟩:=List.mem_iff_getElem?.1 (show u∈vs from hu)
   have Cr:i<vs.length:=by
    rcases Mh i vs.length with h|h
    ·exact h
    ·rw[List.getElem?_eq_none h] at hi;cases hi
   exact (key i _ u (List.getElem?_eq_getElem (by omega)) hi).2
  ·intro c hcm id B6;obtain⟨i,hi⟩:=List.mem_iff_getElem?.1 hcm;obtain⟨q,hq,_,hr,_⟩:=hc i c hi;rw[Ck] at hq;show id∈x.flatMap Ba;exact List.mem_flatMap.2 ⟨q,List.mem_of_getElem? hq,hr id B6⟩
 ·have hp:∀x,p ≠ .agg x:=fun x e=>Jy ⟨x,e⟩;rw[single hp] at hl hc;have NK:cs.length=1:=by rw[CN,<-hl];rfl
  match cs,NK with
  |[c],_=>
   obtain⟨q,hq,hf,hr,hqv⟩:=hc 0 c rfl;simp at hq;subst hq;have Y2:∀x,p ≠ .tup x:=by rintro x rfl;exact hf
   have Wv:Cz w A β p v:=(BI hp).1 ((Tq Y2).1 hv);obtain⟨h5,h6⟩:=hqv w A β v Wv;rw[Uh h6];refine⟨⟨h5,trivial⟩,?_,?_,PD⟩
   ·intro u hu;simp at hu;subst hu;exact h6
   ·intro c' AE id B6;simp at AE;subst AE;have:=hr id B6;cases p<;>first|exact this|exact absurd rfl (hp _)|exact absurd rfl (Y2 _)
end
open Go.RowKit
section
variable {R:Type}{r:R}{P:Program}{N:Nat}{w0:World}{X0:Gt}{Y:Nat->Prop}{β β':Bt}{s:St}{a:Act}{w w':World}{o:Oper}{A:Nat->Prop}
theorem Ca.get{α β':Type}{R':α->β'->Prop}{zs:List α}{bs:List β'}(h:Ca R' zs bs){i:Nat}{x:α}(hx:zs[i]?=some x):∃y,bs[i]?=some y/\R' x y:=by
 have Cr:i<zs.length:=by
  rcases Mh i zs.length with h|h
  ·exact h
  ·rw[List.getElem?_eq_none h] at hx;cases hx
 have hb:bs[i]?=some (bs[i]'(by rw[<-h.len];exact Cr)):=List.getElem?_eq_getElem _
 exact⟨_,hb,h.at_ hx hb⟩
theorem Axc{p:PV}{v:Value}{ts:List CT}{K:Ab->Option R}(hv:Fe w A β p v)(hl:(cellsOf p).length=ts.length)(h:DP ts (cellsOf p) 0 K=some r):
  ∃cs,K cs=some r/\cs.length=ts.length/\Ca (Bd w A) cs v.cells.toList/\∀u∈v.cells.toList,u.oneCell'=true:=by
 obtain⟨cs,h,CN,hc⟩:=CU h;refine⟨cs,h,CN,?_⟩;by_cases Jy:∃x,p=.agg x
 ·obtain⟨x,rfl⟩:=Jy;obtain⟨vs,rfl,h2⟩:=hv;have H2:cs.length=vs.length:=by rw[CN,<-hl];exact h2.len
  have key:∀(i:Nat) c u,cs[i]?=some c->vs[i]?=some u->Bd w A c u/\u.oneCell'=true:=by
   intro i c u AE hu;obtain⟨_,q,hq,_,hqv⟩:=hc i c AE;rw[Ck] at hq;exact hqv w A β u (h2.at_ hq hu)
  refine⟨Ca.of_at H2 fun i c u AE hu=>(key i c u AE hu).1,?_⟩;intro u hu;obtain⟨i,hi⟩:=List.mem_iff_getElem?.1 (show u∈vs from hu)
  have Cr:i<vs.length:=by
   rcases Mh i vs.length with h|h
   ·exact h
   ·rw[List.getElem?_eq_none h] at hi;cases hi
  exact (key i _ u (List.getElem?_eq_getElem (by omega)) hi).2
 ·have hp:∀x,p ≠ .agg x:=fun x e=>Jy ⟨x,e⟩;have single:cellsOf p=[p]:=by cases p<;>first|rfl|exact absurd rfl (hp _)
  rw[single] at hl hc;have NK:cs.length=1:=by rw[CN,<-hl];rfl
  match cs,NK with
  |[c],_=>
   obtain⟨_,q,hq,hf,hqv⟩:=hc 0 c rfl;simp at hq;subst hq;have Y2:∀x,p ≠ .tup x:=by rintro x rfl;exact hf
   have Wv:Cz w A β p v:=(BI hp).1 ((Tq Y2).1 hv);obtain⟨h5,h6⟩:=hqv w A β v Wv;rw[Uh h6];exact⟨⟨h5,trivial⟩,fun u hu=>by simp at hu;subst hu;exact h6⟩
theorem Apm(h:Cj N w0 X0 Y β s a w){t:TypeId}{x:Operand}(ho:o.op=.box t x){d:Nat}{K:PV->Cc->List (Nat × Cb)->Option R}(hk:(As (Oj P t&&Nat.beq (cellsOf (Dd s.tm x)).length (M5 P t).length)
      (bif EA P t then DP (M5 P t) (cellsOf (Dd s.tm x)) 0 fun cs=>K (.ptr d 0) [] [(d,.ar false cs)]
       else Xp (M5 P t) (cellsOf (Dd s.tm x)) 0 fun cs=>K (.ptr d 0) [] [(d,.st cs)]))=some r):∃v fz nw,K v fz nw=some r/\G9 P a w o Y β s v fz nw:=by
  obtain⟨hl,hk⟩:=A5 hk
  simp only[G6] at hl
  have hl:=Ez hl.2
  have Eo:(execOp a.eval o).run P w=.ok (.value (.pointer (some ⟨w.heap.size,0,none⟩))) (w.alloc (.cells (a.eval x).cells t)):=by
    unfold execOp
    rw[ho]
    simp[Instr.box,newVar,newRow]
  have hg:=J6.alloc w (a.eval x).cells t
  cases ha:EA P t
  · rw[ha] at hk
    obtain⟨cs,hk,_,h2,_,hr,_⟩:=Amh (Ew h x) hl hk
    refine⟨_,_,_,hk,ZV Eo hg (fun j p hj=>?_) fun c hc id B6=>H8 h x id (hr c hc id B6)⟩
    obtain⟨u,hu,hp⟩:=h2.get hj
    exact⟨u,by simpa using hu,hp⟩
  · rw[ha] at hk
    obtain⟨cs,hk,_,h2,h1⟩:=Axc (Ew h x) hl hk
    refine⟨_,_,_,hk,Zc (by simp) Eo hg (fun j p hj=>?_) (.inl ⟨rfl,rfl⟩)⟩
    obtain⟨u,hu,hp⟩:=h2.get hj
    exact⟨u,by simpa using hu,h1 u (List.mem_of_getElem? hu),hp⟩
theorem Akp{c:PV}(h1:∀x,c ≠ .agg x)(h2:∀x,c ≠ .tup x):Cn c=Ba c:=by cases c<;>first|rfl|exact absurd rfl (h1 _)|exact absurd rfl (h2 _)
theorem LL{t:TypeId}{ad:Addr}{cs:Ab}{p:PV}(hok:Oj P t=true)(H2:cs.length=(M5 P t).length)(PD:∀c∈cs,(∀x,c ≠ .agg x)/\(∀x,c ≠ .tup x))(hc:∀(j:Nat) c,cs[j]?=some c->∃v,w.cell? (ad.add j)=some v/\Cz w A β c v)(hp:(C9 P t=true/\p=.agg cs)\/(C9 P t=false/\cs=[p])):∃val,(loadVar t ad).run P w=.ok val w/\Fe w A β p val:=by
 obtain⟨⟨d,hd⟩,hl,hi⟩:=Yi hok;rcases hp with⟨Jy,rfl⟩|⟨Jy,rfl⟩
 ·have hf:∀j,j<Bw P t->w.cell? (ad.add j)=some ((w.cell? (ad.add j)).getD undef):=by
   intro j hj;obtain⟨v,hv,_⟩:=hc j _ (List.getElem?_eq_getElem (by omega));rw[hv];rfl
  refine⟨_,?_,(List.range (Bw P t)).map (fun j=>(w.cell? (ad.add j)).getD undef),rfl,?_⟩
  ·simp only[loadVar,Sem.run_bind,Ug hd,Jy,Result.andThen_ok,if_true,Q2 hi,run_loadCells w ad (Bw P t) _ hf];simp
  ·refine Ca.of_at (by simp;omega) fun i c u AE hu=>?_
   obtain⟨v,hv,QM⟩:=hc i c AE
   have Cr:i<Bw P t:=by
    rcases Mh i cs.length with h|h
    ·omega
    ·rw[List.getElem?_eq_none h] at AE;cases AE
   rw[List.getElem?_map,List.getElem?_range Cr] at hu;simp[hv] at hu;subst hu;exact QM
 ·obtain⟨v,hv,QM⟩:=hc 0 p rfl;have hn:=PD p (by simp);have h0:ad.add 0=ad:=by simp[Addr.add]
  rw[h0] at hv;refine⟨v,?_,(Tq hn.2).2 ((BI hn.1).2 QM)⟩;simp only[loadVar,Sem.run_bind,Ug hd,Jy,Result.andThen_ok];simp[hv]
theorem Ar7{hp:Nat->Option Cb}{id:Nat}{c:Ab}(h:rd hp id=some c):hp id=some (.st c)\/∃f,hp id=some (.ar f c):=by
 unfold rd at h;split at h
 ·rename_i e;simp at h;subst h;exact .inl e
 ·rename_i f _ e;simp at h;subst h;exact .inr ⟨_,e⟩
 ·cases h
theorem Acr{hp:Nat->Option Cb}{id:Nat}{c:Ab}(h:P7 hp id=some c):∃f,hp id=some (.ar f c):=by
 unfold P7 at h;split at h
 ·rename_i e;simp at h;subst h;exact⟨_,e⟩
 ·cases h
theorem VA(h:Cj N w0 X0 Y β s a w){id:Nat}{c:Ab}(hr:rd s.hp id=some c){b ob:Nat}(hβ:β id=some (b,ob)){j:Nat}{p:PV}(hj:c[j]?=some p):
  ∃v,w.cell? ⟨b,ob+j,none⟩=some v/\Cz w (D4 s.hp β Y) β p v:=by
 rcases Ar7 hr with hb|⟨f,hb⟩
 ·obtain⟨b',o',h1,h2,_⟩:=h.box id _ hb;rw[hβ] at h1;simp at h1;obtain⟨rfl,rfl⟩:=h1;exact h2 j p hj
 ·rcases h.box id _ hb with⟨h1,_⟩|⟨b',o',h1,h2,_⟩
  ·rw[hβ] at h1;cases h1
  ·rw[hβ] at h1;simp at h1;obtain⟨rfl,rfl⟩:=h1
   obtain⟨v,hv,_,ht⟩:=h2 j p hj;rw[Fy] at hv;refine⟨v,hv,?_⟩;cases ht with
   |sc=>exact Bd.sc _
   |top=>exact Bd.top _
   |ub=>exact Bd.ub _
   |lnil=>exact Bd.lnil _ _
   |lemp=>exact Bd.lemp _ _ _
   |lst es n cells a cap f hs hb hA hn hc h1 hr=>exact Bd.lst es n cells a cap f hs hb hA hn hc h1 hr
theorem Qu:∀{ts:List CT}{cells:Ab}{off:Nat}{K:Ab->Option R},DP ts cells off K=some r->Xp ts cells off K=some r
 |[],_,_,_,h=>h
 |.int k::ts,cells,off,K,h=>by
  obtain⟨n,hp,h⟩:=Hb (show Be k (cells.getD off .top) _=some r from h);show Be k _ _=_;rw[hp];simp only[Be,if_true];exact Qu h
 |.bool::ts,cells,off,K,h=>by
  obtain⟨n,hp,h⟩:=Ft (show Cg (cells.getD off .top) _=some r from h);show Cg _ _=_;rw[hp];exact Qu h
 |.str::ts,cells,off,K,h=>by
  obtain⟨n,hp,h⟩:=Fq (show Ec (cells.getD off .top) _=some r from h);show Ec _ _=_;rw[hp];exact Qu h
 |.sl es::ts,cells,off,K,h=>by
  obtain⟨z,n,c,h,hp⟩:=I4 (show Ow es (cells.getD off .top) _=some r from h);change fcK (.sl es) (cells.getD off .top) (fun c=>Xp ts cells (off+1) fun r=>K (c::r))=some r;unfold fcK;dsimp only;unfold fsK;rcases hp with hp|⟨hp,rfl,rfl,rfl⟩
  ·rw[hp];simp only[Ow,P6,cond_true];exact Qu h
  ·rw[hp];exact Qu h
 |.any::ts,cells,off,K,h=>by
  obtain⟨f,a,b,hp,h⟩:=Ad6 (show fnK (cells.getD off .top) (fun v=>DP ts cells (off+1) fun r=>K (.sc v::r))=some r from h);show fnK (cells.getD off .top) (fun v=>Xp ts cells (off+1) fun r=>K (.sc v::r))=some r;rw[hp];exact Qu h
theorem Bd.unz{w:World}{A:Nat->Prop}{z:Bool}{es n:Nat}{c:Ab}{u:Value}(h:Bd w A (.lst z es n c) u):Bd w A (.lst false es n c) u:=by
 cases h with
 |lnil z es=>exact .lnil false es
 |lemp es a cap=>exact .lemp es a cap
 |lst es n c a cap f h1 h2 h3 h4 h5 h6 h7=>exact .lst es n c a cap f h1 h2 h3 h4 h5 h6 h7
theorem Anx{w:World}{A:Nat->Prop}{β:Bt}{p:PV}{u:Value}(h:Cz w A β p u):Cz w A β (Ad4 p) u:=by
 cases p with
 |lst z es n c=>exact Bd.unz h
 |_=>exact h
theorem Ak9(p:PV):Ba (Ad4 p)=Ba p:=by cases p<;>rfl
theorem Abc{w:World}{A:Nat->Prop}{β:Bt}:∀{cs:Ab}{vs:List Value},Ca (Cz w A β) cs vs->Ca (Cz w A β) (cs.map Ad4) vs
 |[],[],_=>trivial
 |_::_,_::_,h=>⟨Anx h.1,Abc h.2⟩
 |[],_::_,h=>h.elim
 |_::_,[],h=>h.elim
theorem Aog{w:World}{A:Nat->Prop}{β:Bt}{p:PV}{u:Value}(h:Fe w A β p u):Fe w A β (Aqg p) u:=by
 cases p with
 |agg cs=>
  obtain⟨vs,h1,h2⟩:=(show Jv w A β (.agg cs) u from h)
  exact⟨vs,h1,Abc h2⟩
 |lst z es n c=>exact Bd.unz (show Bd w A (.lst z es n c) u from h)
 |_=>exact h
theorem Aow(p:PV):Cn (Aqg p)=Cn p:=by
 cases p with
 |agg cs=>
  show (cs.map Ad4).flatMap Ba=cs.flatMap Ba
  induction cs with
  |nil=>rfl
  |cons a l ih=>rw[Sn,J1,J1,ih,Ak9]
 |_=>rfl
theorem Azh{hp:Nat->Option Cb}{t:TypeId}{x:PV}{K:PV->Option R}(h:LH P (rd hp) (P7 hp) t x K=some r):
  VM P (rd hp) t x K=some r\/VM P (rd hp) t x (fun v=>K (Aqg v))=some r:=by
 unfold LH at h;unfold VM;split at h
 ·rename_i id off;obtain⟨hb,h⟩:=A5 h;rw[hb];show F3 _ _=_\/F3 _ _=_;split at h
  ·rename_i c hc;obtain⟨f,P4⟩:=Acr hc;have:rd hp id=some c:=by unfold rd;rw[P4]
   rw[this];exact .inr (Qu h)
  ·exact .inl h
 ·exact .inr h
 ·cases h
theorem Aa9(h:Cj N w0 X0 Y β s a w){t:TypeId}{x:PV}{u:Value}(hx:Fe w (D4 s.hp β Y) β x u){K:PV->Option R}(hk:VM P (rd s.hp) t x K=some r):
  ∃v ad val,K v=some r/\u=.pointer (some ad)/\(loadVar t ad).run P w=.ok val w/\Fe w (D4 s.hp β Y) β v val/\∀i∈Cn v,s.hp i≠none:=by
 unfold VM at hk;split at hk
 ·rename_i id off;obtain⟨hok,hk⟩:=A5 hk;obtain⟨c,hr,hk⟩:=Eh hk;obtain⟨cs,hk,hl,PD,hc⟩:=CV hk;obtain⟨b,ob,hβ,E9⟩:=hx
  have hcell:∀(j:Nat) q,cs[j]?=some q->∃v,w.cell? ((⟨b,ob+off,none⟩:Addr).add j)=some v/\Cz w (D4 s.hp β Y) β q v:=by
   intro j q hq;obtain⟨p,hp,_,_,II⟩:=hc j q hq;obtain⟨v,hv,QM⟩:=VA h hr hβ hp;exact⟨v,by rw[Fy,Sq];exact hv,(II _ _ _ _ QM).1⟩
  have HN:∀q∈cs,∀i∈Ba q,s.hp i≠none:=by
   intro q hq i hi;obtain⟨j,hj⟩:=List.mem_iff_getElem?.1 hq;obtain⟨p,hp,_,hpr,_⟩:=hc j q hj;rcases Ar7 hr with hb|⟨f,hb⟩
   ·exact h.wfB id c hb p (List.mem_of_getElem? hp) i (hpr i hi)
   ·obtain⟨v,hv,QM⟩:=VA h hr hβ hp;exfalso;have Dg:=hpr i hi;rcases h.box id _ hb with⟨_,rfl⟩|⟨b',o',h1,h2,_⟩
    ·simp at hp
    ·obtain⟨v',_,_,ht⟩:=h2 _ p hp;cases ht<;>cases Dg
  rcases Ac4 hk with⟨Jy,Hv⟩|⟨Jy,q,rfl,Hv⟩
  ·obtain⟨val,KF,hv⟩:=LL hok hl PD hcell (.inl ⟨Jy,rfl⟩);refine⟨_,_,val,Hv,E9,KF,hv,fun i hi=>?_⟩;obtain⟨q,hq,hi⟩:=List.mem_flatMap.1 (show i∈cs.flatMap Ba from hi);exact HN q hq i hi
  ·obtain⟨val,KF,hv⟩:=LL hok hl PD hcell (.inr ⟨Jy,rfl⟩);refine⟨_,_,val,Hv,E9,KF,hv,fun i hi=>HN q (by simp) i ?_⟩;have hn:=PD q (by simp);rw[Akp hn.1 hn.2] at hi;exact hi
 ·rename_i c off;obtain⟨hok,hk⟩:=A5 hk;obtain⟨cs,hk,hl,hc⟩:=CU hk;obtain⟨ad,E9,hs,hb,hA,hrd⟩:=hx
  have PD:∀q∈cs,(∀x,q ≠ .agg x)/\(∀x,q ≠ .tup x):=by
   intro q hq;obtain⟨j,hj⟩:=List.mem_iff_getElem?.1 hq;exact⟨LR (hc j q hj).1,Am3 (hc j q hj).1⟩
  have hcell:∀(j:Nat) q,cs[j]?=some q->∃v,w.cell? ((ad.add off).add j)=some v/\Cz w (D4 s.hp β Y) β q v:=by
   intro j q hq;obtain⟨hT,p,hp,WN,II⟩:=hc j q hq;obtain⟨v,hv,_,ht⟩:=hrd (off+j) p hp;exact⟨v,by rw[add_add];exact hv,(Se hT).2 (II w (D4 s.hp β Y) β v ((Se WN).2 ht)).1⟩
  have HN:∀q∈cs,Ba q=[]:=by
   intro q hq;obtain⟨j,hj⟩:=List.mem_iff_getElem?.1 hq;exact Ml (hc j q hj).1
  rcases Ac4 hk with⟨Jy,Hv⟩|⟨Jy,q,rfl,Hv⟩
  ·obtain⟨val,KF,hv⟩:=LL hok hl PD hcell (.inl ⟨Jy,rfl⟩);refine⟨_,_,val,Hv,E9,KF,hv,fun i hi=>?_⟩;obtain⟨q,hq,hi⟩:=List.mem_flatMap.1 (show i∈cs.flatMap Ba from hi);rw[HN q hq] at hi;cases hi
  ·obtain⟨val,KF,hv⟩:=LL hok hl PD hcell (.inr ⟨Jy,rfl⟩);refine⟨_,_,val,Hv,E9,KF,hv,fun i hi=>?_⟩;have hn:=PD q (by simp);rw[Akp hn.1 hn.2,HN q (by simp)] at hi;cases hi
 ·cases hk
theorem Agu(h:Cj N w0 X0 Y β s a w){t:TypeId}{x:PV}{u:Value}(hx:Fe w (D4 s.hp β Y) β x u){K:PV->Option R}(hk:LH P (rd s.hp) (P7 s.hp) t x K=some r):
  ∃v ad val,K v=some r/\u=.pointer (some ad)/\(loadVar t ad).run P w=.ok val w/\Fe w (D4 s.hp β Y) β v val/\∀i∈Cn v,s.hp i≠none:=by
 rcases Azh hk with hk|hk
 ·exact Aa9 h hx hk
 ·obtain⟨v,ad,val,h1,h2,h3,h4,h5⟩:=Aa9 h hx hk;exact⟨Aqg v,ad,val,h1,h2,h3,Aog h4,by rw[Aow];exact h5⟩
theorem Aja(h:Cj N w0 X0 Y β s a w){t:TypeId}{x:Operand}(ho:o.op=.load t x){K:PV->Option R}(hk:LH P (rd s.hp) (P7 s.hp) t (Dd s.tm x) K=some r):
  ∃v,K v=some r/\G9 P a w o Y β s v [] []:=by
 obtain⟨v,ad,val,Fc,E9,hl,hv,hr⟩:=Agu h (Ew h x) hk;refine⟨v,Fc,Df ?_ hv hr⟩;unfold execOp;rw[ho];simp[Instr.loadAt,Instr.sureAddr,E9,hl]
theorem Aov{x:PV}{d:Nat}{K:PV->Option R}(h:EJ x d K=some r):(∃id off,x=.ptr id off/\K (.ptr id (off+d))=some r)\/∃c off,x=.iptr c off/\K (.iptr c (off+d))=some r:=by
 unfold EJ at h;split at h
 ·exact .inl ⟨_,_,rfl,h⟩
 ·exact .inr ⟨_,_,rfl,h⟩
 ·cases h
theorem HS(h:Cj N w0 X0 Y β s a w){x:Operand}{d:Nat}{K:PV->Option R}(hk:EJ (Dd s.tm x) d K=some r)(Eo:∀ad:Addr,a.eval x=.pointer (some ad)->(execOp a.eval o).run P w=.ok (.value (.pointer (some (ad.add d)))) w):∃v,K v=some r/\G9 P a w o Y β s v [] []:=by
 have hx:=Ew h x;have YE:=H8 h x;rcases Aov hk with⟨id,off,e,hk⟩|⟨c,off,e,hk⟩
 ·rw[e] at hx YE;obtain⟨b,ob,hβ,E9⟩:=hx;refine⟨_,hk,Df (Eo _ E9) ⟨b,ob,hβ,by rw[Fy,Sq]⟩ YE⟩
 ·rw[e] at hx;obtain⟨ad,E9,h1,h2,h3,h4⟩:=hx;exact⟨_,hk,Df (Eo _ E9) ⟨ad,by rw[add_add],h1,h2,h3,h4⟩ (by intro i hi;cases hi)⟩
theorem XE(h:Cj N w0 X0 Y β s a w){x:Operand}(ho:o.op=.nilCheck x){K:PV->Option R}(hk:EJ (Dd s.tm x) 0 K=some r):∃v,K v=some r/\G9 P a w o Y β s v [] []:=by refine HS h hk fun ad E9=>?_;unfold execOp;rw[ho];simp[E9,Addr.add]
theorem MX{t:TypeId}{f:Nat}{q:Nat × TypeId}(h:Ye P t f=some q):∃fs g,P.underlying t=some (.struct fs)/\fs[f]?=some g/\q=(g.offset,g.type):=by
 unfold Ye at h;split at h
 ·rename_i fs e;cases hg:fs[f]? with
  |none=>rw[hg] at h;cases h
  |some g=>rw[hg] at h;simp at h;exact⟨fs,g,e,hg,h.symm⟩
 ·cases h
theorem SE(h:Cj N w0 X0 Y β s a w){t:TypeId}{x:Operand}{f:Nat}(ho:o.op=.fieldAddr t x f){K:PV->Option R}(hk:(F3 (Ye P t f) fun q=>As (Nat.ble 1 (Bw P q.2)) (EJ (Dd s.tm x) q.1 K))=some r):∃v,K v=some r/\G9 P a w o Y β s v [] []:=by
 obtain⟨q,hq,hk⟩:=Eh hk;obtain⟨hs,hk⟩:=A5 hk;obtain⟨fs,g,hu,hg,rfl⟩:=MX hq;have hs:1<=Bw P g.type:=Ya hs;have K9:=Ar0 (P:=P) (t:=g.type) rfl (by omega);refine HS h hk fun ad E9=>?_;unfold execOp;rw[ho];have Gu:¬Bw P g.type=0:=by omega
 simp[Instr.fieldAt,run_underlying hu,hg,Instr.sureAddr,E9,fieldPlace,Q2 K9,Gu]
end
open Go.RowKit
section
variable {R:Type}{r:R}{P:Program}{N:Nat}{w0:World}{X0:Gt}{Y:Nat->Prop}{β β':Bt}{s:St}{a:Act}{w w':World}{o:Oper}{A:Nat->Prop}
theorem XD(h:Cj N w0 X0 Y β s a w){t:TypeId}{cs:Ab}{vs:List Value}{off:Nat}{K:PV->Option R}{x:Operand}(hx:Dd s.tm x=.agg cs)(hv:Ca (Cz w (D4 s.hp β Y) β) cs vs)(hk:As (Oj P t) (Xp (M5 P t) cs off fun c=>mkV (C9 P t) c K)=some r)(Eo:∀val,(part t ⟨vs⟩ off).run P w=.ok val w->(execOp a.eval o).run P w=.ok (.value val) w):∃v,K v=some r/\G9 P a w o Y β s v [] []:=by
 obtain⟨hok,hk⟩:=A5 hk;obtain⟨⟨d,hd⟩,hl,hi⟩:=Yi hok;obtain⟨qs,hk,hql,PD,hq⟩:=CV hk;have YE:=H8 h x;rw[hx] at YE
 have hcell:∀(j:Nat) q,qs[j]?=some q->∃v,vs[off+j]?=some v/\Cz w (D4 s.hp β Y) β q v:=by
  intro j q hj;obtain⟨p,hp,_,_,II⟩:=hq j q hj;obtain⟨v,Wv,hc⟩:=hv.get hp;exact⟨v,Wv,(II _ _ _ _ hc).1⟩
 have HN:∀q∈qs,∀i∈Ba q,s.hp i≠none:=by
  intro q hqm i hi;obtain⟨j,hj⟩:=List.mem_iff_getElem?.1 hqm;obtain⟨p,hp,_,hpr,_⟩:=hq j q hj;exact YE i (List.mem_flatMap.2 ⟨p,List.mem_of_getElem? hp,hpr i hi⟩)
 rcases Ac4 hk with⟨Jy,Hv⟩|⟨Jy,q,rfl,Hv⟩
 ·have FC:Bw P t=0\/off+Bw P t<=vs.length:=by
   rcases Nat.eq_zero_or_pos (Bw P t) with h0|h0
   ·exact .inl h0
   ·obtain⟨v,Wv,_⟩:=hcell (Bw P t-1) _ (List.getElem?_eq_getElem (by omega))
    have:off+(Bw P t-1)<vs.length:=by
     rcases Mh (off+(Bw P t-1)) vs.length with h|h
     ·exact h
     ·rw[List.getElem?_eq_none h] at Wv;cases Wv
    exact .inr (by omega)
  refine⟨_,Hv,Df (Eo (.agg ⟨(vs.drop off).take (Bw P t)⟩) ?_) ⟨(vs.drop off).take (Bw P t),rfl,?_⟩ fun i hi=>?_⟩
  ·simp only[part,Sem.run_bind,Ug hd,Jy,Result.andThen_ok,if_true,Q2 hi];simp[List.extract_eq_take_drop]
  ·refine Ca.of_at ?_ fun i c u hc hu=>?_
   ·simp only[List.length_take,List.length_drop];omega
   ·obtain⟨v,Wv,QM⟩:=hcell i c hc
    have Cr:i<Bw P t:=by
     rcases Mh i qs.length with h|h
     ·omega
     ·rw[List.getElem?_eq_none h] at hc;cases hc
    rw[List.getElem?_take_of_lt Cr,List.getElem?_drop,Wv] at hu;cases hu;exact QM
  ·obtain⟨q,hqm,hi⟩:=List.mem_flatMap.1 (show i∈qs.flatMap Ba from hi);exact HN q hqm i hi
 ·obtain⟨v,Wv,QM⟩:=hcell 0 q rfl;have hn:=PD q (by simp);refine⟨_,Hv,Df (Eo v ?_) ((Tq hn.2).2 ((BI hn.1).2 QM)) fun i hi=>?_⟩
  ·simp only[part,Sem.run_bind,Ug hd,Jy,Result.andThen_ok];rw[JY] at Wv;simp[Wv]
  ·rw[Akp hn.1 hn.2] at hi;exact HN q (by simp) i hi
theorem Ahm(h:Cj N w0 X0 Y β s a w){t:TypeId}{x:Operand}{f:Nat}(ho:o.op=.field t x f){K:PV->Option R}(hk:(F3 (Ye P t f) fun q=>As (Oj P q.2)<|Dl (Dd s.tm x) fun cs=>Xp (M5 P q.2) cs q.1 fun c=>mkV (C9 P q.2) c K)=some r):∃v,K v=some r/\G9 P a w o Y β s v [] []:=by
 obtain⟨q,hq,hk⟩:=Eh hk;obtain⟨hok,hk⟩:=A5 hk;obtain⟨cs,hx,hk⟩:=Lx hk;obtain⟨fs,g,hu,hg,rfl⟩:=MX hq;have hxv:=Ew h x;rw[hx] at hxv;obtain⟨vs,E9,hv⟩:=hxv;refine XD (t:=g.type) (off:=g.offset) h hx hv (by rw[show Oj P g.type=true from hok];exact hk) fun val hp=>?_
 unfold execOp;rw[ho];simp[Instr.field,run_underlying hu,hg,asAgg,E9,hp]
theorem YQ(h:Cj N w0 X0 Y β s a w){x:Operand}{i:Nat}(ho:o.op=.extract x i){K:PV->Option R}(hk:(match Dd s.tm x with | .tup vs=>F3 vs[i]? K|_=>none)=some r):∃v,K v=some r/\G9 P a w o Y β s v [] []:=by
 have hx:=Ew h x;have YE:=H8 h x;split at hk
 ·rename_i ps e;rw[e] at hx YE;obtain⟨p,hp,hk⟩:=Eh hk;obtain⟨vs,E9,hv⟩:=hx;obtain⟨v,Wv,II⟩:=hv.get hp
  have A06:∀y,p ≠ .tup y:=by
   rintro y rfl
   have Bar:Bd _ _ (.tup y) v:=II;cases Bar
  refine⟨p,hk,Df (val:=v) ?_ ((Tq A06).2 II) fun id B6=>YE id ?_⟩
  ·unfold execOp;rw[ho];simp[Instr.extract,E9,Wv]
  ·refine List.mem_flatMap.2 ⟨p,List.mem_of_getElem? hp,?_⟩;cases p<;>first|exact B6|exact absurd rfl (A06 _)
 ·cases hk
theorem slice_form{es:Nat}{p:PV}{z:Bool}{n:Nat}{c:Ab}{v:Value}(hp:p=.lst z es n c\/(p=.sc (.slice none 0 0)/\z=true/\n=0/\c=[]))(hv:Fe w A β p v):
  (v=.slice none 0 0/\n=0/\c=[])\/(∃ad cap,v=.slice (some ad) n cap/\z=false/\n<=cap/\ad.spot=none/\ad.block<w.heap.size/\¬A ad.block/\YL w A ad c)\/∃ad cap,v=.slice (some ad) 0 cap/\z=false/\n=0/\c=[]:=by
 have Wv:Cz w A β p v:=by rcases hp with rfl|⟨rfl,_⟩<;>exact hv
 have ht:=IM hp Wv;cases ht with
 |lnil=>exact .inl ⟨rfl,rfl,rfl⟩
 |lst _ _ _ ad cap f hs hb hA hn hc h1 hr=>exact .inr (.inl ⟨ad,cap,rfl,rfl,hn,hs,hb,hA,fun j q hj=>⟨f j,hc j q hj,h1 j q hj,hr j q hj⟩⟩)
 |lemp _ ad cap=>exact .inr (.inr ⟨ad,cap,rfl,rfl,rfl,rfl⟩)
theorem SJ(h:Cj N w0 X0 Y β s a w){t:TypeId}{x i:Operand}(ho:o.op=.indexAddr t x i){K:PV->Option R}(hk:(Fk (Dd s.tm i) fun _ n=>Qt P t (Dd s.tm x) n K)=some r):∃v,K v=some r/\G9 P a w o Y β s v [] []:=by
 obtain⟨ik,n,hi,hk⟩:=Fb hk;have hai:=D5 h hi;have hx:=Ew h x;have YE:=H8 h x;unfold Qt at hk;split at hk
 ·rename_i len e hu;obtain⟨hz,hk⟩:=A5 hk;obtain⟨hb,hk⟩:=A5 hk;simp only[G6,GU] at hb;obtain⟨inf,Xq⟩:=Option.isSome_iff_exists.1 hz;refine HS h hk fun ad E9=>?_;unfold execOp;rw[ho];simp[Instr.indexAt,asIntOf,hai,E9,run_underlying hu,Instr.sureAddr,hb.1,hb.2,sizeOf,typeInfo,Xq,Bw]
 ·rename_i e hu;obtain⟨hz,hk⟩:=A5 hk;obtain⟨inf,Xq⟩:=Option.isSome_iff_exists.1 hz;have K9:Bw P e=inf.size:=by simp[Bw,Xq]
  split at hk
  ·rename_i id es off n' e';rw[e'] at hx YE;obtain⟨QV,hk⟩:=A5 hk;have QV:=Ez QV;subst QV;obtain⟨hb,hk⟩:=A5 hk;simp only[G6,GU] at hb;rcases hx with⟨_,_,rfl,_⟩|⟨b,ob,y,cap,hβ,E9,hy,_⟩
   ·omega
   ·have hy:y=ob+off:=by rcases hy with hy|⟨rfl,_⟩<;>omega
    subst hy;refine⟨_,hk,Df (val:=.pointer (some ⟨b,ob+(off+n.toNat*Bw P e),none⟩)) ?_ ⟨b,ob,hβ,rfl⟩ YE⟩;unfold execOp;rw[ho];simp[Instr.indexAt,asIntOf,hai,E9,run_underlying hu,hb.1,hb.2,sizeOf,typeInfo,Xq,K9,Fy,Sq]
  ·obtain⟨z,n',c,hk,hp⟩:=I4 hk;obtain⟨hb,hk⟩:=A5 hk;simp only[G6,GU] at hb;rcases slice_form hp hx with⟨_,rfl,_⟩|⟨ad,cap,E9,_,_,h1,h2,h3,h4⟩|⟨_,_,_,_,rfl,_⟩
   ·omega
   rotate_left
   ·omega
   ·refine⟨_,hk,Df (val:=.pointer (some (ad.add (n.toNat*Bw P e)))) ?_ ⟨ad,rfl,h1,h2,h3,h4⟩ (by intro i hi;cases hi)⟩
    unfold execOp;rw[ho];simp[Instr.indexAt,asIntOf,hai,E9,run_underlying hu,hb.1,hb.2,sizeOf,typeInfo,Xq,K9]
 ·cases hk
theorem Ahw(h:Cj N w0 X0 Y β s a w){t:TypeId}{x i:Operand}(ho:o.op=.index t x i){K:PV->Option R}(hk:(Fk (Dd s.tm i) fun _ n=>
   match P.underlying t with
   |some .string=>Ec (Dd s.tm x) fun s=>As (decide (0<=n)) (F3 (s.data.toList[n.toNat]?) fun b=>K (.sc (.int .u8 b.toNat)))
   |some (.array len e)=>Dl (Dd s.tm x) fun cs=>As (decide (0<=n)&&decide (n<len)&&Oj P e) (Xp (M5 P e) cs (n.toNat*Bw P e) fun c=>mkV (C9 P e) c K)
   |_=>none)=some r):∃v,K v=some r/\G9 P a w o Y β s v [] []:=by
 obtain⟨ik,n,hi,hk⟩:=Fb hk;have hai:=D5 h hi;split at hk
 ·rename_i hu;obtain⟨sb,hx,hk⟩:=Fq hk;have E9:=D5 h hx;obtain⟨h0,hk⟩:=A5 hk;obtain⟨b,hb,hk⟩:=Eh hk;have h0:=of_decide_eq_true h0;refine⟨_,hk,El ?_⟩
  have Cr:n.toNat<sb.size:=by
   rcases Mh n.toNat sb.data.toList.length with h|h
   ·simpa using h
   ·rw[List.getElem?_eq_none h] at hb;cases hb
  have Kh:sb[n.toNat]=b:=by
   have:sb.data.toList[n.toNat]?=some sb[n.toNat]:=by
    rw[List.getElem?_eq_getElem (by simpa using Cr)];rfl
   rw[hb] at this;injection this with this;exact this.symm
  unfold execOp;rw[ho];simp[Instr.index,asIntOf,hai,E9,run_underlying hu,h0,Cr,Kh]
 ·rename_i len e hu;obtain⟨cs,hx,hk⟩:=Lx hk;obtain⟨hb,hk⟩:=A5 hk;simp only[G6,GU] at hb;have hxv:=Ew h x;rw[hx] at hxv;obtain⟨vs,E9,hv⟩:=hxv;obtain⟨_,_,K9⟩:=Yi hb.2;refine XD (t:=e) (off:=n.toNat*Bw P e) h hx hv (by rw[hb.2];exact hk) fun val hp=>?_
  unfold execOp;rw[ho];simp[Instr.index,asIntOf,hai,E9,run_underlying hu,hb.1.1,hb.1.2,Q2 K9,hp]
 ·cases hk
end
open Go.RowKit
section
variable {R:Type}{r:R}{P:Program}{N:Nat}{w0:World}{X0:Gt}{Y:Nat->Prop}{β β':Bt}{s:St}{a:Act}{w w':World}{o:Oper}{A:Nat->Prop}
theorem F7(h:Cj N w0 X0 Y β s a w){x:Option Operand}{dflt:Nat}{K:Nat->Option R}(hk:Ku (x.map (Dd s.tm)) dflt K=some r):
  ∃l,K l=some r/\((x=none/\l=dflt)\/∃y k,x=some y/\a.eval y=.int k (l:Int)):=by
 cases x with
 |none=>exact⟨dflt,hk,.inl ⟨rfl,rfl⟩⟩
 |some y=>
  obtain⟨k,i,hi,hk⟩:=Fb (show Fk (Dd s.tm y) _=some r from hk);obtain⟨h0,hk⟩:=A5 hk;have h0:=of_decide_eq_true h0;exact⟨i.toNat,hk,.inr ⟨y,k,rfl,by rw[D5 h hi,Int.toNat_of_nonneg h0]⟩⟩
theorem Nz{lo hi:Option Operand}{isS:Bool}{len cap l u:Nat}(hl:(lo=none/\l=0)\/∃y k,lo=some y/\a.eval y=.int k (l:Int))(hu:(hi=none/\u=len)\/∃y k,hi=some y/\a.eval y=.int k (u:Int))(h1:l<=u)(h2:u<=cap):
  (Instr.sliceBounds isS len cap (lo.map a.eval) (hi.map a.eval) none).run P w=.ok (l,u,cap) w:=by
 rcases hl with⟨rfl,rfl⟩|⟨y,k,rfl,hy⟩<;>rcases hu with⟨rfl,rfl⟩|⟨y',k',rfl,hy'⟩
 ·simp[Instr.sliceBounds]
 ·simp[Instr.sliceBounds,Instr.sliceBound,asIntOf,hy',h2]
 ·simp[Instr.sliceBounds,Instr.sliceBound,asIntOf,hy,h1]
 ·simp[Instr.sliceBounds,Instr.sliceBound,asIntOf,hy,hy',h1,h2]
theorem Em{e:TypeId}(h:(P.info? e).isSome=true)(w:World):(sizeOf e).run P w=.ok (Bw P e) w:=by obtain⟨i,hi⟩:=Option.isSome_iff_exists.1 h;exact Q2 (by simp[Bw,hi]) w
theorem UY{b j:Nat}{v:Value}(h:w.cell? ⟨b,j,none⟩=some v):j<bsz w b:=by
 unfold World.cell? at h;unfold bsz;split at h
 ·rename_i c e fz hb;simp only at hb;rw[hb];simp only[Option.isSome_none,Bool.false_eq_true,if_false] at h;rcases Mh j c.size with Cr|hge
  ·exact Cr
  ·rw[Array.getElem?_eq_none hge] at h;cases h
 ·cases h
theorem Ahu(h:Cj N w0 X0 Y β s a w){t:TypeId}{x:Operand}{lo hi:Option Operand}(ho:o.op=.slice t x lo hi none){K:PV->Option R}(hk:NN P (rd s.hp) t (Dd s.tm x) (lo.map (Dd s.tm)) (hi.map (Dd s.tm)) K=some r):∃v,K v=some r/\G9 P a w o Y β s v [] []:=by
 have hx:=Ew h x;have YE:=H8 h x;unfold NN at hk;split at hk
 ·rename_i hu;obtain⟨sb,YG,hk⟩:=Fq hk;have E9:=D5 h YG;obtain⟨l,hk,hl⟩:=F7 h hk;obtain⟨u,hk,Oo⟩:=F7 h hk;obtain⟨hb,hk⟩:=A5 hk;simp only[G6,GU] at hb;refine⟨_,hk,El ?_⟩;unfold execOp;rw[ho];simp[Instr.sliceAt,Instr.slice,run_underlying hu,E9,Nz hl Oo hb.1 hb.2]
 ·rename_i e hu;obtain⟨Xq,hk⟩:=A5 hk;split at hk
  ·rename_i id es off n e';rw[e'] at hx YE;obtain⟨QV,hk⟩:=A5 hk;have QV:=Ez QV;subst QV;obtain⟨l,hk,hl⟩:=F7 h hk;obtain⟨u,hk,Oo⟩:=F7 h hk;obtain⟨hb,hk⟩:=A5 hk;simp only[G6,GU] at hb;rcases hx with⟨hβ,rfl,rfl,ad,E9⟩|⟨b,ob,y,cap,hβ,E9,hy,hn,SK,Cr⟩
   ·have hu0:u=0:=by omega
    have Zx:l=0:=by omega
    subst hu0 Zx;refine⟨_,hk,Df (val:=.slice ad 0 0) ?_ (.inl ⟨hβ,by simp,rfl,ad,rfl⟩) YE⟩;unfold execOp;rw[ho];cases ad<;>simp[Instr.sliceAt,Instr.slice,run_underlying hu,E9,Nz hl Oo (Da 0) (Da 0),Em Xq]
   ·have Eo:(execOp a.eval o).run P w=.ok (.value (.slice (some (if cap=l then ⟨b,y,none⟩ else ⟨b,y+l*Bw P e,none⟩)) (u-l) (cap-l))) w:=by
     unfold execOp;rw[ho];have hbr:=Nz (P:=P) (w:=w) (isS:=true) hl Oo hb.1 (Nat.le_trans hb.2 hn);simp[Instr.sliceAt,Instr.slice,run_underlying hu,E9,hbr,Em Xq,Fy];split<;>rfl
    refine⟨_,hk,Df Eo (.inr ?_) YE⟩;by_cases hc:cap=l
    ·rw[Bn hc];refine⟨b,ob,y,cap-l,hβ,rfl,?_,by omega,by rw[hc,Nat.sub_self];omega,Cr⟩
     by_cases h0:l*Bw P e=0
     ·rw[h0,JY];rcases hy with hy|⟨ST,Xz⟩
      ·exact .inl hy
      ·exact .inr ⟨by omega,Xz⟩
     ·exact .inr ⟨by omega,by omega⟩
    ·rw[A4 hc];refine⟨b,ob,y+l*Bw P e,cap-l,hβ,rfl,?_,by omega,?_,Cr⟩
     ·rcases hy with hy|⟨ST,Xz⟩
      ·exact .inl (by omega)
      ·exact .inr ⟨by omega,by omega⟩
     ·have:l*Bw P e+(cap-l)*Bw P e=cap*Bw P e:=by
       rw[<-Nat.add_mul]
       congr 1
       omega
      omega
  ·obtain⟨z,n,c,hk,hp⟩:=I4 hk;obtain⟨l,hk,hl⟩:=F7 h hk;obtain⟨u,hk,Oo⟩:=F7 h hk;obtain⟨hb,hk⟩:=A5 hk;simp only[G6,GU] at hb;rcases slice_form hp hx with⟨E9,rfl,rfl⟩|⟨ad,cap,E9,rfl,hn,h1,h2,h3,h4⟩|⟨ad,cap,E9,rfl,rfl,rfl⟩
   rotate_right
   ·have hu0:u=0:=by omega
    have Zx:l=0:=by omega
    subst hu0 Zx;refine⟨_,hk,Df (val:=.slice (some (if cap=0 then ad else ad.add (0*Bw P e))) (0-0) (cap-0)) ?_ ?_ (by intro i hi;cases hi)⟩
    ·unfold execOp;rw[ho];have hbr:=Nz (P:=P) (w:=w) (isS:=true) hl Oo (Da 0) (Nat.zero_le cap);simp[Instr.sliceAt,Instr.slice,run_underlying hu,E9,hbr,Em Xq];split<;>rfl
    ·have:((([]:Ab).drop (0*Bw P e)).take ((0-0)*Bw P e))=[]:=by simp
     rw[this];exact Bd.lemp _ _ _
   ·have hu0:u=0:=by omega
    have Zx:l=0:=by omega
    subst hu0 Zx;refine⟨_,hk,Df (val:=.slice none 0 0) ?_ ?_ (by intro i hi;cases hi)⟩
    ·unfold execOp;rw[ho];simp[Instr.sliceAt,Instr.slice,run_underlying hu,E9,Nz hl Oo (Da 0) (Da 0),Em Xq]
    ·have:((([]:Ab).drop (0*Bw P e)).take ((0-0)*Bw P e))=[]:=by simp
     rw[this];exact Bd.lnil z _
   ·have Eo:(execOp a.eval o).run P w=.ok (.value (.slice (some (if cap=l then ad else ad.add (l*Bw P e))) (u-l) (cap-l))) w:=by
     unfold execOp;rw[ho];have hbr:=Nz (P:=P) (w:=w) (isS:=true) hl Oo hb.1 (Nat.le_trans hb.2 hn);simp[Instr.sliceAt,Instr.slice,run_underlying hu,E9,hbr,Em Xq];split<;>rfl
    refine⟨_,hk,Df Eo ?_ (by intro i hi;cases hi)⟩
    by_cases hc:cap=l
    ·rw[Bn hc];have:u-l=0:=by omega
     rw[this];simp only[Nat.zero_mul,List.take_zero];exact Bd.lst _ _ [] ad _ (fun _=>undef) h1 h2 h3 (by omega) (by simp) (by simp) (by simp)
    ·rw[A4 hc]
     have hcell:∀(j:Nat) q,((c.drop (l*Bw P e)).take ((u-l)*Bw P e))[j]?=some q->c[l*Bw P e+j]?=some q:=by
      intro j q hq;rw[List.getElem?_take] at hq;split at hq
      ·rw[List.getElem?_drop] at hq;exact hq
      ·cases hq
     refine Bd.lst _ _ _ (ad.add (l*Bw P e)) _ (fun j=>(w.cell? (ad.add (l*Bw P e+j))).getD undef) (Ar8 h1 _) (by rw[Iv];exact h2) (by rw[Iv];exact h3) (by omega) (fun j q hq=>?_) (fun j q hq=>?_) (fun j q hq=>?_)
     ·obtain⟨v,hv,_⟩:=h4 _ q (hcell j q hq);rw[add_add,hv];rfl
     ·obtain⟨v,hv,h5,_⟩:=h4 _ q (hcell j q hq);rw[hv];exact h5
     ·obtain⟨v,hv,_,ht⟩:=h4 _ q (hcell j q hq);rw[hv];exact ht
 ·rename_i n e hu;obtain⟨Xq,hk⟩:=A5 hk;split at hk
  ·rename_i id off e';rw[e'] at hx YE;obtain⟨c,hrc,hk⟩:=Eh hk;obtain⟨H2,hk⟩:=A5 hk;simp only[G6,GU] at H2;obtain⟨l,hk,hl⟩:=F7 h hk;obtain⟨u,hk,Oo⟩:=F7 h hk;obtain⟨hb,hk⟩:=A5 hk;simp only[G6,GU] at hb;obtain⟨b,ob,hβ,E9⟩:=hx
   have TY:ob+off+n*Bw P e<=bsz w b:=by
    obtain⟨v,hv,_⟩:=VA h hrc hβ (j:=off+n*Bw P e-1) (List.getElem?_eq_getElem (by omega));have:=UY hv;omega
   have Cr:b<w.heap.size:=h.blt id b ob (YE id (by simp[Cn,C2,Ba])) hβ
   have Eo:(execOp a.eval o).run P w=.ok (.value (.slice (some (if n=l then ⟨b,ob+off,none⟩ else ⟨b,ob+off+l*Bw P e,none⟩)) (u-l) (n-l))) w:=by
    unfold execOp;rw[ho];have hbr:=Nz (P:=P) (w:=w) (isS:=false) hl Oo hb.1 hb.2;simp[Instr.sliceAt,Instr.sureAddr,run_underlying hu,E9,hbr,Em Xq,Fy]
   refine⟨_,hk,Df Eo (.inr ?_) YE⟩;by_cases hc:n=l
   ·rw[Bn hc];refine⟨b,ob,ob+off,n-l,hβ,rfl,?_,by omega,by rw[hc,Nat.sub_self];omega,Cr⟩
    by_cases h0:l*Bw P e=0
    ·rw[h0,JY];exact .inl rfl
    ·exact .inr ⟨by omega,by omega⟩
   ·rw[A4 hc];refine⟨b,ob,ob+off+l*Bw P e,n-l,hβ,rfl,.inl (by omega),by omega,?_,Cr⟩
    have:l*Bw P e+(n-l)*Bw P e=n*Bw P e:=by
     rw[<-Nat.add_mul]
     congr 1
     omega
    omega
  ·cases hk
 ·cases hk
end
open Go.RowKit
section
variable {R:Type}{r:R}{P:Program}{N:Nat}{w0:World}{X0:Gt}{Y:Nat->Prop}{β β':Bt}{s:St}{a:Act}{w w':World}{o:Oper}{A:Nat->Prop}
theorem Apc(h:Cj N w0 X0 Y β s a w){c:Call}(ho:o.op=.call c)(hc:c.callee=.builtin .len){K:PV->Option R}(hk:(Av c.args.toList fun x _=>Av c.argTypes.toList fun t _=>Ao1 P t (Dd s.tm x) fun n=>K (.sc (.int .i64 n)))=some r):∃v,K v=some r/\G9 P a w o Y β s v [] []:=by
 obtain⟨x,xs,YG,hk⟩:=Bv hk;obtain⟨t,ts,hts,hk⟩:=Bv hk;have hx:=Ew h x;have F1:c.args=(x::xs).toArray:=by rw[<-YG]
 have RX:c.argTypes=(t::ts).toArray:=by rw[<-hts]
 have Eo:∀n:Nat,(Builtin.len_ c.argTypes o.type (c.args.map a.eval)).run P w=.ok (.int .i64 n) w->(execOp a.eval o).run P w=.ok (.value (.int .i64 n)) w:=by
  intro n hl;unfold execOp;rw[ho];simp only[resolve,hc,invoke,builtin,Sem.run_bind,Sem.run_pure,Result.andThen_ok,hl]
 unfold Ao1 at hk;split at hk
 ·rename_i hu;obtain⟨sb,Bau,hk⟩:=Fq hk;have E9:=D5 h Bau;refine⟨_,hk,El (Eo _ ?_)⟩;simp[Builtin.len_,F1,RX,run_underlying hu,E9,goInt]
 ·rename_i n e hu;refine⟨_,hk,El (Eo _ ?_)⟩;simp[Builtin.len_,F1,RX,run_underlying hu,goInt]
 ·rename_i e hu;split at hk
  ·rename_i id es off n e';rw[e'] at hx;obtain⟨_,hk⟩:=A5 hk;refine⟨_,hk,El (Eo _ ?_)⟩;rcases hx with⟨_,_,rfl,ad,E9⟩|⟨b,ob,y,cap,_,E9,_⟩<;>simp[Builtin.len_,F1,RX,run_underlying hu,E9,goInt]
  ·obtain⟨z,n,cc,hk,hp⟩:=I4 hk;refine⟨_,hk,El (Eo _ ?_)⟩;rcases slice_form hp hx with⟨E9,rfl,_⟩|⟨ad,cap,E9,_⟩|⟨ad,cap,E9,_,rfl,_⟩<;>simp[Builtin.len_,F1,RX,run_underlying hu,E9,goInt]
 ·cases hk
theorem An5(h:Cj N w0 X0 Y β s a w){c:Call}(ho:o.op=.call c)(hc:c.callee=.builtin .cap){K:PV->Option R}(hk:(Av c.args.toList fun x _=>Av c.argTypes.toList fun t _=>Aok P t (Dd s.tm x) fun n=>K (.sc (.int .i64 n)))=some r):∃v,K v=some r/\G9 P a w o Y β s v [] []:=by
 obtain⟨x,xs,YG,hk⟩:=Bv hk;obtain⟨t,ts,hts,hk⟩:=Bv hk;have hx:=Ew h x;have F1:c.args=(x::xs).toArray:=by rw[<-YG]
 have RX:c.argTypes=(t::ts).toArray:=by rw[<-hts]
 have Eo:∀n:Nat,(Builtin.cap_ c.argTypes o.type (c.args.map a.eval)).run P w=.ok (.int .i64 n) w->(execOp a.eval o).run P w=.ok (.value (.int .i64 n)) w:=by
  intro n hl;unfold execOp;rw[ho];simp only[resolve,hc,invoke,builtin,Sem.run_bind,Sem.run_pure,Result.andThen_ok,hl]
 unfold Aok at hk;split at hk
 ·rename_i e hu;obtain⟨z,n,cc,hk,hp⟩:=I4 hk;obtain⟨hz,hk⟩:=A5 hk;refine⟨_,hk,El (Eo _ ?_)⟩;rcases slice_form hp hx with⟨E9,rfl,_⟩|⟨ad,cap,E9,VD,_⟩|⟨ad,cap,E9,VD,_,_⟩
  ·simp[Builtin.cap_,F1,RX,run_underlying hu,E9,goInt]
  ·rw[hz] at VD;cases VD
  ·rw[hz] at VD;cases VD
 ·cases hk
theorem Ao3(h:Cj N w0 X0 Y β s a w){c:Call}(ho:o.op=.call c)(hc:c.callee=.builtin .min){K:PV->Option R}(hk:(Av c.args.toList fun x r=>Av r fun y r'=>Ar r' (Ayq (Dd s.tm x) (Dd s.tm y) K))=some r):∃v,K v=some r/\G9 P a w o Y β s v [] []:=by
 obtain⟨x,xs,YG,hk⟩:=Bv hk;obtain⟨y,ys,rfl,hk⟩:=Bv hk;obtain⟨rfl,hk⟩:=Fh hk;obtain⟨k,n,hx,hk⟩:=Fb hk;obtain⟨m,hy,hk⟩:=Hb hk
 have F1:c.args = #[x,y]:=by
  have:c.args=([x,y]:List Operand).toArray:=by rw[<-YG]
  exact this
 refine⟨_,hk,El ?_⟩;unfold execOp;rw[ho];simp[resolve,hc,invoke,builtin,F1,Builtin.min_,Builtin.min2,D5 h hx,D5 h hy]
theorem Aqk(h:Cj N w0 X0 Y β s a w){c:Call}(ho:o.op=.call c)(hc:c.callee=.builtin .max){K:PV->Option R}(hk:(Av c.args.toList fun x r=>Av r fun y r'=>Ar r' (Azn (Dd s.tm x) (Dd s.tm y) K))=some r):∃v,K v=some r/\G9 P a w o Y β s v [] []:=by
 obtain⟨x,xs,YG,hk⟩:=Bv hk;obtain⟨y,ys,rfl,hk⟩:=Bv hk;obtain⟨rfl,hk⟩:=Fh hk;obtain⟨k,n,hx,hk⟩:=Fb hk;obtain⟨m,hy,hk⟩:=Hb hk
 have F1:c.args = #[x,y]:=by
  have:c.args=([x,y]:List Operand).toArray:=by rw[<-YG]
  exact this
 refine⟨_,hk,El ?_⟩;unfold execOp;rw[ho];simp[resolve,hc,invoke,builtin,F1,Builtin.max_,Builtin.max2,D5 h hx,D5 h hy]
theorem Ak3(h:Cj N w0 X0 Y β s a w){op:UnOp}{t:TypeId}{x:Operand}(ho:o.op=.unOp op t x){K:PV->Option R}(hk:unK op (Dd s.tm x) K=some r):
  ∃v,K v=some r/\G9 P a w o Y β s v [] []:=by
 unfold unK at hk;split at hk
 ·obtain⟨b,hb,hk⟩:=Ft hk;refine⟨_,hk,El ?_⟩;unfold execOp;rw[ho];simp[Op.unary,D5 h hb]
 ·obtain⟨k,n,hb,hk⟩:=Fb hk;refine⟨_,hk,El ?_⟩;unfold execOp;rw[ho];simp[Op.unary,Op.intArith,D5 h hb]
 ·obtain⟨k,n,hb,hk⟩:=Fb hk;refine⟨_,hk,El ?_⟩;unfold execOp;rw[ho];simp[Op.unary,Op.intBits,D5 h hb,A52]
 ·cases hk
theorem Ap8{op:BinOp}{k:IntKind}{m n:Int}{t:TypeId}{x y:Operand}{K:PV->Option R}(RC:op ≠ .shl)(XT:op ≠ .shr)(hk:UU op k m n K=some r):
  ∃v,K (.sc v)=some r/\(do eqGuard op t x y (.int k m) (.int k n);binOp op t (.int k m) (.int k n)).run P w=.ok v w:=by
 cases op<;>first
  |exact absurd rfl RC
  |exact absurd rfl XT
  |(obtain⟨hb,hk⟩:=A5 hk;have hb:=of_decide_eq_true hb;exact⟨_,hk,by simp[eqGuard,binOp,Op.intDiv,hb]⟩)
  |exact⟨_,hk,by simp[eqGuard,binOp,-BitVec.toNat_and,-BitVec.toNat_or,-BitVec.toNat_xor,-gt_iff_lt,-ge_iff_le]<;>rfl⟩
theorem Aph{op:BinOp}{m n:ByteArray}{t:TypeId}{x y:Operand}{K:PV->Option R}(hk:XM op m n K=some r):
  ∃v,K (.sc v)=some r/\(do eqGuard op t x y (.string m) (.string n);binOp op t (.string m) (.string n)).run P w=.ok v w:=by
 cases op<;>first
  |cases hk
  |(obtain⟨hb,hk⟩:=A5 hk;have hb:=of_decide_eq_true hb;exact⟨_,hk,by
    have Kh:¬(((m.size+n.size:Nat):Int)>IntKind.i64.max):=by
     have:IntKind.i64.max=9223372036854775807:=rfl;rw[this];omega
    simp only[eqGuard,binOp,Op.stringOp,A4 Kh];rfl⟩)
  |exact⟨_,hk,by simp only[eqGuard,binOp,Op.stringOp,ByteArray.toList_eq];rfl⟩
end
open Go.RowKit
section
variable {R:Type}{r:R}{P:Program}{N:Nat}{w0:World}{X0:Gt}{Y:Nat->Prop}{β β':Bt}{s:St}{a:Act}{w w':World}{o:Oper}{A:Nat->Prop}
theorem XL{t:TypeId}(hu:P.underlying t=some .bool)(x y:Bool):(Op.equal t (.bool x) (.bool y)).run P w=.ok (x==y) w:=by
 have h:∀d,(Op.equalIn (d+1) t (.bool x) (.bool y)).run P w=.ok (x==y) w:=fun d=>by simp[Op.equalIn,run_underlying hu]
 exact h 9999
theorem FK{t e:TypeId}(hu:P.underlying t=some (.slice e))(x:Option Addr)(n c:Nat):(Op.equal t (.slice x n c) (.slice none 0 0)).run P w=.ok x.isNone w:=by
 have h:∀d,(Op.equalIn (d+1) t (.slice x n c) (.slice none 0 0)).run P w=.ok x.isNone w:=fun d=>by
  cases x<;>simp[Op.equalIn,run_underlying hu]
 exact h 9999
theorem Oi{t:TypeId}(d:Nat){v u:Value}(hv:(∃k m n,P.underlying t=some (.int k)/\v=.int k m/\u=.int k n)\/(∃m n,P.underlying t=some .bool/\v=.bool m/\u=.bool n)\/∃m n,P.underlying t=some .string/\v=.string m/\u=.string n){b:Bool}(hb:∀k m n,v=.int k m->u=.int k n->b=(m==n))(Kh:∀m n,v=.bool m->u=.bool n->b=(m==n))(Bch:∀m n,v=.string m->u=.string n->b=(m==n)):(Op.equalIn (d+1) t v u).run P w=.ok b w:=by
 rcases hv with⟨k,m,n,hu,rfl,rfl⟩|⟨m,n,hu,rfl,rfl⟩|⟨m,n,hu,rfl,rfl⟩
 ·rw[hb k m n rfl rfl];simp[Op.equalIn,run_underlying hu]
 ·rw[Kh m n rfl rfl];simp[Op.equalIn,run_underlying hu]
 ·rw[Bch m n rfl rfl];simp[Op.equalIn,run_underlying hu]
theorem AN{t:TypeId}{dsc:TypeDesc}(hu:P.underlying t=some dsc)(hd:C9 P t=false){xs:Array Value}{i:Nat}{v:Value}(hv:xs[i]?=some v):(part t xs i).run P w=.ok v w:=by simp only[part,Sem.run_bind,Ug hu,hd,Result.andThen_ok];simp[hv]
theorem ZQ(k:IntKind)(n:Int)(K:Int->Option R):Be k (.sc (.int k n)) K=K n:=by simp[Be]
theorem Ae6(d : Nat): ∀ (fs : List Field) (i : Nat) (xs ys : Array Value) (ps qs : Ab) (K : Bool -> Option R), Aik P fs i = true -> Sk (fs.map (fty P)) ps qs K = some r ->
    (∀ (j : Nat) p, ps[j]? = some p -> ∃ v, xs[i + j]? = some v /\ Cz w A β p v) -> (∀ (j : Nat) p, qs[j]? = some p -> ∃ v, ys[i + j]? = some v /\ Cz w A β p v) ->
    ∃ b, K b = some r /\ (forIn fs ((none, ()) : Option Bool × Unit) fun (f : Field) (_ : Option Bool × Unit) =>
            if f.name = "_" then pure (ForInStep.yield ((none, ()) : Option Bool × Unit))
            else do
              let x <- part f.type xs f.offset
              let y <- part f.type ys f.offset
              let e <- Op.equalIn (d + 1) f.type x y
              if e = false then pure (ForInStep.done ((some false, ()) : Option Bool × Unit)) else pure (ForInStep.yield ((none, ()) : Option Bool × Unit)) : Sem (Option Bool × Unit)).run P w = .ok (if b then (none, ()) else (some false, ())) w
  | [], i, xs, ys, ps, qs, K, _, hk, _, _ => by
    cases ps with
    | nil => cases qs with
      | nil => exact⟨true, hk, by simp⟩
      | cons q qs => cases hk
    | cons p ps => cases hk
  | f :: fs, i, xs, ys, ps, qs, K, hfl, hk, hp, hq => by
    simp only[Aik, G6] at hfl
    obtain⟨⟨⟨Xz, At1⟩, hty⟩, HI⟩ := hfl
    have Xz := Ez Xz
    have WX : f.name ≠ "_" := by simpa using At1
    cases ps with
    | nil =>
      simp only[Sn] at hk
      cases A4c : fty P f <;> rw[A4c] at hk <;> cases hk
    | cons p ps =>
      cases qs with
      | nil =>
        simp only[Sn] at hk
        cases A4c : fty P f <;> rw[A4c] at hk <;> cases hk
      | cons q qs =>
        obtain⟨v, hv, II⟩ := hp 0 p rfl
        obtain⟨u, hu, hqu⟩ := hq 0 q rfl
        rw[JY] at hv hu
        have main : ∃ b0 dsc, P.underlying f.type = some dsc /\ C9 P f.type = false /\ (Op.equalIn (d + 1) f.type v u).run P w = .ok b0 w /\ Sk (fs.map (fty P)) ps qs (fun r => K (b0 && r)) = some r := by
          simp only[Sn] at hk
          unfold fty at hk
          split at hk
          · rename_i k P5
            obtain⟨m, hpm, Fc⟩ := Hb (show Be k p _ = some r from hk)
            obtain⟨n, XY, Hv⟩ := Hb Fc
            subst hpm XY
            have Wv : v = .int k m := Bd.val (w := w) (A := A) II
            have Oo : u = .int k n := Bd.val (w := w) (A := A) hqu
            subst Wv Oo
            refine⟨m == n, _, P5, by simp[C9, P5], Oi d (.inl ⟨k, m, n, P5, rfl, rfl⟩) ?_ ?_ ?_, Hv⟩
            · intro k' m' n' h1 h2; injection h1 with _ h1; injection h2 with _ h2; rw[h1, h2]
            · intro m' n' h1; cases h1
            · intro m' n' h1; cases h1
          · rename_i P5
            obtain⟨m, hpm, Fc⟩ := Ft (show Cg p _ = some r from hk)
            obtain⟨n, XY, Hv⟩ := Ft Fc
            subst hpm XY
            have Wv : v = .bool m := Bd.val (w := w) (A := A) II
            have Oo : u = .bool n := Bd.val (w := w) (A := A) hqu
            subst Wv Oo
            refine⟨m == n, _, P5, by simp[C9, P5], Oi d (.inr (.inl ⟨m, n, P5, rfl, rfl⟩)) ?_ ?_ ?_, Hv⟩
            · intro k' m' n' h1; cases h1
            · intro m' n' h1 h2; injection h1 with h1; injection h2 with h2; rw[h1, h2]
            · intro m' n' h1; cases h1
          · rename_i P5
            obtain⟨m, hpm, Fc⟩ := Fq (show Ec p _ = some r from hk)
            obtain⟨n, XY, Hv⟩ := Fq Fc
            subst hpm XY
            have Wv : v = .string m := Bd.val (w := w) (A := A) II
            have Oo : u = .string n := Bd.val (w := w) (A := A) hqu
            subst Wv Oo
            refine⟨m == n, _, P5, by simp[C9, P5], Oi d (.inr (.inr ⟨m, n, P5, rfl, rfl⟩)) ?_ ?_ ?_, Hv⟩
            · intro k' m' n' h1; cases h1
            · intro m' n' h1; cases h1
            · intro m' n' h1 h2; injection h1 with h1; injection h2 with h2; rw[h1, h2]
          · cases hk
        obtain⟨b0, dsc, P5, Jy, he, hk⟩ := main
        obtain⟨b, hkb, Eo⟩ := Ae6 d fs (i + 1) xs ys ps qs _ HI hk (fun j p' hj => by have := hp (j + 1) p' hj; rwa [Sq, Nat.add_comm 1 j]) (fun j p' hj => by have := hq (j + 1) p' hj; rwa [Sq, Nat.add_comm 1 j])
        refine⟨b0 && b, hkb, ?_⟩
        have hpx : (part f.type xs f.offset).run P w = .ok v w := AN P5 Jy (by rw[Xz]; exact hv)
        have hpy : (part f.type ys f.offset).run P w = .ok u w := AN P5 Jy (by rw[Xz]; exact hu)
        cases b0
        · simp[List.forIn_cons, WX, hpx, hpy, he]
        · simp only[Zzm]
          rw[<- Eo]
          simp[List.forIn_cons, WX, hpx, hpy, he]
theorem SF(d:Nat){t:TypeId}{fs:Array Field}(hu:P.underlying t=some (.struct fs))(Hm:P.stoodInHeld t=false)(hfl:Aik P fs.toList 0=true){xs ys:Ab}{vx vy:List Value}(hvx:Ca (Cz w A β) xs vx)(hvy:Ca (Cz w A β) ys vy){K:Bool->Option R}(hk:Sk (fs.toList.map (fty P)) xs ys K=some r):
  ∃b,K b=some r/\(Op.equalIn (d+2) t (.agg ⟨vx⟩) (.agg ⟨vy⟩)).run P w=.ok b w:=by
 obtain⟨b,hkb,Eo⟩:=Ae6 (P:=P) (w:=w) (A:=A) (β:=β) d fs.toList 0 ⟨vx⟩ ⟨vy⟩ xs ys K hfl hk (fun j p hj=>by
   obtain⟨v,hv,hc⟩:=hvx.get hj;exact⟨v,by simpa using hv,hc⟩) (fun j p hj=>by
   obtain⟨v,hv,hc⟩:=hvy.get hj;exact⟨v,by simpa using hv,hc⟩)
 refine⟨b,hkb,?_⟩;rw[Array.forIn_toList] at Eo;rw[Op.equalIn];simp[run_underlying hu,Hm];rw[Eo];cases b<;>simp
theorem LC:∀(ts1:List CT){ts2:List CT}{ps qs:Ab}{K:Bool->Option R},Sk (ts1++ts2) ps qs K=some r ->
  Sk ts1 (ps.take ts1.length) (qs.take ts1.length) (fun b=>Sk ts2 (ps.drop ts1.length) (qs.drop ts1.length) fun r'=>K (b&&r'))=some r
 |[],ts2,ps,qs,K,h=>by
  simp only[Ud,List.take_zero,Er,Sk,Zzm];exact h
 |t::ts1,ts2,ps,qs,K,h=>by
  rw[Zzp] at h;cases ps with
  |nil=>cases t<;>cases h
  |cons p ps=>
   cases qs with
   |nil=>cases t<;>cases h
   |cons q qs=>
    simp only[He,List.take_succ_cons,List.drop_succ_cons];cases t with
    |int k=>
     obtain⟨m,hpm,h1⟩:=Hb (show Be k p _=some r from h);obtain⟨n,XY,h2⟩:=Hb h1;subst hpm XY;have:=LC ts1 h2;simp only[<-Bool.and_assoc] at this;exact (ZQ _ _ _).trans ((ZQ _ _ _).trans this)
    |bool=>
     obtain⟨m,hpm,h1⟩:=Ft (show Cg p _=some r from h);obtain⟨n,XY,h2⟩:=Ft h1;subst hpm XY;have:=LC ts1 h2;simp only[<-Bool.and_assoc] at this;exact this
    |str=>
     obtain⟨m,hpm,h1⟩:=Fq (show Ec p _=some r from h);obtain⟨n,XY,h2⟩:=Fq h1;subst hpm XY;have:=LC ts1 h2;simp only[<-Bool.and_assoc] at this;exact this
    |sl es=>cases h
    |any=>cases h
theorem Ago:∀(ts:List CT){ps qs:Ab}{K:Bool->Option R},Sk ts ps qs K=some r->ps.length=ts.length/\qs.length=ts.length
 |[],ps,qs,K,h=>by
  cases ps with
  |nil=>cases qs with
   |nil=>exact⟨rfl,rfl⟩
   |cons q qs=>cases h
  |cons p ps=>cases h
 |t::ts,ps,qs,K,h=>by
  cases ps with
  |nil=>cases t<;>cases h
  |cons p ps=>
   cases qs with
   |nil=>cases t<;>cases h
   |cons q qs=>
    have go:∃K',Sk ts ps qs K'=some r:=by
     cases t with
     |int k=>
      obtain⟨m,hpm,h1⟩:=Hb (show Be k p _=some r from h);obtain⟨n,XY,h2⟩:=Hb h1;exact⟨_,h2⟩
     |bool=>
      obtain⟨m,hpm,h1⟩:=Ft (show Cg p _=some r from h);obtain⟨n,XY,h2⟩:=Ft h1;exact⟨_,h2⟩
     |str=>
      obtain⟨m,hpm,h1⟩:=Fq (show Ec p _=some r from h);obtain⟨n,XY,h2⟩:=Fq h1;exact⟨_,h2⟩
     |sl es=>cases h
     |any=>cases h
    obtain⟨K',h'⟩:=go;have:=Ago ts h';exact⟨by simp[this.1],by simp[this.2]⟩
theorem Ahy{t:TypeId}{dsc:TypeDesc}(hu:P.underlying t=some dsc)(hd:C9 P t=true)(hi:(P.info? t).isSome=true)(xs:Array Value)(i:Nat):(part t xs i).run P w=.ok (.agg (xs.extract i (i+Bw P t))) w:=by simp only[part,Sem.run_bind,Ug hu,hd,Result.andThen_ok,if_true,Em hi];rfl
theorem Aag{xs:Array Value}{i n:Nat}{ps:Ab}(hn:n<=ps.length)(hp:∀(j:Nat) p,ps[j]?=some p->∃v,xs[i+j]?=some v/\Cz w A β p v):Ca (Cz w A β) (ps.take n) (xs.extract i (i+n)).toList:=by
 rcases Nat.eq_zero_or_pos n with h0|h0
 ·subst h0;simp[Ca]
 have hl:n-1<ps.length:=by omega
 obtain⟨v,hv,_⟩:=hp (n-1) _ (List.getElem?_eq_getElem hl);have K9:=(Array.getElem?_eq_some_iff.1 hv).1;refine Ca.of_at (by simp;omega) fun j a b ha hb=>?_
 rw[List.getElem?_take] at ha;split at ha
 ·rename_i hj;obtain⟨v,hv,hc⟩:=hp j a ha;rw[Array.getElem?_toList,Array.getElem?_extract] at hb;split at hb
  ·rw[hv] at hb;cases hb;exact hc
  ·cases hb
 ·cases ha
theorem QL{f:Field}{gs:Array Field}(hu:P.underlying f.type=some (.struct gs)):Afp P f=gs.toList.map (fty P):=by unfold Afp;rw[hu]
theorem Ai9{f:Field}(h:∀gs,P.underlying f.type≠some (.struct gs)):Afp P f=[fty P f]:=by
 unfold Afp;split
 ·rename_i gs hu;exact absurd hu (h gs)
 ·rfl
theorem Am0(d : Nat): ∀ (fs : List Field) (i : Nat) (xs ys : Array Value) (ps qs : Ab) (K : Bool -> Option R), Uw P fs i = true -> Sk (HC P fs) ps qs K = some r ->
    (∀ (j : Nat) p, ps[j]? = some p -> ∃ v, xs[i + j]? = some v /\ Cz w A β p v) -> (∀ (j : Nat) p, qs[j]? = some p -> ∃ v, ys[i + j]? = some v /\ Cz w A β p v) ->
    ∃ b, K b = some r /\ (forIn fs ((none, ()) : Option Bool × Unit) fun (f : Field) (_ : Option Bool × Unit) =>
            if f.name = "_" then pure (ForInStep.yield ((none, ()) : Option Bool × Unit))
            else do
              let x <- part f.type xs f.offset
              let y <- part f.type ys f.offset
              let e <- Op.equalIn (d + 2) f.type x y
              if e = false then pure (ForInStep.done ((some false, ()) : Option Bool × Unit)) else pure (ForInStep.yield ((none, ()) : Option Bool × Unit)) : Sem (Option Bool × Unit)).run P w = .ok (if b then (none, ()) else (some false, ())) w
  | [], i, xs, ys, ps, qs, K, _, hk, _, _ => by
    cases ps with
    | nil => cases qs with
      | nil => exact⟨true, hk, by simp⟩
      | cons q qs => cases hk
    | cons p ps => cases hk
  | f :: fs, i, xs, ys, ps, qs, K, hfl, hk, hp, hq => by
    simp only[Uw, G6] at hfl
    obtain⟨⟨Xz, At1⟩, hty⟩ := hfl
    have Xz := Ez Xz
    have WX : f.name ≠ "_" := by simpa using At1
    have main : ∃ b0 v u n, (part f.type xs f.offset).run P w = .ok v w /\ (part f.type ys f.offset).run P w = .ok u w /\ (Op.equalIn (d + 2) f.type v u).run P w = .ok b0 w /\ Uw P fs (i + n) = true /\ Sk (HC P fs) (ps.drop n) (qs.drop n) (fun r' => K (b0 && r')) = some r := by
      have hk := LC (Afp P f) (show Sk (Afp P f ++ HC P fs) ps qs K = some r from hk)
      have H2 := Ago _ hk
      rw[List.length_take, List.length_take] at H2
      have plain : (∀ gs, P.underlying f.type ≠ some (.struct gs)) -> Uw P fs (i + 1) = true -> (match P.underlying f.type with | some (.int _) => true | some .bool => true | some .string => true | _ => false) = true ->
          ∃ b0 v u n, (part f.type xs f.offset).run P w = .ok v w /\ (part f.type ys f.offset).run P w = .ok u w /\ (Op.equalIn (d + 2) f.type v u).run P w = .ok b0 w /\ Uw P fs (i + n) = true /\ Sk (HC P fs) (ps.drop n) (qs.drop n) (fun r' => K (b0 && r')) = some r := by
        intro hs A20 SO
        rw[Ai9 hs] at hk H2
        simp only[List.length_singleton] at hk H2
        obtain⟨p, ps, rfl⟩ : ∃ p ps', ps = p :: ps' := by
          cases ps with
          | nil => simp at H2
          | cons p ps => exact⟨p, ps, rfl⟩
        obtain⟨q, qs, rfl⟩ : ∃ q qs', qs = q :: qs' := by
          cases qs with
          | nil => simp at H2
          | cons q qs => exact⟨q, qs, rfl⟩
        obtain⟨v, hv, II⟩ := hp 0 p rfl
        obtain⟨u, hu, hqu⟩ := hq 0 q rfl
        rw[JY] at hv hu
        simp only[List.take_succ_cons, List.take_zero, List.drop_succ_cons, Er] at hk ⊢
        have one : ∃ b0 dsc, P.underlying f.type = some dsc /\ C9 P f.type = false /\ (Op.equalIn (d + 2) f.type v u).run P w = .ok b0 w /\ Sk (HC P fs) ps qs (fun r' => K (b0 && r')) = some r := by
          unfold fty at hk
          split at hk
          · rename_i k P5
            obtain⟨m, hpm, Fc⟩ := Hb (show Be k p _ = some r from hk)
            obtain⟨n, XY, Hv⟩ := Hb Fc
            subst hpm XY
            have Wv : v = .int k m := Bd.val (w := w) (A := A) II
            have Oo : u = .int k n := Bd.val (w := w) (A := A) hqu
            subst Wv Oo
            have e : ∀ b : Bool, (b && true) = b := Bool.and_true
            simp only[Sk, e] at Hv
            refine⟨m == n, _, P5, by simp[C9, P5], Oi (d + 1) (.inl ⟨k, m, n, P5, rfl, rfl⟩) ?_ ?_ ?_, Hv⟩
            · intro k' m' n' h1 h2; injection h1 with _ h1; injection h2 with _ h2; rw[h1, h2]
            · intro m' n' h1; cases h1
            · intro m' n' h1; cases h1
          · rename_i P5
            obtain⟨m, hpm, Fc⟩ := Ft (show Cg p _ = some r from hk)
            obtain⟨n, XY, Hv⟩ := Ft Fc
            subst hpm XY
            have Wv : v = .bool m := Bd.val (w := w) (A := A) II
            have Oo : u = .bool n := Bd.val (w := w) (A := A) hqu
            subst Wv Oo
            have e : ∀ b : Bool, (b && true) = b := Bool.and_true
            simp only[Sk, e] at Hv
            refine⟨m == n, _, P5, by simp[C9, P5], Oi (d + 1) (.inr (.inl ⟨m, n, P5, rfl, rfl⟩)) ?_ ?_ ?_, Hv⟩
            · intro k' m' n' h1; cases h1
            · intro m' n' h1 h2; injection h1 with h1; injection h2 with h2; rw[h1, h2]
            · intro m' n' h1; cases h1
          · rename_i P5
            obtain⟨m, hpm, Fc⟩ := Fq (show Ec p _ = some r from hk)
            obtain⟨n, XY, Hv⟩ := Fq Fc
            subst hpm XY
            have Wv : v = .string m := Bd.val (w := w) (A := A) II
            have Oo : u = .string n := Bd.val (w := w) (A := A) hqu
            subst Wv Oo
            have e : ∀ b : Bool, (b && true) = b := Bool.and_true
            simp only[Sk, e] at Hv
            refine⟨m == n, _, P5, by simp[C9, P5], Oi (d + 1) (.inr (.inr ⟨m, n, P5, rfl, rfl⟩)) ?_ ?_ ?_, Hv⟩
            · intro k' m' n' h1; cases h1
            · intro m' n' h1; cases h1
            · intro m' n' h1 h2; injection h1 with h1; injection h2 with h2; rw[h1, h2]
          · cases hk
        obtain⟨b0, dsc, P5, Jy, he, hk⟩ := one
        exact⟨b0, v, u, 1, AN P5 Jy (by rw[Xz]; exact hv), AN P5 Jy (by rw[Xz]; exact hu), he, A20, by simpa using hk⟩
      split at hty
      · rename_i k P5
        exact plain (fun gs e => by rw[P5] at e; cases e) hty (by rw[P5])
      · rename_i P5
        exact plain (fun gs e => by rw[P5] at e; cases e) hty (by rw[P5])
      · rename_i P5
        exact plain (fun gs e => by rw[P5] at e; cases e) hty (by rw[P5])
      · rename_i gs P5
        simp only[G6, Bool.not_eq_true'] at hty
        obtain⟨⟨⟨⟨hfp, Hm⟩, hi⟩, K9⟩, HI⟩ := hty
        have K9 := Ez K9
        have CN : (Afp P f).length = gs.size := by rw[QL P5, List.length_map, Array.length_toList]
        rw[CN] at hk H2
        rw[QL P5] at hk
        have hx := Aag (n := gs.size) (by omega) hp
        have hy := Aag (n := gs.size) (by omega) hq
        obtain⟨b0, hkb, he⟩ := SF d P5 Hm hfp hx hy hk
        have ha : C9 P f.type = true := by simp[C9, P5]
        exact⟨b0, _, _, gs.size, by rw[Ahy P5 ha hi, Xz, K9], by rw[Ahy P5 ha hi, Xz, K9], he, HI, hkb⟩
      · cases hty
    obtain⟨b0, v, u, n, hpx, hpy, he, A20, hk⟩ := main
    obtain⟨b, hkb, Eo⟩ := Am0 d fs (i + n) xs ys (ps.drop n) (qs.drop n) _ A20 hk (fun j p' hj => by rw[List.getElem?_drop] at hj; have := hp (n + j) p' hj; rwa [<- Sq] at this) (fun j p' hj => by rw[List.getElem?_drop] at hj; have := hq (n + j) p' hj; rwa [<- Sq] at this)
    refine⟨b0 && b, hkb, ?_⟩
    cases b0
    · simp[List.forIn_cons, WX, hpx, hpy, he]
    · simp only[Zzm]
      rw[<- Eo]
      simp[List.forIn_cons, WX, hpx, hpy, he]
theorem TQ(d:Nat){t:TypeId}{fs:Array Field}(hu:P.underlying t=some (.struct fs))(Hm:P.stoodInHeld t=false)(hfl:Uw P fs.toList 0=true){xs ys:Ab}{vx vy:List Value}(hvx:Ca (Cz w A β) xs vx)(hvy:Ca (Cz w A β) ys vy){K:Bool->Option R}(hk:Sk (HC P fs.toList) xs ys K=some r):
  ∃b,K b=some r/\(Op.equalIn (d+3) t (.agg ⟨vx⟩) (.agg ⟨vy⟩)).run P w=.ok b w:=by
 obtain⟨b,hkb,Eo⟩:=Am0 (P:=P) (w:=w) (A:=A) (β:=β) d fs.toList 0 ⟨vx⟩ ⟨vy⟩ xs ys K hfl hk (fun j p hj=>by
   obtain⟨v,hv,hc⟩:=hvx.get hj;exact⟨v,by simpa using hv,hc⟩) (fun j p hj=>by
   obtain⟨v,hv,hc⟩:=hvy.get hj;exact⟨v,by simpa using hv,hc⟩)
 refine⟨b,hkb,?_⟩;rw[Array.forIn_toList] at Eo;rw[Op.equalIn];simp[run_underlying hu,Hm];rw[Eo];cases b<;>simp
theorem Aaf(h:Cj N w0 X0 Y β s a w){t:TypeId}{fs:Array Field}{x y:Operand}{op:BinOp}(hop:op=.eql\/op=.neq)(hu:P.underlying t=some (.struct fs))(hfl:Aee P t fs=true){xs ys:Ab}(hx:Dd s.tm x=.agg xs)(hy:Dd s.tm y=.agg ys){K:Bool->Option R}(hk:Sk (HC P fs.toList) xs ys K=some r):
  ∃b,K b=some r/\(do eqGuard op t x y (a.eval x) (a.eval y);binOp op t (a.eval x) (a.eval y)).run P w=.ok (.bool (if op=.eql then b else !b)) w:=by
 have hxv:=Ew h x;have hyv:=Ew h y;rw[hx] at hxv;rw[hy] at hyv;obtain⟨vx,E9,hvx⟩:=hxv;obtain⟨vy,hay,hvy⟩:=hyv;simp only[Aee,G6,Bool.not_eq_true'] at hfl;obtain⟨⟨hfl,Hm⟩,heg⟩:=hfl;obtain⟨b,hkb,heq⟩:=TQ 9997 hu Hm hfl hvx hvy hk;have heq:(Op.equal t (.agg ⟨vx⟩) (.agg ⟨vy⟩)).run P w=.ok b w:=heq;refine⟨b,hkb,?_⟩;rw[E9,hay];rcases hop with rfl|rfl
 ·simp[eqGuard,binOp,heq,heg]
 ·simp[eqGuard,binOp,heq,heg]
theorem Aic(h:Cj N w0 X0 Y β s a w){op:BinOp}{t ty:TypeId}{x y:Operand}(ho:o.op=.binOp op t x y ty){K:PV->Option R}(hk:EZ P op t (Dd s.tm x) (Dd s.tm y) K=some r):∃v,K v=some r/\G9 P a w o Y β s v [] []:=by
 have Eo:∀v,(do eqGuard op t x y (a.eval x) (a.eval y);binOp op t (a.eval x) (a.eval y)).run P w=.ok v w->(execOp a.eval o).run P w=.ok (.value v) w:=by
  intro v hv;unfold execOp;rw[ho];simp only[Sem.run_bind] at hv ⊢;rw[hv];rfl
 unfold EZ at hk;split at hk
 ·rename_i fs hu;split at hk
  ·obtain⟨hfl,hk⟩:=A5 hk;obtain⟨xs,hx,hk⟩:=Lx hk;obtain⟨ys,hy,hk⟩:=Lx hk;obtain⟨b,hk,hr⟩:=Aaf h (.inl rfl) hu hfl hx hy hk;exact⟨_,hk,El (Eo _ (by rw[hr];rfl))⟩
  ·obtain⟨hfl,hk⟩:=A5 hk;obtain⟨xs,hx,hk⟩:=Lx hk;obtain⟨ys,hy,hk⟩:=Lx hk;obtain⟨b,hk,hr⟩:=Aaf h (.inr rfl) hu hfl hx hy hk;exact⟨_,hk,El (Eo _ (by rw[hr];rfl))⟩
  ·cases hk
 ·unfold Ato at hk;split at hk
  ·rename_i k hu;split at hk
   ·obtain⟨m,hx,hk⟩:=Hb hk;obtain⟨k2,n,hy,hk⟩:=Fb hk;obtain⟨hb,hk⟩:=A5 hk;have hb:=of_decide_eq_true hb;refine⟨_,hk,El (Eo _ ?_)⟩;have:¬n<0:=by omega
    simp[eqGuard,binOp,Op.shift,D5 h hx,D5 h hy,this]
   ·obtain⟨m,hx,hk⟩:=Hb hk;obtain⟨k2,n,hy,hk⟩:=Fb hk;obtain⟨hb,hk⟩:=A5 hk;have hb:=of_decide_eq_true hb;refine⟨_,hk,El (Eo _ ?_)⟩;have:¬n<0:=by omega
    simp[eqGuard,binOp,Op.shift,D5 h hx,D5 h hy,this]
   ·rename_i RC XT;obtain⟨m,hx,hk⟩:=Hb hk;obtain⟨n,hy,hk⟩:=Hb hk;obtain⟨v,hk,hr⟩:=Ap8 (P:=P) (w:=w) (t:=t) (x:=x) (y:=y) RC XT hk;exact⟨_,hk,El (Eo _ (by rw[D5 h hx,D5 h hy];exact hr))⟩
  ·rename_i hu;obtain⟨m,hx,hk⟩:=Fq hk;obtain⟨n,hy,hk⟩:=Fq hk;obtain⟨v,hk,hr⟩:=Aph (P:=P) (w:=w) (t:=t) (x:=x) (y:=y) hk;exact⟨_,hk,El (Eo _ (by rw[D5 h hx,D5 h hy];exact hr))⟩
  ·rename_i hu;split at hk
   ·obtain⟨m,hx,hk⟩:=Ft hk;obtain⟨n,hy,hk⟩:=Ft hk;refine⟨_,hk,El (Eo _ ?_)⟩;simp[eqGuard,binOp,D5 h hx,D5 h hy,XL hu]
   ·obtain⟨m,hx,hk⟩:=Ft hk;obtain⟨n,hy,hk⟩:=Ft hk;refine⟨_,hk,El (Eo _ ?_)⟩;simp[eqGuard,binOp,D5 h hx,D5 h hy,XL hu]
   ·cases hk
  ·rename_i e hu;have hx:=Ew h x
   have nilQ:∀{e:Bool} {K':PV->Option R},WW e (Dd s.tm x) K'=some r->∃q ad n c,K' q=some r/\a.eval x=.slice ad n c/\(q=.sc (.bool (if ad.isNone then e else !e))\/q=.ub):=by
    intro e K' hq;unfold WW at hq;split at hq
    ·rename_i e';exact⟨_,none,0,0,hq,D5 h e',.inl rfl⟩
    ·rename_i z es n c e';rcases slice_form (.inl e') hx with⟨E9,rfl,_⟩|⟨ad,cap,E9,rfl,_⟩|⟨ad,cap,E9,rfl,rfl,_⟩
     ·rcases Tz hq with⟨_,hq⟩|⟨_,hq⟩
      ·exact⟨_,none,0,0,hq,E9,.inl rfl⟩
      ·rcases Tz hq with⟨hb,_⟩|⟨_,hq⟩
       ·exact absurd (of_decide_eq_true hb) (by omega)
       ·exact⟨_,none,0,0,hq,E9,.inr rfl⟩
     ·rcases Tz hq with⟨hz,_⟩|⟨_,hq⟩
      ·cases hz
      ·rcases Tz hq with⟨_,hq⟩|⟨_,hq⟩
       ·exact⟨_,some ad,n,cap,hq,E9,.inl rfl⟩
       ·exact⟨_,some ad,n,cap,hq,E9,.inr rfl⟩
     ·rcases Tz hq with⟨hz,_⟩|⟨_,hq⟩
      ·cases hz
      ·rcases Tz hq with⟨hb,_⟩|⟨_,hq⟩
       ·exact absurd (of_decide_eq_true hb) (by omega)
       ·exact⟨_,some ad,0,cap,hq,E9,.inr rfl⟩
    ·rename_i id es off n e';rw[e'] at hx;rcases hx with⟨_,_,rfl,ad,E9⟩|⟨b,ob,y',cap,_,E9,_⟩
     ·rcases Tz hq with⟨hb,_⟩|⟨_,hq⟩
      ·exact absurd (of_decide_eq_true hb) (by omega)
      ·exact⟨_,ad,0,0,hq,E9,.inr rfl⟩
     ·rcases Tz hq with⟨_,hq⟩|⟨_,hq⟩
      ·exact⟨_,_,n,cap,hq,E9,.inl rfl⟩
      ·exact⟨_,_,n,cap,hq,E9,.inr rfl⟩
    ·cases hq
   split at hk
   ·rename_i hy;obtain⟨q,ad,n,c,hk,E9,hb⟩:=nilQ hk;rcases hb with rfl|rfl
    ·refine⟨_,hk,El (Eo _ ?_)⟩;cases ad<;>simp[eqGuard,binOp,E9,D5 h hy,FK hu]
    ·refine⟨_,hk,Df (val:=.bool ad.isNone) (Eo _ ?_) (Bd.ub _) (by intro i hi;cases hi)⟩
     simp[eqGuard,binOp,E9,D5 h hy,FK hu]
   ·rename_i hy;obtain⟨q,ad,n,c,hk,E9,hb⟩:=nilQ hk;rcases hb with rfl|rfl
    ·refine⟨_,hk,El (Eo _ ?_)⟩;cases ad<;>simp[eqGuard,binOp,E9,D5 h hy,FK hu]
    ·refine⟨_,hk,Df (val:=.bool !ad.isNone) (Eo _ ?_) (Bd.ub _) (by intro i hi;cases hi)⟩
     simp[eqGuard,binOp,E9,D5 h hy,FK hu]
   ·cases hk
  ·cases hk
end
open Go.RowKit
section
variable {R:Type}{r:R}{P:Program}{N:Nat}{w0:World}{X0:Gt}{Y:Nat->Prop}{β β':Bt}{s:St}{a:Act}{w w':World}{o:Oper}{A:Nat->Prop}
theorem DF:∀{c:Ab}{l:List UInt8},bytesOf c=some l->∃ns:B8,c=ns.map (fun n=>.sc (.int .u8 n))/\l=ns.map fun n=>n.toNat.toUInt8
 |[],l,h=>⟨[],rfl,by simp[bytesOf] at h;subst h;rfl⟩
 |p::c,l,h=>by
  unfold bytesOf at h;split at h
  ·rename_i e;cases e
  ·rename_i n r e;cases e;cases hr:bytesOf c with
   |none=>rw[hr] at h;cases h
   |some l'=>
    rw[hr] at h;simp at h;obtain⟨ns,rfl,rfl⟩:=DF hr;exact⟨n::ns,rfl,h.symm⟩
  ·cases h
theorem BV:∀(ns:B8)(b:ByteArray),ns.foldl (fun r n=>r.push (UInt8.ofNat n.toNat)) b=⟨b.data++(ns.map fun n=>n.toNat.toUInt8).toArray⟩
 |[],b=>by simp
 |n::ns,b=>by
  simp only[List.foldl_cons];rw[BV ns];simp[ByteArray.push]
theorem Ahe(h:Cj N w0 X0 Y β s a w){es:Nat}{x:Operand}{K:Nat->Ab->Option R}(hk:Aju (P7 s.hp) es (Dd s.tm x) K=some r):
  ∃n c,K n c=some r/\(((∃ad,a.eval x=.slice ad 0 0)/\n=0/\c=[])\/∃ad cap,a.eval x=.slice (some ad) n cap/\n<=cap/\(c=[]\/ad.block<w.heap.size)/\YL w (D4 s.hp β Y) ad c):=by
 have hx:=Ew h x;have YE:=H8 h x;unfold Aju at hk;split at hk
 ·rename_i id es' off n e;rw[e] at hx YE;cases hb:Nat.beq es' es
  ·rw[hb] at hk;cases hk
  ·rw[hb] at hk;obtain⟨c,hc,hk⟩:=Eh (show F3 _ _=some r from hk);obtain⟨hl,hk⟩:=A5 hk;have hl:=of_decide_eq_true hl;obtain⟨f,Apf⟩:=Acr hc;refine⟨_,_,hk,?_⟩;rcases hx with⟨_,rfl,rfl,ad,E9⟩|⟨b,ob,y,cap,hβ,E9,hy,hn,_,Cr⟩
   ·exact .inl ⟨⟨ad,E9⟩,rfl,by simp⟩
   ·refine .inr ⟨_,cap,E9,hn,.inr Cr,fun j p hj=>?_⟩
    have Aza:0<n*es:=by
     rcases Nat.eq_zero_or_pos (n*es) with h0|h0
     ·rw[h0] at hj;simp at hj
     ·exact h0
    have ST:n≠0:=by rintro rfl;simp at Aza
    have hy:y=ob+off:=by rcases hy with hy|⟨h0,_⟩<;>omega
    subst hy;rw[List.getElem?_take] at hj;split at hj
    ·rw[List.getElem?_drop] at hj;rcases h.box id _ Apf with⟨h1,_⟩|⟨b',o',h1,h2,_⟩
     ·rw[hβ] at h1;cases h1
     ·rw[hβ] at h1;simp at h1;obtain⟨rfl,rfl⟩:=h1
      obtain⟨v,hv,h3,ht⟩:=h2 (off+j) p hj;rw[Fy] at hv;exact⟨v,by rw[Fy,Sq];exact hv,h3,ht⟩
    ·cases hj
 ·obtain⟨z,n,c,hk,hp⟩:=I4 hk;refine⟨n,c,hk,?_⟩;rcases slice_form hp hx with h1|⟨ad,cap,E9,_,hn,h1,h2,_,h4⟩|⟨ad,cap,E9,_,rfl,rfl⟩
  ·exact .inl ⟨⟨none,h1.1⟩,h1.2⟩
  ·exact .inr ⟨ad,cap,E9,hn,.inr h2,h4⟩
  ·exact .inr ⟨ad,cap,E9,Nat.zero_le _,.inl rfl,fun j c hj=>by simp at hj⟩
theorem Ao0(b:ByteArray)(j:Nat)(p:PV)(h:(Ej b)[j]?=some p):∃x,b.data[j]?=some x/\p=.sc (.int .u8 x.toNat):=by
 unfold Ej at h;rw[List.getElem?_map] at h;cases hx:b.data.toList[j]? with
 |none=>rw[hx] at h;cases h
 |some x=>
  rw[hx] at h;simp at h;exact⟨x,by simpa using hx,h.symm⟩
theorem Aj4(h:Cj N w0 X0 Y β s a w){src dst:TypeId}{x:Operand}(ho:o.op=.convert src dst x){d:Nat}{K:PV->List (Nat × Cb)->Option R}(hk:TL P (P7 s.hp) d src dst (Dd s.tm x) K=some r):∃v nw,K v nw=some r/\G9 P a w o Y β s v [] nw:=by
 have Eo:∀v w',(convert src dst (a.eval x)).run P w=.ok v w'->(execOp a.eval o).run P w=.ok (.value v) w':=by
  intro v w' hv;unfold execOp;rw[ho];simp[hv]
 unfold TL at hk;split at hk
 ·rename_i k hu;obtain⟨hs,hk⟩:=A5 hk;obtain⟨k',n,hx,hk⟩:=Fb hk;exact⟨_,_,hk,El (Eo _ _ (by rw[D5 h hx];obtain⟨ds,hds⟩:=Option.isSome_iff_exists.1 hs;cases ds<;>simp[convert,run_underlying hds,run_underlying hu,Conv.intToInt]))⟩
 ·rename_i hu;split at hk
  ·rename_i hs;obtain⟨b,hx,hk⟩:=Fq hk;exact⟨_,_,hk,El (Eo _ _ (by rw[D5 h hx];simp[convert,run_underlying hs,run_underlying hu]))⟩
  ·rename_i e hs;split at hk
   ·rename_i he;obtain⟨n,c,hk,hc⟩:=Ahe h hk;obtain⟨hl,hk⟩:=A5 hk;have hl:=of_decide_eq_true hl;obtain⟨l,hb,hk⟩:=Eh hk;obtain⟨ns,rfl,rfl⟩:=DF hb;refine⟨_,_,hk,El (Eo _ _ ?_)⟩;rcases hc with⟨⟨ad,E9⟩,rfl,hn⟩|⟨ad,cap,E9,_,_,hrd⟩
    ·have:ns=[]:=by simpa using hn
     subst this;rw[E9,run_convert_bytes_string w src dst e ad 0 0 hs he hu];cases ad<;>rfl
    ·rw[E9,run_convert_bytes_string w src dst e _ _ _ hs he hu]
     have hld:(loadCells ad n).run P w=.ok (ns.map (Value.int .u8)).toArray w:=by
      have:=run_loadCells_list (P:=P) w ad (ns.map (Value.int .u8)) (fun j v hj=>by
       rw[List.getElem?_map] at hj;cases hn:ns[j]? with
       |none=>rw[hn] at hj;cases hj
       |some m=>
        rw[hn] at hj;simp at hj;subst hj;obtain⟨v,hv,_,ht⟩:=hrd j (.sc (.int .u8 m)) (by rw[List.getElem?_map,hn];rfl)
        rw[ht.val] at hv;exact hv)
      simp only[List.length_map] at this hl;rw[hl] at this;exact this
     rw[run_bytesToString w ad n cap ns hld,BV];simp
   ·cases hk
  ·cases hk
 ·rename_i e hu;split at hk
  ·rename_i he hs;obtain⟨b,hx,hk⟩:=Fq hk;obtain⟨K9,hk⟩:=A5 hk;have hr:=run_bytes_of_string (P:=P) w src dst e b hs hu he;rw[<-D5 h hx] at hr
   have SK:b.size<=grownCap w b.size 0 e:=by
    unfold grownCap;simp[Question.cut]
   have Agv:(bytesRow b (grownCap w b.size 0 e)).size=grownCap w b.size 0 e:=by
    simp only[bytesRow,Array.size_append,Array.size_map,Array.size_replicate];have:b.data.size=b.size:=rfl;omega
   refine⟨_,_,hk,Zc (c:=bytesRow b (grownCap w b.size 0 e)) (e:=e) (by simp) (Eo _ _ hr) ?_ (fun j p hj=>?_) (.inr ⟨1,b.size,grownCap w b.size 0 e,rfl,rfl,SK,by rw[Agv];omega⟩)⟩
   ·exact⟨rfl,rfl,rfl,fun i hi=>Below.heap_alloc w.drew _ i hi,by show (w.heap.push _).size=_;simp,_,by show (w.heap.push _)[w.heap.size]?=_;simp;rfl,.inr (Da _)⟩
   ·obtain⟨y,hy,rfl⟩:=Ao0 b j p hj;refine⟨.int .u8 y.toNat,?_,rfl,Bd.sc _⟩
    have Cr:j<b.data.size:=by
     rcases Mh j b.data.size with h|h
     ·exact h
     ·rw[Array.getElem?_eq_none h] at hy;cases hy
    simp only[bytesRow];rw[Array.getElem?_append_left (by simpa using Cr),Array.getElem?_map,hy];rfl
  ·cases hk
 ·cases hk
end
open Go.RowKit
section
variable {R:Type}{r:R}{P:Program}{N:Nat}{w0:World}{X0:Gt}{Y:Nat->Prop}{β β':Bt}{s:St}{a:Act}{w w':World}{o:Oper}{A:Nat->Prop}
theorem LO:∀{n:Nat}{l:Ab}{j:Nat}{c:PV},(Zi n l)[j]?=some c->j<n*l.length/\l[j % l.length]?=some c
 |0,l,j,c,h=>by simp[Zi] at h
 |n+1,l,j,c,h=>by
  have e:Zi (n+1) l=l++Zi n l:=by simp[Zi,List.replicate_succ]
  rw[e] at h;by_cases hj:j<l.length
  ·rw[List.getElem?_append_left hj] at h;refine⟨by rw[Nat.add_mul];omega,?_⟩
   rw[Nat.mod_eq_of_lt hj];exact h
  ·rw[List.getElem?_append_right (by omega)] at h;obtain⟨h1,h2⟩:=LO h;refine⟨by rw[Nat.add_mul];omega,?_⟩
   rw[Nat.mod_eq_sub_mod (by omega)];exact h2
theorem Ae2(n:Nat)(l:Ab):(Zi n l).length=n*l.length:=by
 induction n with
 |zero=>simp[Zi]
 |succ n ih=>
  have e:Zi (n+1) l=l++Zi n l:=by simp[Zi,List.replicate_succ]
  rw[e,F9,ih,Nat.add_mul];omega
theorem Ag8{z:Array Value}{n j:Nat}(hj:j<n){v:Value}(hv:z[j % z.size]?=some v):(madeCells z n)[j]?=some v:=by unfold madeCells;rw[Array.getElem?_map,Array.getElem?_range,Bn hj];simp only[Option.map_some];rw[getElem!_def,hv]
theorem Alh(h:Cj N w0 X0 Y β s a w){t:TypeId}{x y:Operand}(ho:o.op=.makeSlice t x y){d:Nat}{K:PV->Cc->List (Nat × Cb)->Option R}(hk:(match P.underlying t with
   |some (.slice e)=>Fk (Dd s.tm x) fun _ n=>Fk (Dd s.tm y) fun _ m=>
     As (decide (0<=n)&&decide (n<=m)&&decide (m*((P.info? e).map (·.bytes)).getD 0<=1099511627776)&&decide (m<=1099511627776))
      (Lh P e fun z=>K (.view d (Bw P e) 0 n.toNat) [] [(d,.ar false (Zi n.toNat z))])
   |_=>none)=some r):∃v fz nw,K v fz nw=some r/\G9 P a w o Y β s v fz nw:=by
 split at hk
 ·rename_i e hu;obtain⟨k1,n,hx,hk⟩:=Fb hk;obtain⟨k2,m,hy,hk⟩:=Fb hk;obtain⟨hb,hk⟩:=A5 hk;simp only[G6,GU] at hb;obtain⟨⟨⟨h0,hnm⟩,EK⟩,hm⟩:=hb;obtain⟨z,cs,hk,hz,hct,hl,K9,hc⟩:=W9 hk
  have hzc:∃i,P.info? e=some i/\i.zero=some z:=by
   unfold HP at hz;cases hi:P.info? e with
   |none=>rw[hi] at hz;cases hz
   |some i=>rw[hi] at hz;exact⟨i,rfl,hz⟩
  obtain⟨i,hi,hzi⟩:=hzc;have A6c:Bw P e=i.size:=by simp[Bw,hi]
  simp only[hi,Option.map_some,Option.getD_some] at EK;have hr:=run_make (P:=P) w t e i z hu hi hzi k1 k2 n m h0 hnm (by rw[Int.mul_comm];omega) (by omega)
  have Eo:(execOp a.eval o).run P w=.ok (.value (.slice (some ⟨w.heap.size,0,none⟩) n.toNat m.toNat)) (w.alloc (.cells (madeCells z.cells (m.toNat*i.size)) e)):=by
   unfold execOp;rw[ho];simp[D5 h hx,D5 h hy,hr]
  have hzl:z.cells.size=Bw P e:=by
   have:z.cells.toList.length=z.cells.size:=by simp
   omega
  refine⟨_,_,_,hk,Zc (c:=madeCells z.cells (m.toNat*i.size)) (e:=e) (by simp) Eo (J6.alloc w _ e) (fun j p hj=>?_) (.inr ⟨Bw P e,n.toNat,m.toNat,rfl,rfl,by omega,by rw[size_madeCells,A6c];exact Da _⟩)⟩
  obtain⟨h1,h2⟩:=LO hj;obtain⟨hT,u,Oo,h1',hv⟩:=hc _ p h2;refine⟨u,Ag8 ?_ ?_,h1',hv _ _⟩
  ·have:n.toNat*cs.length<=m.toNat*i.size:=by
    rw[K9,A6c];exact Nat.mul_le_mul_right _ (by omega)
   omega
  ·rw[hzl,<-K9]
   simpa using Oo
 ·cases hk
theorem Ao5{p:PV}{v:Value}(hp:okP p=true)(hv:Fe w A β p v):Ca (Cz w A β) (cellsOf p) v.cells.toList:=by
 have one:v.oneCell'=true->Cz w A β p v->(∀x,p ≠ .agg x)->Ca (Cz w A β) (cellsOf p) v.cells.toList:=by
  intro h1 h2 h3;have:cellsOf p=[p]:=by cases p<;>first|rfl|exact absurd rfl (h3 _)
  rw[this,Uh h1];exact⟨h2,trivial⟩
 unfold okP at hp;split at hp
 ·obtain⟨vs,rfl,h2⟩:=hv;exact h2
 ·refine one ?_ hv (by simp);have Wv:Bd w A _ v:=hv;cases Wv<;>rfl
 ·refine one ?_ hv (by simp);rcases hv with⟨_,_,_,_,rfl⟩|⟨_,_,_,_,_,rfl,_⟩<;>rfl
 ·have:=Ny hv;subst this;exact one rfl hv (by simp)
 ·have:=Ny hv;subst this;exact one rfl hv (by simp)
 ·have:=Ny hv;subst this;exact one rfl hv (by simp)
 ·have:=Ny hv;subst this;exact one rfl hv (by simp)
 ·cases hp
theorem Alz:∀(vs:List Value)(k off:Nat)(cells:Array Value),off+k+vs.length<=cells.size ->
  ((vs.zipIdx k).foldl (fun cs (q:Value × Nat)=>cs.setIfInBounds (off+q.2) q.1) cells).toList=cells.toList.take (off+k)++vs++cells.toList.drop (off+k+vs.length)
 |[],k,off,cells,_=>by simp
 |v::vs,k,off,cells,h=>by
  simp only[List.zipIdx_cons,List.foldl_cons,He] at h ⊢;rw[Alz vs (k+1) off _ (by simp;omega)]
  have Cr:off+k<cells.toList.length:=by simp;omega
  simp only[Array.toList_setIfInBounds];rw[show off+(k+1)=off+k+1 from by omega,List.take_succ_eq_append_getElem (by simpa using Cr)];rw[List.getElem_set_self,List.take_set_of_le (Da _),List.drop_set_of_lt (by omega)];simp only[FX,Zzp,UG];rw[show off+k+1+vs.length=off+k+(vs.length+1) from by omega]
theorem VV(h:Cj N w0 X0 Y β s a w){Kx:Nat->Option (Nat × Nat)}:∀{parts:List (Nat × Operand)} {pc:Ab}{vc:Array Value}{K:Ab->Option R},
  DA Kx (parts.map fun q=>(q.1,Dd s.tm q.2)) pc K=some r->Ca (Cz w (D4 s.hp β Y) β) pc vc.toList->(∀c∈pc,∀id∈Ba c,s.hp id≠none) ->
  ∃pc' vc',K pc'=some r/\Instr.fill Kx vc (parts.map fun q=>(q.1,a.eval q.2))=some vc'/\Ca (Cz w (D4 s.hp β Y) β) pc' vc'.toList/\pc'.length=pc.length/\∀c∈pc',∀id∈Ba c,s.hp id≠none
 |[],pc,vc,K,hk,hv,hr=>⟨pc,vc,hk,rfl,hv,rfl,hr⟩
 |(i,x)::parts,pc,vc,K,hk,hv,hr=>by
  simp only[Sn] at hk;unfold DA at hk;obtain⟨⟨off,size⟩,SO,hk⟩:=Eh hk;obtain⟨hb,hk⟩:=A5 hk;simp only[G6] at hb;obtain⟨⟨hok,K9⟩,FC⟩:=hb;have K9:(cellsOf (Dd s.tm x)).length=size:=Ez K9;have FC:off+size<=pc.length:=Ya FC;have hxc:=Ao5 hok (Ew h x);have hxl:=hxc.len;have hvl:=hv.len;have Xt:vc.toList.length=vc.size:=by simp
  have hcs:(a.eval x).cells.toList.length=(a.eval x).cells.size:=by simp
  have GB:=Alz (a.eval x).cells.toList 0 off vc (by omega);simp only[JY] at GB
  have A56:((a.eval x).cells.zipIdx.foldl (fun cs (q:Value × Nat)=>cs.setIfInBounds (off+q.2) q.1) vc).toList=vc.toList.take off++(a.eval x).cells.toList++vc.toList.drop (off+(a.eval x).cells.toList.length):=by
   rw[<-GB,<-Array.foldl_toList];simp
  obtain⟨pc',vc',hk,hf,h2,hl,hr'⟩:=VV h (pc:=B0 pc (cellsOf (Dd s.tm x)) off) (vc:=(a.eval x).cells.zipIdx.foldl (fun cs (q:Value × Nat)=>cs.setIfInBounds (off+q.2) q.1) vc) hk (by
    rw[A56,<-hxl];exact (((hv.take off).app hxc).app (hv.drop _))) (by
    intro c hc id B6;unfold B0 at hc;rcases B4.1 hc with hc|hc
    ·rcases B4.1 hc with hc|hc
     ·exact hr c (List.mem_of_mem_take hc) id B6
     ·refine H8 h x id ?_;cases hp:Dd s.tm x with
      |agg cs=>rw[hp] at hc;exact List.mem_flatMap.2 ⟨c,hc,B6⟩
      |tup cs=>rw[hp] at hc;simp[cellsOf] at hc;subst hc;cases B6
      |_=>rw[hp] at hc;simp[cellsOf] at hc;subst hc;exact B6
    ·exact hr c (List.mem_of_mem_drop hc) id B6)
  refine⟨pc',vc',hk,?_,h2,?_,hr'⟩
  ·simp only[Sn,Instr.fill,SO];rw[A4 (by simp;omega)]
   exact hf
  ·rw[hl];simp[B0];omega
theorem Afk{t:TypeId}{z:Value}{cs:Ab}(hl:cs.length=z.cells.toList.length)(hc:∀(j:Nat) c,cs[j]?=some c->GT c/\∃u,z.cells.toList[j]?=some u/\u.oneCell'=true/\∀(w:World)(A:Nat->Prop),Bd w A c u)(_ht:HP P t=some z):
  Ca (Cz w A β) cs z.cells.toList/\∀c∈cs,Ba c=[]:=by
 refine⟨Ca.of_at hl fun i c u hci hu=>?_,fun c hcm=>?_⟩
 ·obtain⟨hT,u',Oo,_,hv⟩:=hc i c hci;rw[hu] at Oo;cases Oo;exact (Se hT).2 (hv _ _)
 ·obtain⟨j,hj⟩:=List.mem_iff_getElem?.1 hcm;exact Ml (hc j c hj).1
theorem VH:∀{fs:List Field},(fs.all fun f=>WJ P f.type)=true->fs.mapM (fun f=>(P.info? f.type).map fun i=>(f.offset,i.size))=some (fs.map fun f=>(f.offset,Bw P f.type))
 |[],_=>rfl
 |f::fs,h=>by
  simp only[List.all_cons,G6] at h;obtain⟨i,hi⟩:=Option.isSome_iff_exists.1 h.1;simp[List.mapM_cons,hi,VH h.2,Bw]
theorem IA{p q:Nat->Option (Nat × Nat)}(h:∀i,p i=q i)(cells:Array Value)(parts:List (Nat × Value)):Instr.fill p cells parts=Instr.fill q cells parts:=by have:p=q:=funext h;rw[this]
theorem Afd(h:Cj N w0 X0 Y β s a w){t:TypeId}{ps:Array (Nat × Operand)}(ho:o.op=.build t ps){K:PV->Option R}(hk:(As (X4 P t&&C9 P t)<|Lh P t fun z=>DA (Z3 P t) (ps.toList.map fun q=>(q.1,Dd s.tm q.2)) z fun cs=>Xp (M5 P t) cs 0 fun cs'=>K (.agg cs'))=some r):∃v,K v=some r/\G9 P a w o Y β s v [] []:=by
 obtain⟨SO,hk⟩:=A5 hk;simp only[G6] at SO;obtain⟨SO,Jy⟩:=SO;obtain⟨z,cs,hk,hz,hct,hl,K9,hc⟩:=W9 hk;obtain⟨hzr,VD⟩:=Afk (w:=w) (A:=D4 s.hp β Y) (β:=β) hl hc hz;obtain⟨pc',vc',hk,hf,h2,Q7,hr'⟩:=VV h hk hzr (fun c hcm id B6=>by rw[VD c hcm] at B6;cases B6)
 obtain⟨qs,hk,hql,PD,hq⟩:=CV hk
 have A1t:P.built t (ps.toList.map fun q=>(q.1,a.eval q.2))=some vc':=by
  have hzi:∃i,P.info? t=some i/\i.zero=some z:=by
   unfold HP at hz;cases hi:P.info? t with
   |none=>rw[hi] at hz;cases hz
   |some i=>rw[hi] at hz;exact⟨i,rfl,hz⟩
  obtain⟨i,hi,hzi⟩:=hzi;unfold X4 at SO;unfold Program.built;split at SO
  ·rename_i fs hu
   have hf':Instr.fill (((fs.toList.map fun f=>(f.offset,Bw P f.type)).toArray)[·]?) z.cells (ps.toList.map fun q=>(q.1,a.eval q.2))=some vc':=by
    rw[<-hf];refine IA (fun j=>?_) _ _;simp[Z3,hu]
   simp only[hi,hu,hzi,VH SO];exact hf'
  ·rename_i n e hu;obtain⟨ie,hie⟩:=Option.isSome_iff_exists.1 SO
   have hf':Instr.fill (fun j=>some (j*ie.size,ie.size)) z.cells (ps.toList.map fun q=>(q.1,a.eval q.2))=some vc':=by
    rw[<-hf];refine IA (fun j=>?_) _ _;simp[Z3,hu,Bw,hie]
   simp only[hi,hu,hzi,hie];exact hf'
  ·rename_i e hu;simp[C9,hu] at Jy
  ·cases SO
 refine⟨_,hk,Df (val:=.agg vc') ?_ ⟨vc'.toList,rfl,?_⟩ ?_⟩
 ·unfold execOp;rw[ho];have:=run_build (P:=P) w t (ps.map fun q=>(q.1,a.eval q.2)) vc' (by simpa using A1t);simp[this]
 ·refine Ca.of_at (by have:=h2.len;omega) fun j c u hcj hu=>?_
  obtain⟨p,hp,_,_,II⟩:=hq j c hcj;rw[Ck] at hp;exact (II _ _ _ _ (h2.at_ hp hu)).1
 ·intro id B6;obtain⟨c,hcm,B6⟩:=List.mem_flatMap.1 (show id∈qs.flatMap Ba from B6);obtain⟨j,hj⟩:=List.mem_iff_getElem?.1 hcm;obtain⟨p,hp,_,hpr,_⟩:=hq j c hj;rw[Ck] at hp;exact hr' p (List.mem_of_getElem? hp) id (hpr id B6)
end
open Go.RowKit
section
variable {R:Type}{r:R}{P:Program}{N:Nat}{w0:World}{X0:Gt}{Y:Nat->Prop}{β β':Bt}{s:St}{a:Act}{w w':World}{o:Oper}{A:Nat->Prop}
theorem Ajt(h:Cj N w0 X0 Y β s a w){fz:Cc}(PB:∀id∈fz,∃f c,s.hp id=some (.ar f c)){id:Nat}(hm:id∈fz){f:Bool}{c:Ab}(hb:s.hp id=some (.ar f c)){b ob:Nat}(hβ:β id=some (b,ob)):
  ¬D4 (Al s.hp fz) β Y b/\YL w (D4 (Al s.hp fz) β Y) ⟨b,ob,none⟩ c/\b<w.heap.size:=by
 have hf:=h.freeze PB;have he:Al s.hp fz id=some (.ar true c):=by rw[C5,Bn hm,hb];rfl
 rcases hf.box id _ he with⟨h1,_⟩|⟨b',o',h1,h2,_,h4⟩
 ·rw[hβ] at h1;cases h1
 ·rw[hβ] at h1;simp at h1;obtain⟨rfl,rfl⟩:=h1;exact⟨h4 rfl,h2,h.blt id b ob (by rw[hb];simp) hβ⟩
theorem Aoy(h:Cj N w0 X0 Y β s a w){fz:Cc}(PB:∀id∈fz,∃f c,s.hp id=some (.ar f c)){id es off n:Nat}(hm:id∈fz){f:Bool}{c:Ab}(hb:s.hp id=some (.ar f c)){v:Value}(hv:Cz w (D4 s.hp β Y) β (.view id es off n) v):Bd w (D4 (Al s.hp fz) β Y) (.lst false es n ((c.drop off).take (n*es))) v:=by
 rcases hv with⟨_,rfl,rfl,ad,rfl⟩|⟨b,ob,y,cap,hβ,rfl,hy,hn,_,Cr⟩
 ·simp only[Nat.zero_mul,List.take_zero];cases ad with
  |none=>exact Bd.lnil false es
  |some p=>exact Bd.lemp es p 0
 ·obtain⟨h1,h2,_⟩:=Ajt h PB hm hb hβ;by_cases ST:n*es=0
  ·rw[ST,List.take_zero];exact Bd.lst es n [] ⟨b,y,none⟩ cap (fun _=>undef) rfl Cr h1 hn (by simp) (by simp) (by simp)
  ·have hy:y=ob+off:=by
    rcases hy with hy|⟨h0,_⟩
    ·exact hy
    ·rw[h0] at ST;simp at ST
   subst hy
   have hcell:∀(j:Nat) q,((c.drop off).take (n*es))[j]?=some q->c[off+j]?=some q:=by
    intro j q hq;rw[List.getElem?_take] at hq;split at hq
    ·rw[List.getElem?_drop] at hq;exact hq
    ·cases hq
   refine Bd.lst es n _ ⟨b,ob+off,none⟩ cap (fun j=>(w.cell? ⟨b,ob+off+j,none⟩).getD undef) rfl Cr h1 hn (fun j q hq=>?_) (fun j q hq=>?_) (fun j q hq=>?_)
   ·obtain⟨v,hv,_⟩:=h2 _ q (hcell j q hq);rw[Fy,<-Sq] at hv;rw[Fy,hv];rfl
   ·obtain⟨v,hv,h3,_⟩:=h2 _ q (hcell j q hq);rw[Fy,<-Sq] at hv;rw[hv];exact h3
   ·obtain⟨v,hv,_,ht⟩:=h2 _ q (hcell j q hq);rw[Fy,<-Sq] at hv;rw[hv];exact ht
theorem Bd.zf{A:Nat->Prop}{z:Bool}{es n:Nat}{c:Ab}{v:Value}(h:Bd w A (.lst z es n c) v):Bd w A (.lst false es n c) v:=by
 cases h with
 |lnil=>exact .lnil _ _
 |lemp=>exact .lemp _ _ _
 |lst _ _ _ a cap f hs hb hA hn hc h1 hr=>exact .lst _ _ _ a cap f hs hb hA hn hc h1 hr
theorem UQ(h:Cj N w0 X0 Y β s a w){t:CT}{p:PV}{K:PV->Cc->Option R}(hk:Wa (P7 s.hp) t p K=some r):
  ∃c m,K c m=some r/\GT c/\YX p/\(∀id∈m,∃f cc,s.hp id=some (.ar f cc))/\∀fz:Cc,(∀id∈m,id∈fz)->(∀id∈fz,∃f cc,s.hp id=some (.ar f cc))->∀v,Cz w (D4 s.hp β Y) β p v->Bd w (D4 (Al s.hp fz) β Y) c v/\v.oneCell'=true:=by
 have tree:∀t',(NM t' p fun c=>K c [])=some r->∃c m,K c m=some r/\GT c/\YX p/\(∀id∈m,∃f cc,s.hp id=some (.ar f cc))/\∀fz:Cc,(∀id∈m,id∈fz)->(∀id∈fz,∃f cc,s.hp id=some (.ar f cc))->∀v,Cz w (D4 s.hp β Y) β p v->Bd w (D4 (Al s.hp fz) β Y) c v/\v.oneCell'=true:=by
  intro t' hk;obtain⟨c,hk,hT,WN,hv⟩:=To hk;refine⟨c,[],hk,hT,AV WN,by simp,fun fz _ PB v II=>?_⟩;obtain⟨h1,h2⟩:=hv _ _ _ _ II;exact⟨h1.step (C6.refl _ _) (fun b _ hb=>hb.imp Yp id),h2⟩
 cases t with
 |sl es=>
  unfold Wa at hk;dsimp only at hk;split at hk
  ·rename_i id es' off n;cases hb:Nat.beq es' es
   ·rw[hb] at hk;cases hk
   ·rw[hb] at hk;have:=Ez hb;subst this;obtain⟨c,hc,hk⟩:=Eh (show F3 _ _=some r from hk);obtain⟨_,hk⟩:=A5 hk;obtain⟨f,P4⟩:=Acr hc;refine⟨_,[id],hk,trivial,trivial,?_,fun fz hm PB v hv=>⟨Aoy h PB (hm id (by simp)) P4 hv,?_⟩⟩
    ·intro i hi;simp at hi;subst hi;exact⟨f,c,P4⟩
    ·rcases hv with⟨_,_,_,_,rfl⟩|⟨_,_,_,_,_,rfl,_⟩<;>rfl
  ·obtain⟨z,n,c,hk,hp⟩:=I4 hk;refine⟨_,[],hk,trivial,?_,by simp,fun fz _ PB v II=>?_⟩
   ·rcases hp with rfl|⟨rfl,_⟩<;>trivial
   ·have ht:=IM hp II;refine⟨Bd.zf (ht.step (C6.refl _ _) (fun b _ hb=>hb.imp Yp id)),?_⟩;cases ht<;>rfl
 |int k=>exact tree (.int k) hk
 |bool=>exact tree .bool hk
 |str=>exact tree .str hk
 |any=>exact tree .any hk
theorem Y9(h:Cj N w0 X0 Y β s a w):∀{ts:List CT}{ps:Ab}{K:Ab->Cc->Option R},U0 (P7 s.hp) ts ps K=some r ->
  ∃cs m,K cs m=some r/\cs.length=ts.length/\ps.length=ts.length/\(∀c∈cs,GT c)/\(∀p∈ps,YX p)/\(∀id∈m,∃f cc,s.hp id=some (.ar f cc)) /\
   ∀fz:Cc,(∀id∈m,id∈fz)->(∀id∈fz,∃f cc,s.hp id=some (.ar f cc))->∀vs,Ca (Cz w (D4 s.hp β Y) β) ps vs->Ca (Bd w (D4 (Al s.hp fz) β Y)) cs vs/\∀v∈vs,v.oneCell'=true
 |[],[],K,hk=>⟨[],[],hk,rfl,rfl,by simp,by simp,by simp,fun fz _ _ vs hv=>by
   cases vs with
   |nil=>exact⟨trivial,by simp⟩
   |cons v vs=>exact hv.elim⟩
 |[],_::_,K,hk=>by cases hk
 |_::_,[],K,hk=>by cases hk
 |t::ts,p::ps,K,hk=>by
  unfold U0 at hk;obtain⟨c,m,hk,hT,hF,hm,hv⟩:=UQ h hk;obtain⟨cs,ms,hk,hl,Q7,hTs,hFs,XA,Xt⟩:=Y9 h hk;refine⟨c::cs,m++ms,hk,by simp[hl],by simp[Q7],?_,?_,?_,fun fz hfm PB vs h2=>?_⟩
  ·intro x hx;rcases B7.1 hx with rfl|hx
   ·exact hT
   ·exact hTs x hx
  ·intro x hx;rcases B7.1 hx with rfl|hx
   ·exact hF
   ·exact hFs x hx
  ·intro x hx;rcases B4.1 hx with hx|hx
   ·exact hm x hx
   ·exact XA x hx
  ·cases vs with
   |nil=>exact h2.elim
   |cons v vs=>
    obtain⟨h3,h4⟩:=hv fz (fun i hi=>hfm i (by simp[hi])) PB v h2.1;obtain⟨h5,h6⟩:=Xt fz (fun i hi=>hfm i (by simp[hi])) PB vs h2.2;refine⟨⟨h3,h5⟩,?_⟩;intro x hx;rcases B7.1 hx with rfl|hx
    ·exact h4
    ·exact h6 x hx
theorem An3{R':PV->Value->Prop}{cs:Ab}{z:Array Value}(h:Ca R' cs z.toList)(n:Nat):Ca R' (Zi n cs) (madeCells z (n*cs.length)).toList:=by
 have hzl:z.size=cs.length:=by have:=h.len;simp at this;exact this.symm
 refine Ca.of_at ?_ fun j c v hc hv=>?_
 ·rw[Ae2];simp[size_madeCells]
 ·obtain⟨h1,h2⟩:=LO hc
  have Cr:j % cs.length<cs.length:=by
   rcases Mh (j % cs.length) cs.length with h|h
   ·exact h
   ·rw[List.getElem?_eq_none h] at h2;cases h2
  obtain⟨u,hu,hcu⟩:=h.get h2;have:(madeCells z (n*cs.length))[j]?=some u:=Ag8 h1 (by rw[hzl];simpa using hu)
  have Wv:(madeCells z (n*cs.length))[j]?=some v:=by simpa using hv
  rw[this] at Wv;cases Wv;exact hcu
theorem PL(h:Cj N w0 X0 Y β s a w){t:TypeId}{n:Nat}{ps:Array (Nat × Operand)}(ho:o.op=.buildSlice t n ps){d:Nat}{K:PV->Cc->List (Nat × Cb)->Option R}(hk:(match P.underlying t with
   |some (.slice e)=>As (X4 P t&&Nat.ble (n*Bw P e) 16777216) (Lh P e fun z=>DA (Z3 P t) (ps.toList.map fun q=>(q.1,Dd s.tm q.2)) (Zi n z) fun cs=>
     U0 (P7 s.hp) (List.replicate n (M5 P e)).flatten cs fun cs' m=>K (.view d (Bw P e) 0 n) m [(d,.ar false cs')])
   |_=>none)=some r):∃v fz nw,K v fz nw=some r/\G9 P a w o Y β s v fz nw:=by
 split at hk
 ·rename_i e hu;obtain⟨hb,hk⟩:=A5 hk;simp only[G6] at hb;have FC:n*Bw P e<=16777216:=Ya hb.2;have Xq:(P.info? e).isSome=true:=by have:=hb.1;unfold X4 at this;rw[hu] at this;exact this
  obtain⟨z,cs,hk,hz,hct,hl,K9,hc⟩:=W9 hk;obtain⟨hzr,VD⟩:=Afk (w:=w) (A:=D4 s.hp β Y) (β:=β) hl hc hz;have Bbp:=An3 hzr n
  obtain⟨pc',vc',hk,hf,h2,Q7,hr'⟩:=VV h hk Bbp (fun c hcm id B6=>by
   obtain⟨j,hj⟩:=List.mem_iff_getElem?.1 hcm;obtain⟨_,hg⟩:=LO hj;rw[VD c (List.mem_of_getElem? hg)] at B6;cases B6)
  obtain⟨qs,m,hk,hql,SO,hqT,_,hm,hqv⟩:=Y9 h hk;obtain⟨h3,h3'⟩:=hqv m (fun _ hi=>hi) hm _ h2
  have hf':Instr.fill (fun i=>some (i*Bw P e,Bw P e)) (madeCells z.cells (n*cs.length)) (ps.toList.map fun q=>(q.1,a.eval q.2))=some vc':=by
   rw[<-hf];refine IA (fun i=>?_) _ _;simp[Z3,hu]
  have hvl:vc'.size=n*Bw P e:=by
   have h4:=h2.len;rw[Q7,Ae2] at h4;simp at h4;rw[<-h4,K9]
  have Eo:(execOp a.eval o).run P w=.ok (.value (.slice (some ⟨w.heap.size,0,none⟩) n n)) (w.alloc (.cells vc' e)):=by
   unfold execOp;rw[ho];have A8w:¬(n*Bw P e>2 ^ 24):=by omega
   rw[K9] at hf';by_cases ST:n*Bw P e=0
   ·simp only[Instr.buildSlice,Sem.run_bind,run_underlying hu,Result.andThen_ok,Em Xq,A4 A8w,ST];rw[ST] at hf';have e0:madeCells z.cells 0=(Array.range 0).map (fun _=>default):=by simp[madeCells]
    rw[e0] at hf';simp[hf',newRow]
   ·simp only[Instr.buildSlice,Sem.run_bind,run_underlying hu,Result.andThen_ok,Em Xq,A4 A8w,A4 ST,GV hz];unfold madeCells at hf';simp[hf',newRow]
  refine⟨_,_,_,hk,Zc (c:=vc') (e:=e) hm Eo (J6.alloc w vc' e) (fun j p hj=>?_) (.inr ⟨Bw P e,n,n,rfl,rfl,Da _,by rw[hvl];exact Da _⟩)⟩
  obtain⟨u,Oo,hp⟩:=h3.get hj;exact⟨u,by simpa using Oo,h3' u (List.mem_of_getElem? Oo),hp⟩
 ·cases hk
end
end
end
end Go.Proofs.YtpogefhpiaaliaaGreatDoor.Pv
