/-
  The proof of MetadataDecodes, part 1.
-/
import Derived.Orders
import Derived.LoopN
import Derived.Below
import Derived.Lib.ValidU
import Derived.Lib.Bytealg
import Derived.IntWalk
import Derived.WalkKit
import Derived.WalkLawsBesides
import Derived.Laws.IdiomStrings
import Derived.Laws.MakeOwn
import Derived.Laws.Tables
set_option linter.unusedSimpArgs false
set_option linter.unusedVariables false
namespace Go.Proofs.YtpogefhpiaaliaaGreatDoor.Pv
set_option maxRecDepth 1000000
noncomputable section
theorem Cv:type_of% @Bool.not_true:=@Bool.not_true
theorem Ev:type_of% @Bool.not_false:=@Bool.not_false
theorem Df:type_of% @Nat.mul_one:=@Nat.mul_one
theorem Cm:type_of% @Nat.zero_add:=@Nat.zero_add
theorem Es:type_of% @List.drop_zero.{0}:=@List.drop_zero
theorem Gv:type_of% @List.take_of_length_le.{0}:=@List.take_of_length_le
theorem Fw:type_of% @List.length_append.{0}:=@List.length_append
theorem Vx:type_of% @List.length_nil.{0}:=@List.length_nil
theorem G7:type_of% @List.length_cons.{0}:=@List.length_cons
theorem H0:type_of% @Int.toNat_natCast:=@Int.toNat_natCast
theorem A5:type_of% @if_neg.{1}:=@if_neg
theorem Bq:type_of% @if_pos.{1}:=@if_pos
theorem Zzm:type_of% @Bool.true_and:=@Bool.true_and
theorem Zzp:type_of% @List.cons_append.{0}:=@List.cons_append
theorem SR:type_of% @List.nil_append.{0}:=@List.nil_append
theorem JF:type_of% @Nat.add_zero:=@Nat.add_zero
theorem Zzs:type_of% @Bool.false_and:=@Bool.false_and
theorem FC:type_of% @List.append_assoc.{0}:=@List.append_assoc
theorem Sf:type_of% @List.map_cons.{0,0}:=@List.map_cons
theorem G8:type_of% @Bool.and_eq_true:=@Bool.and_eq_true
theorem MR:type_of% @decide_eq_true_eq:=@decide_eq_true_eq
theorem Et:type_of% @Nat.eq_of_beq_eq_true:=@Nat.eq_of_beq_eq_true
theorem B6:type_of% @List.mem_cons.{0}:=@List.mem_cons
theorem Bz:type_of% @List.mem_append.{0}:=@List.mem_append
theorem Jr:type_of% @List.flatMap_cons.{0,0}:=@List.flatMap_cons
theorem Xh:type_of% @List.mem_singleton_self.{0}:=@List.mem_singleton_self
theorem Jm:type_of% @Nat.lt_of_lt_of_le:=@Nat.lt_of_lt_of_le
theorem Sh:type_of% @List.mem_cons_of_mem.{0}:=@List.mem_cons_of_mem
theorem Xx:type_of% @Nat.le_of_ble_eq_true:=@Nat.le_of_ble_eq_true
theorem Mi:type_of% @Nat.lt_or_ge:=@Nat.lt_or_ge
theorem Mv:type_of% @List.mem_singleton.{0}:=@List.mem_singleton
theorem C9:type_of% @Nat.le_refl:=@Nat.le_refl
theorem Sb:type_of% @Nat.add_assoc:=@Nat.add_assoc
theorem Pu:type_of% @Nat.beq_refl:=@Nat.beq_refl
theorem LU:type_of% @List.mem_cons_self.{0}:=@List.mem_cons_self
theorem SP:type_of% @decide_eq_false_iff_not:=@decide_eq_false_iff_not
theorem Aem:type_of% @not_false_eq_true:=@not_false_eq_true
theorem Ie:type_of% @List.not_mem_nil.{0}:=@List.not_mem_nil
inductive PV where
 |sc (v:Value)
 |lst (z:Bool) (es n:Nat) (cells:List PV)
 |own (es n:Nat) (cells:List PV)
 |view (id es off n:Nat)
 |ptr (id off:Nat)
 |iptr (cells:List PV) (off:Nat)
 |pbox (cells:List PV)
 |agg (cells:List PV)
 |tup (vs:List PV)
 |top
 |ub
abbrev Ab:=List PV
abbrev Ca:=List Int
abbrev Cc:=List Nat
inductive Cb where
 |st (cells:Ab)
 |ar (fz:Bool) (cells:Ab)
 |mv
structure St where
 tm:Nat->PV
 hp:Nat->Option Cb
structure D0 where
 vals:Ab
 outs:List Ab
structure Kk where
 shr:FuncId->Bool
 mvd:FuncId->Nat->Bool
 lnd:FuncId->Nat->Bool
 kz:FuncId->Bool
 ext:FuncId->Option (Ab->Option D0)
def Kk.core(C:Kk):Kk:={ C with ext:=fun _=>none }
def Dz{α:Type}(f:Nat->α)(i:Nat)(v:α):Nat->α:=fun j=>bif Nat.beq j i then v else f j
def rd(hp:Nat->Option Cb)(id:Nat):Option Ab:=
 match hp id with
 |some (.st c)=>some c
 |some (.ar _ c)=>some c
 |_=>none
def Pw(hp:Nat->Option Cb)(id:Nat):Option Ab:=
 match hp id with
 |some (.ar _ c)=>some c
 |_=>none
inductive CT where
 |int (k:IntKind)
 |bool
 |str
 |sl (es:Nat)
 |any
def Bw(P:Program)(t:TypeId):Nat:=((P.info? t).map (·.size)).getD 0
def Dd(P:Program)(t:TypeId):Bool:=
 match P.underlying t with
 |some (.struct _)=>true
 |some (.array _ _)=>true
 |_=>false
def A1p(P:Program):Nat->TypeId->List CT
 |0,_=>[]
 |d+1,t=>
  match P.underlying t with
  |some (.int k)=>[.int k]
  |some .bool=>[.bool]
  |some .string=>[.str]
  |some (.slice e)=>[.sl (Bw P e)]
  |some (.struct fs)=>fs.toList.flatMap fun f=>A1p P d f.type
  |some (.array n e)=>(List.replicate n (A1p P d e)).flatten
  |_=>[.any]
abbrev M0(P:Program)(t:TypeId):List CT:=A1p P 9 t
def Nx(P:Program)(t:TypeId):Bool:=(P.underlying t).isSome&&Nat.beq (M0 P t).length (Bw P t)
abbrev Qg(k:IntKind)(a b:Int):Int:=k.wrap (BitVec.ofInt k.bits a &&& BitVec.ofInt k.bits b).toNat
abbrev XH(k:IntKind)(a b:Int):Int:=k.wrap (BitVec.ofInt k.bits a ||| BitVec.ofInt k.bits b).toNat
abbrev Fi(k:IntKind)(a b:Int):Int:=k.wrap (BitVec.ofInt k.bits a ^^^ BitVec.ofInt k.bits b).toNat
abbrev Ay1(k:IntKind)(a b:Int):Int:=k.wrap (BitVec.ofInt k.bits a &&& ~~~BitVec.ofInt k.bits b).toNat
abbrev Hm(k:IntKind)(a b:Int):Int:=k.wrap (a*2 ^ (min b.toNat k.bits))
abbrev F2(k:IntKind)(a b:Int):Int:=a.fdiv (2 ^ (min b.toNat k.bits))
abbrev A7k(k:IntKind)(n:Int):Int:=k.wrap (BitVec.ofInt k.bits (if k.signed then -1 else k.max) ^^^ BitVec.ofInt k.bits n).toNat
section
variable {R:Type}
def Be(k:IntKind)(p:PV)(K:Int->Option R):Option R:=
 match p with
 |.sc (.int k' n)=>if k'=k then K n else none
 |_=>none
def Cg(p:PV)(K:Bool->Option R):Option R:=
 match p with
 |.sc (.bool b)=>K b
 |_=>none
def D8(p:PV)(K:ByteArray->Option R):Option R:=
 match p with
 |.sc (.string s)=>K s
 |_=>none
def Pq(es:Nat)(p:PV)(K:Bool->Nat->Ab->Option R):Option R:=
 match p with
 |.lst z es' n c=>bif Nat.beq es' es then K z n c else none
 |.sc (.slice none 0 0)=>K true 0 []
 |_=>none
def fsK(es:Nat)(p:PV)(K:PV->Option R):Option R:=
 match p with
 |.view id es' off n=>bif Nat.beq es' es then K (.view id es off n) else none
 |p=>Pq es p fun z n c=>K (.lst z es n c)
def Je(es:Nat)(p:PV)(K:Nat->Ab->Option R):Option R:=
 match p with
 |.own es' n c=>bif Nat.beq es' es then K n c else none
 |_=>none
def As(b:Bool)(K:Option R):Option R:=bif b then K else none
abbrev Aa{α:Type}(x:α)(K:α->Option R):Option R:=K x
def YD(b:Bool)(x y:Option R):Option R:=bif b then x else y
abbrev A90(x:Nat)(K:Nat->Option R):Option R:=K x
def Aq2(x:List Cc)(K:List Cc->Option R):Option R:=K x
def A3(b:Bool)(x y:Option R):Option R:=bif b then x else y
def F3{α:Type}(o:Option α)(K:α->Option R):Option R:=
 match o with
 |some a=>K a
 |none=>none
def Av{α:Type}(l:List α)(K:α->List α->Option R):Option R:=
 match l with
 |a::r=>K a r
 |[]=>none
def Aq{α:Type}(l:List α)(K:Option R):Option R:=
 match l with
 |[]=>K
 |_::_=>none
def Dr(p:PV)(K:Ab->Option R):Option R:=
 match p with
 |.agg c=>K c
 |_=>none
def GA(p:PV)(K:Ab->Option R):Option R:=
 match p with
 |.pbox c=>K c
 |_=>none
def Bk(r:Option D0)(K:Ab->List Ab->Option R):Option R:=
 match r with
 |some ⟨v,o⟩=>K v o
 |none=>none
def fnK(p:PV)(K:Value->Option R):Option R:=
 match p with
 |.sc (.func f a b)=>K (.func f a b)
 |_=>none
def fvK(p:PV)(K:FuncId->Option R):Option R:=
 match p with
 |.sc (.func (.func f) a b)=>bif a.isEmpty&&b.isEmpty then K f else none
 |_=>none
def NM(t:CT)(p:PV)(K:PV->Option R):Option R:=
 match t with
 |.int k=>Be k p fun n=>K (.sc (.int k n))
 |.bool=>Cg p fun b=>K (.sc (.bool b))
 |.str=>D8 p fun s=>K (.sc (.string s))
 |.sl es=>Pq es p fun z n c=>K (.lst z es n c)
 |.any=>fnK p fun v=>K (.sc v)
def fcK(t:CT)(p:PV)(K:PV->Option R):Option R:=
 match t with
 |.sl es=>fsK es p K
 |t=>NM t p K
def DS:List CT->Ab->Nat->(Ab->Option R)->Option R
 |[],_,_,K=>K []
 |t::ts,cells,off,K=>NM t (cells.getD off .top) fun c=>DS ts cells (off+1) fun r=>K (c::r)
def Xj:List CT->Ab->Nat->(Ab->Option R)->Option R
 |[],_,_,K=>K []
 |t::ts,cells,off,K=>fcK t (cells.getD off .top) fun c=>Xj ts cells (off+1) fun r=>K (c::r)
def mkV(agg:Bool)(cells:Ab)(K:PV->Option R):Option R:=
 bif agg then K (.agg cells) else Av cells fun c r=>Aq r (K c)
def cellsOf:PV->Ab
 |.agg c=>c
 |p=>[p]
def cvK(P:Program)(t:TypeId)(v:Value)(K:PV->Option R):Option R:=
 match v with
 |.agg cs=>As (Nat.beq cs.toList.length (M0 P t).length) (DS (M0 P t) (cs.toList.map .sc) 0 fun c=>K (.agg c))
 |.slice none 0 0=>
  match P.underlying t with
  |some (.slice e)=>K (.lst true (Bw P e) 0 [])
  |_=>none
 |v=>K (.sc v)
end
def Db(tm:Nat->PV):Operand->PV
 |.tmp t=>tm t
 |.const (.agg cs)=>.agg (cs.toList.map .sc)
 |.const v=>.sc v
 |.func f=>.sc (.func (.func f) #[] #[])
 |.global g=>.sc (.pointer (some ⟨g,0,none⟩))
section
variable {R:Type}
def Fk(p:PV)(K:IntKind->Int->Option R):Option R:=
 match p with
 |.sc (.int k n)=>K k n
 |_=>none
def Ai0(rdf:Nat->Option Ab)(es:Nat)(p:PV)(K:Nat->Ab->Option R):Option R:=
 match p with
 |.view id es' off n=>bif Nat.beq es' es then F3 (rdf id) fun c=>As (decide (off+n*es<=c.length)) (K n ((c.drop off).take (n*es))) else none
 |p=>Pq es p fun _ n c=>K n c
def V0(rdf:Nat->Option Ab)(t:CT)(p:PV)(K:PV->Cc->Option R):Option R:=
 match t with
 |.sl es=>
  match p with
  |.view id es' off n=>bif Nat.beq es' es then F3 (rdf id) fun c=>As (decide (off+n*es<=c.length)) (K (.lst false es n ((c.drop off).take (n*es))) [id]) else none
  |p=>Pq es p fun _ n c=>K (.lst false es n c) []
 |t=>NM t p fun c=>K c []
def Vv(rdf:Nat->Option Ab):List CT->Ab->(Ab->Cc->Option R)->Option R
 |[],[],K=>K [] []
 |t::ts,p::ps,K=>V0 rdf t p fun c m=>Vv rdf ts ps fun cs ms=>K (c::cs) (m++ms)
 |_,_,_=>none
def Aiz(P:Program)(rdf:Nat->Option Ab)(t:TypeId)(p:PV)(K:PV->Cc->Option R):Option R:=
 bif Dd P t then Dr p fun ps=>Vv rdf (M0 P t) ps fun cs m=>K (.agg cs) m
 else Vv rdf (M0 P t) [p] fun cs m=>Av cs fun c r=>Aq r (K c m)
def WJ(P:Program)(rdf:Nat->Option Ab):List TypeId->Ab->(Ab->Cc->Option R)->Option R
 |[],[],K=>K [] []
 |t::ts,p::ps,K=>Aiz P rdf t p fun v m=>WJ P rdf ts ps fun vs ms=>K (v::vs) (m++ms)
 |_,_,_=>none
def Au2(shr:Bool)(id:Nat)(t:CT)(p:PV)(K:PV->List (Nat × Cb)->Option R):Option R:=
 match t with
 |.sl es=>bif shr then Pq es p fun _ n c=>K (.lst false es n c) [] else Je es p fun n c=>K (.view id es 0 n) [(id,.ar false c)]
 |t=>NM t p fun c=>K c []
def Y3(shr:Bool)(N:Nat):Nat->List CT->Ab->(Ab->List (Nat × Cb)->Option R)->Option R
 |_,[],ps,K=>Aq ps (K [] [])
 |id,t::ts,ps,K=>Av ps fun p ps=>Au2 shr id t p fun c b=>Y3 shr N (id+N) ts ps fun cs bs=>K (c::cs) (b++bs)
def MP(P:Program)(t:TypeId):Option TypeId:=
 match P.underlying t with
 |some (.pointer e)=>some e
 |_=>none
def Afk(P:Program)(t:TypeId):Nat:=
 match MP P t with
 |some e=>1+(M0 P e).length
 |none=>(M0 P t).length
def Anv(P:Program)(shr:Bool)(N:Nat)(id:Nat)(t:TypeId)(p:PV)(K:PV->List (Nat × Cb)->Option R):Option R:=
 match MP P t with
 |some e=>GA p fun ps=>Y3 shr N (id+N) (M0 P e) ps fun cs bs=>K (.ptr id 0) ((id,.st cs)::bs)
 |none=>
 bif Dd P t then Dr p fun ps=>Y3 shr N id (M0 P t) ps fun cs bs=>K (.agg cs) bs
 else Y3 shr N id (M0 P t) [p] fun cs bs=>Av cs fun c r=>Aq r (K c bs)
def PG(P:Program)(shr:Bool)(N:Nat):Nat->List TypeId->Ab->(Ab->List (Nat × Cb)->Option R)->Option R
 |_,[],ps,K=>Aq ps (K [] [])
 |id,t::ts,ps,K=>Av ps fun p ps=>Anv P shr N id t p fun v bs=>PG P shr N (id+N*Afk P t) ts ps fun vs bs'=>K (v::vs) (bs++bs')
def Ve(P:Program)(t:TypeId):List TypeId:=
 match P.underlying t with
 |some (.tuple ts)=>ts.toList
 |_=>[t]
def Ul(vs:Ab)(t:Bool):PV:=bif t then .tup vs else vs.headD .top
def Ww(P:Program)(t:TypeId):Bool:=
 match P.underlying t with
 |some (.tuple _)=>true
 |_=>false
def Axl(op:BinOp)(a b:Int)(K:Bool->Option R):Option R:=
 match op with
 |.eql=>K (a==b)
 |.neq=>K (a != b)
 |.lss=>K (decide (a<b))
 |.leq=>K (decide (a<=b))
 |.gtr=>K (decide (a>b))
 |.geq=>K (decide (a>=b))
 |_=>none
def UL(op:BinOp)(k:IntKind)(a b:Int)(K:PV->Option R):Option R:=
 match op with
 |.add=>Aa ((k.wrap (a+b))) fun n=>K (.sc (.int k n))
 |.sub=>Aa ((k.wrap (a-b))) fun n=>K (.sc (.int k n))
 |.mul=>Aa ((k.wrap (a*b))) fun n=>K (.sc (.int k n))
 |.quo=>As (decide (b≠0)) (Aa ((k.wrap (a.tdiv b))) fun n=>K (.sc (.int k n)))
 |.rem=>As (decide (b≠0)) (Aa ((a.tmod b)) fun n=>K (.sc (.int k n)))
 |.and=>Aa (Qg k a b) fun n=>K (.sc (.int k n))
 |.or=>Aa (XH k a b) fun n=>K (.sc (.int k n))
 |.xor=>Aa (Fi k a b) fun n=>K (.sc (.int k n))
 |.andNot=>Aa (Ay1 k a b) fun n=>K (.sc (.int k n))
 |op=>Axl op a b fun r=>K (.sc (.bool r))
def WU(op:BinOp)(x y:ByteArray)(K:PV->Option R):Option R:=
 match op with
 |.add=>As (decide (x.size+y.size<=9223372036854775807)) (Aa (x++y) fun s=>K (.sc (.string s)))
 |.eql=>K (.sc (.bool (x.data.toList==y.data.toList)))
 |.neq=>K (.sc (.bool !(x.data.toList==y.data.toList)))
 |.lss=>K (.sc (.bool (Op.bytesLess x.data.toList y.data.toList)))
 |.leq=>K (.sc (.bool (Op.bytesLess x.data.toList y.data.toList||x.data.toList==y.data.toList)))
 |.gtr=>K (.sc (.bool !(Op.bytesLess x.data.toList y.data.toList||x.data.toList==y.data.toList)))
 |.geq=>K (.sc (.bool !(Op.bytesLess x.data.toList y.data.toList)))
 |_=>none
def VC(e:Bool)(p:PV)(K:PV->Option R):Option R:=
 match p with
 |.sc (.slice none 0 0)=>K (.sc (.bool e))
 |.lst z _ n _=>A3 z (K (.sc (.bool e))) (A3 (decide (0<n)) (K (.sc (.bool !e))) (K .ub))
 |.view _ _ _ n=>A3 (decide (0<n)) (K (.sc (.bool !e))) (K .ub)
 |_=>none
def Afe(P:Program):List Field->Nat->Bool
 |[],_=>true
 |f::r,i=>Nat.beq f.offset i&&(f.name != "_")&&(match P.underlying f.type with|some (.int _)=>true|some .bool=>true|some .string=>true|_=>false)&&Afe P r (i+1)
def Vw(P:Program):List Field->Nat->Bool
  |[],_=>true
  |f::r,i=>Nat.beq f.offset i&&(f.name != "_") &&
    (match P.underlying f.type with
     |some (.int _)=>Vw P r (i+1)
     |some .bool=>Vw P r (i+1)
     |some .string=>Vw P r (i+1)
     |some (.struct gs)=>Afe P gs.toList 0 && !P.stoodInHeld f.type&&(P.info? f.type).isSome&&Nat.beq (Bw P f.type) gs.size&&Vw P r (i+gs.size)
     |_=>false)
def Adq(P:Program)(t:TypeId)(fs:Array Field):Bool:=Vw P fs.toList 0 && !P.stoodInHeld t && !P.eqGuardType P.depth t
def fty(P:Program)(f:Field):CT:=
 match P.underlying f.type with
 |some (.int k)=>.int k
 |some .bool=>.bool
 |some .string=>.str
 |_=>.any
def Ahm(P:Program)(f:Field):List CT:=
 match P.underlying f.type with
 |some (.struct gs)=>gs.toList.map (fty P)
 |_=>[fty P f]
def GD(P:Program):List Field->List CT
 |[]=>[]
 |f::r=>Ahm P f++GD P r
def Rv:List CT->Ab->Ab->(Bool->Option R)->Option R
 |[],[],[],K=>K true
 |.int k::ts,p::ps,q::qs,K=>Be k p fun a=>Be k q fun b=>Rv ts ps qs fun r=>K ((a==b)&&r)
 |.bool::ts,p::ps,q::qs,K=>Cg p fun a=>Cg q fun b=>Rv ts ps qs fun r=>K ((a==b)&&r)
 |.str::ts,p::ps,q::qs,K=>D8 p fun a=>D8 q fun b=>Rv ts ps qs fun r=>K ((a==b)&&r)
 |_,_,_,_=>none
def Asj(P:Program)(op:BinOp)(t:TypeId)(x y:PV)(K:PV->Option R):Option R:=
 match P.underlying t with
 |some (.int k)=>
  match op with
  |.shl=>Be k x fun a=>Fk y fun _ b=>As (decide (0<=b)) (Aa (Hm k a b) fun n=>K (.sc (.int k n)))
  |.shr=>Be k x fun a=>Fk y fun _ b=>As (decide (0<=b)) (Aa (F2 k a b) fun n=>K (.sc (.int k n)))
  |op=>Be k x fun a=>Be k y fun b=>UL op k a b K
 |some .string=>D8 x fun a=>D8 y fun b=>WU op a b K
 |some .bool=>
  match op with
  |.eql=>Cg x fun a=>Cg y fun b=>K (.sc (.bool (a==b)))
  |.neq=>Cg x fun a=>Cg y fun b=>K (.sc (.bool !(a==b)))
  |_=>none
 |some (.slice _)=>
  match op,y with
  |.eql,.sc (.slice none 0 0)=>VC true x K
  |.neq,.sc (.slice none 0 0)=>VC false x K
  |_,_=>none
 |_=>none
def EM(P:Program)(op:BinOp)(t:TypeId)(x y:PV)(K:PV->Option R):Option R:=
 match P.underlying t with
 |some (.struct fs)=>
  match op with
  |.eql=>As (Adq P t fs) (Dr x fun xs=>Dr y fun ys=>Rv (GD P fs.toList) xs ys fun b=>K (.sc (.bool b)))
  |.neq=>As (Adq P t fs) (Dr x fun xs=>Dr y fun ys=>Rv (GD P fs.toList) xs ys fun b=>K (.sc (.bool !b)))
  |_=>none
 |_=>Asj P op t x y K
def unK(op:UnOp)(x:PV)(K:PV->Option R):Option R:=
 match op with
 |.not=>Cg x fun b=>K (.sc (.bool !b))
 |.neg=>Fk x fun k n=>Aa (k.wrap (0-n)) fun n=>K (.sc (.int k n))
 |.xor=>Fk x fun k n=>Aa (A7k k n) fun n=>K (.sc (.int k n))
 |_=>none
def bytesOf:Ab->Option (List UInt8)
 |[]=>some []
 |.sc (.int .u8 n)::r=>(bytesOf r).map (n.toNat.toUInt8 :: ·)
 |_::_=>none
def El(s:ByteArray):Ab:=s.data.toList.map fun b=>.sc (.int .u8 b.toNat)
def TB(P:Program)(rdf:Nat->Option Ab)(d:Nat)(src dst:TypeId)(x:PV)(K:PV->List (Nat × Cb)->Option R):Option R:=
 match P.underlying dst with
 |some (.int k)=>As (P.underlying src).isSome (Fk x fun _ n=>Aa (k.wrap n) fun n=>K (.sc (.int k n)) [])
 |some .string=>
  match P.underlying src with
  |some .string=>D8 x fun s=>K (.sc (.string s)) []
  |some (.slice e)=>
   match P.underlying e with
   |some (.int .u8)=>Ai0 rdf 1 x fun n c=>As (decide (c.length=n)) (F3 (bytesOf c) fun b=>K (.sc (.string ⟨b.toArray⟩)) [])
   |_=>none
  |_=>none
 |some (.slice e)=>
  match P.underlying e,P.underlying src with
  |some (.int .u8),some .string=>D8 x fun s=>As (decide (s.size<=1099511627776)) (K (.view d 1 0 s.size) [(d,.ar false (El s))])
  |_,_=>none
 |_=>none
def Kn(p:Option PV)(dflt:Nat)(K:Nat->Option R):Option R:=
 match p with
 |none=>K dflt
 |some p=>Fk p fun _ i=>As (decide (0<=i)) (K i.toNat)
def MU(P:Program)(rdf:Nat->Option Ab)(t:TypeId)(x:PV)(lo hi:Option PV)(K:PV->Option R):Option R:=
 match P.underlying t with
 |some .string=>D8 x fun s=>Kn lo 0 fun l=>Kn hi s.size fun h=>As (decide (l<=h)&&decide (h<=s.size)) (Aa (s.extract l h) fun s=>K (.sc (.string s)))
 |some (.slice e)=>As (P.info? e).isSome (
  match x with
  |.view id es off n=>As (Nat.beq es (Bw P e)) (Kn lo 0 fun l=>Kn hi n fun h=>As (decide (l<=h)&&decide (h<=n)) (Aa (off+l*es) fun o=>Aa (h-l) fun n=>K (.view id es o n)))
  |x=>Pq (Bw P e) x fun z n c=>Kn lo 0 fun l=>Kn hi n fun h=>As (decide (l<=h)&&decide (h<=n)) (Aa (h-l) fun n=>Aa ((c.drop (l*Bw P e)).take (n*Bw P e)) fun c=>K (.lst z (Bw P e) n c)))
 |some (.array n e)=>As (P.info? e).isSome (
  match x with
  |.ptr id off=>F3 (rdf id) fun c=>As (decide (1<=n*Bw P e)&&decide (off+n*Bw P e<=c.length))<|Kn lo 0 fun l=>Kn hi n fun h=>As (decide (l<=h)&&decide (h<=n)) (Aa (off+l*Bw P e) fun o=>Aa (h-l) fun n=>K (.view id (Bw P e) o n))
  |_=>none)
 |_=>none
def FA(P:Program)(d:Nat)(t:TypeId)(x:PV)(lo hi mx:Option PV)(K:PV->List (Nat × Cb)->Option R):Option R:=
 match P.underlying t with
 |some (.slice e)=>As ((P.info? e).isSome&&hi.isSome) (
  match x with
  |.view _ es _ n=>As (Nat.beq es (Bw P e)) (Kn lo 0 fun l=>Kn hi n fun h=>Kn mx n fun m=>As (Nat.beq l m&&Nat.beq h m&&decide (m<=n)) (K (.view d (Bw P e) 0 0) [(d,.ar false [])]))
  |x=>Pq (Bw P e) x fun _ n _=>Kn lo 0 fun l=>Kn hi n fun h=>Kn mx n fun m=>As (Nat.beq l m&&Nat.beq h m&&decide (m<=n)) (K (.view d (Bw P e) 0 0) [(d,.ar false [])]))
 |_=>none
def ED(x:PV)(d:Nat)(K:PV->Option R):Option R:=
 match x with
 |.ptr id off=>K (.ptr id (off+d))
 |.iptr c off=>K (.iptr c (off+d))
 |_=>none
def UI(P:Program)(e:TypeId):Bool:=(P.info? e).isSome
def Y7(P:Program)(t:TypeId)(f:Nat):Option (Nat × TypeId):=
 match P.underlying t with
 |some (.struct fs)=>(fs[f]?).map fun g=>(g.offset,g.type)
 |_=>none
def Ql(P:Program)(t:TypeId)(x:PV)(i:Int)(K:PV->Option R):Option R:=
 match P.underlying t with
 |some (.array n e)=>As (UI P e) (As (decide (0<=i)&&decide (i<n)) (ED x (i.toNat*Bw P e) K))
 |some (.slice e)=>As (UI P e) (
  match x with
  |.view id es off n=>As (Nat.beq es (Bw P e)) (As (decide (0<=i)&&decide (i<n)) (K (.ptr id (off+i.toNat*es))))
  |x=>Pq (Bw P e) x fun _ n c=>As (decide (0<=i)&&decide (i<n)) (K (.iptr c (i.toNat*Bw P e))))
 |_=>none
def VB(P:Program)(rdf:Nat->Option Ab)(t:TypeId)(x:PV)(K:PV->Option R):Option R:=
 match x with
 |.ptr id off=>As (Nx P t) (F3 (rdf id) fun c=>Xj (M0 P t) c off fun cs=>mkV (Dd P t) cs K)
 |.iptr c off=>As (Nx P t) (DS (M0 P t) c off fun cs=>mkV (Dd P t) cs K)
 |_=>none
def Ab6:PV->PV
 |.lst _ es n c=>.lst false es n c
 |p=>p
def Ao2:PV->PV
 |.agg cs=>.agg (cs.map Ab6)
 |p=>Ab6 p
def JY(P:Program)(rdf rdaf:Nat->Option Ab)(t:TypeId)(x:PV)(K:PV->Option R):Option R:=
 match x with
 |.ptr id off=>As (Nx P t) (
  match rdaf id with
  |some c=>DS (M0 P t) c off fun cs=>mkV (Dd P t) cs fun v=>K (Ao2 v)
  |none=>F3 (rdf id) fun c=>Xj (M0 P t) c off fun cs=>mkV (Dd P t) cs K)
 |.iptr c off=>As (Nx P t) (DS (M0 P t) c off fun cs=>mkV (Dd P t) cs fun v=>K (Ao2 v))
 |_=>none
def Bx(cells new:Ab)(off:Nat):Ab:=cells.take off++new++cells.drop (off+new.length)
def okP:PV->Bool
 |.agg _=>true
 |.lst _ _ _ _=>true
 |.view _ _ _ _=>true
 |.sc (.int _ _)=>true
 |.sc (.bool _)=>true
 |.sc (.string _)=>true
 |.sc (.slice none 0 0)=>true
 |_=>false
def CH(Kr:Nat->Option (Nat × Nat)):List (Nat × PV)->Ab->(Ab->Option R)->Option R
 |[],cells,K=>K cells
 |(i,p)::r,cells,K=>F3 (Kr i) fun q=>As (okP p&&Nat.beq (cellsOf p).length q.2&&Nat.ble (q.1+q.2) cells.length) (Aa (Bx cells (cellsOf p) q.1) fun cells=>CH Kr r cells K)
def Zo(P:Program)(t:TypeId)(i:Nat):Option (Nat × Nat):=
 match P.underlying t with
 |some (.struct fs)=>(fs[i]?).map fun f=>(f.offset,Bw P f.type)
 |some (.array _ e)=>some (i*Bw P e,Bw P e)
 |some (.slice e)=>some (i*Bw P e,Bw P e)
 |_=>none
def Y0(P:Program)(t:TypeId):Bool:=
 match P.underlying t with
 |some (.struct fs)=>fs.toList.all fun f=>UI P f.type
 |some (.array _ e)=>UI P e
 |some (.slice e)=>UI P e
 |_=>false
def HN(P:Program)(t:TypeId):Option Value:=(P.info? t).bind (·.zero)
def Kv(P:Program)(t:TypeId)(K:Ab->Option R):Option R:=
 F3 (HN P t) fun v=>As (Nat.beq v.cells.toList.length (M0 P t).length&&Nx P t) (DS (M0 P t) (v.cells.toList.map .sc) 0 K)
def DN(P:Program)(t:TypeId):Bool:=
 match P.underlying t with
 |some (.array _ _)=>true
 |_=>false
def Asn(P:Program)(t:TypeId)(cells:Ab):Cb:=bif DN P t then .ar false cells else .st cells
def Yg(n:Nat)(l:Ab):Ab:=(List.replicate n l).flatten
def Ax6(a b:PV)(K:PV->Option R):Option R:=Fk a fun k x=>Be k b fun y=>Aa (if y<x then y else x) fun n=>K (.sc (.int k n))
def Axi(a b:PV)(K:PV->Option R):Option R:=Fk a fun k x=>Be k b fun y=>Aa (if x<y then y else x) fun n=>K (.sc (.int k n))
def An2(P:Program)(t:TypeId)(x:PV)(K:Nat->Option R):Option R:=
 match P.underlying t with
 |some .string=>D8 x fun s=>K s.size
 |some (.array n _)=>K n
 |some (.slice e)=>
  match x with
  |.view _ es _ n=>As (Nat.beq es (Bw P e)) (K n)
  |x=>Pq (Bw P e) x fun _ n _=>K n
 |_=>none
end
abbrev Bp:=FuncId->Ab->Option D0
section
variable {R:Type}
def Oz(P:Program)(ts:List TypeId):Bool:=ts.any fun t=>(MP P t).isSome||(M0 P t).any fun c=>match c with | .sl _=>true|_=>false
def OC(P:Program)(t:TypeId)(tm:Nat->PV)(x:Operand)(K:PV->Option R):Option R:=
 match x with
 |.const v=>cvK P t v K
 |x=>K (Db tm x)
def Adw(P:Program)(e:TypeId):Bool:=
 match P.info? e with
 |some i=>(match i.zero with|some z=>Nat.beq z.cells.size i.size|none=>false)
 |none=>false
def Akp(P:Program)(rdaf:Nat->Option Ab)(es:Nat)(t:TypeId)(x:PV)(K:Nat->Ab->Option R):Option R:=
 match P.underlying t with
 |some .string=>As (Nat.beq es 1) (D8 x fun b=>K b.size (El b))
 |some (.slice _)=>Ai0 rdaf es x K
 |_=>none
abbrev Aim(P:Program)(s:St)(es:Nat)(t:TypeId)(x:PV)(K:Nat->Ab->Option R):Option R:=Akp P (Pw s.hp) es t x K
def LG(c:Call):Bool:=
 match c.args.toList with
 |.const (.slice none 0 0)::_=>true
 |_=>false
def EO(P:Program)(rdaf:Nat->Option Ab)(d:Nat)(t tx:TypeId)(x:PV)(K:PV->List (Nat × Cb)->Option R):Option R:=
 match P.underlying t with
 |some (.slice e)=>As (Adw P e) <|
  Akp P rdaf (Bw P e) tx x fun m new=>
   As (decide (new.length=m*Bw P e)&&decide (m*((P.info? e).map (·.bytes)).getD 0<=1099511627776)&&decide (m<=1099511627776)) (K (.view d (Bw P e) 0 m) [(d,.ar false new)])
 |_=>none
def O9(k:Bool):List Operand->Ab->Ab
  |x::xs,p::ps=>
    (match x,p with
     |.const (.slice none 0 0),.lst z es 0 []=>.lst (k||z) es 0 []
     |_,p=>p)::O9 k xs ps
  |_,ps=>ps
def Ao4(P:Program)(t:TypeId)(x:PV)(K:Nat->Option R):Option R:=
 match P.underlying t with
 |some (.slice e)=>Pq (Bw P e) x fun z _ _=>As z (K 0)
 |_=>none
def WY(P:Program)(f:FuncId)(c:Call):List TypeId:=
 match P.funcs[f]? with
 |some fn=>fn.params.toList
 |none=>c.argTypes.toList
def UR(C:Kk)(P:Program)(N:Nat)(call:Bp)(tm:Nat->PV)(rdaf:Nat->Option Ab)(o:Oper)(c:Call)(f:FuncId)(K:PV->Cc->List (Nat × Cb)->Option R):Option R:=
 WJ P rdaf (WY P f c) (c.args.toList.map (Db tm)) fun vs m=>
  Bk (call f (O9 (C.kz f) c.args.toList vs)) fun rv ro=>Aq ro (As (Nat.blt 0 N)<|PG P (C.shr f) N (o.dst.getD 0) (Ve P o.type) rv fun ws bs=>
   As (bif Ww P o.type then !Nat.beq ws.length 1 else Nat.beq ws.length 1)<|K (Ul ws (Ww P o.type)) (bif Oz P (Ve P o.type) then m else []) bs)
def VS(C:Kk)(P:Program)(N:Nat)(call:Bp)(tm:Nat->PV)(rdf rdaf:Nat->Option Ab)(o:Oper)(K:PV->Cc->List (Nat × Cb)->Option R):Option R:=
  match o.op with
  |.move x=>OC P o.type tm x fun p=>K p [] []
  |.assign x=>OC P o.type tm x fun p=>K p [] []
  |.pick c a b=>Cg (Db tm c) fun t=>A3 t (K (Db tm a) [] []) (K (Db tm b) [] [])
  |.alloc t=>F3 o.dst fun d=>Kv P t fun cs=>K (.ptr d 0) [] [(d,Asn P t cs)]
  |.box t x=>F3 o.dst fun d=>As (Nx P t&&Nat.beq (cellsOf (Db tm x)).length (M0 P t).length)
      (bif DN P t then DS (M0 P t) (cellsOf (Db tm x)) 0 fun cs=>K (.ptr d 0) [] [(d,.ar false cs)]
       else Xj (M0 P t) (cellsOf (Db tm x)) 0 fun cs=>K (.ptr d 0) [] [(d,.st cs)])
  |.build t ps=>As (Y0 P t&&Dd P t)<|Kv P t fun z=>CH (Zo P t) (ps.toList.map fun q=>(q.1,Db tm q.2)) z fun cs=>Xj (M0 P t) cs 0 fun cs'=>K (.agg cs') [] []
  |.buildSlice t n ps=>F3 o.dst fun d=>
      match P.underlying t with
      |some (.slice e)=>As (Y0 P t&&Nat.ble (n*Bw P e) 16777216) (Kv P e fun z=>CH (Zo P t) (ps.toList.map fun q=>(q.1,Db tm q.2)) (Yg n z) fun cs=>
          Vv rdaf (List.replicate n (M0 P e)).flatten cs fun cs' m=>K (.view d (Bw P e) 0 n) m [(d,.ar false cs')])
      |_=>none
  |.load t a=>JY P rdf rdaf t (Db tm a) fun v=>K v [] []
  |.nilCheck x=>ED (Db tm x) 0 fun p=>K p [] []
  |.binOp op t x y _=>
      EM P op t (Db tm x) (Db tm y) fun v=>K v [] []
  |.unOp op _ x=>unK op (Db tm x) fun v=>K v [] []
  |.convert src dst x=>TB P rdaf (o.dst.getD 0) src dst (Db tm x) fun v b=>F3 o.dst fun _=>K v [] b
  |.makeSlice t l c=>F3 o.dst fun d=>
      match P.underlying t with
      |some (.slice e)=>Fk (Db tm l) fun _ n=>Fk (Db tm c) fun _ m=>
          As (decide (0<=n)&&decide (n<=m)&&decide (m*((P.info? e).map (·.bytes)).getD 0<=1099511627776)&&decide (m<=1099511627776))
            (Kv P e fun z=>K (.view d (Bw P e) 0 n.toNat) [] [(d,.ar false (Yg n.toNat z))])
      |_=>none
  |.slice t x lo hi mx=>
      match mx with
      |none=>MU P rdf t (Db tm x) (lo.map (Db tm)) (hi.map (Db tm)) fun v=>K v [] []
      |some m=>F3 o.dst fun d=>FA P d t (Db tm x) (lo.map (Db tm)) (hi.map (Db tm)) (some (Db tm m)) fun v nw=>K v [] nw
  |.fieldAddr t x f=>F3 (Y7 P t f) fun q=>As (Nat.ble 1 (Bw P q.2)) (ED (Db tm x) q.1 fun p=>K p [] [])
  |.field t x f=>F3 (Y7 P t f) fun q=>As (Nx P q.2)<|Dr (Db tm x) fun cs=>Xj (M0 P q.2) cs q.1 fun c=>mkV (Dd P q.2) c fun v=>K v [] []
  |.indexAddr t x i=>Fk (Db tm i) fun _ n=>Ql P t (Db tm x) n fun p=>K p [] []
  |.index t x i=>Fk (Db tm i) fun _ n=>
      match P.underlying t with
      |some .string=>D8 (Db tm x) fun s=>As (decide (0<=n)) (F3 (s.data.toList[n.toNat]?) fun b=>K (.sc (.int .u8 b.toNat)) [] [])
      |some (.array len e)=>Dr (Db tm x) fun cs=>As (decide (0<=n)&&decide (n<len)&&Nx P e) (Xj (M0 P e) cs (n.toNat*Bw P e) fun c=>mkV (Dd P e) c fun v=>K v [] [])
      |_=>none
  |.extract x i=>
      match Db tm x with
      |.tup vs=>F3 vs[i]? fun p=>K p [] []
      |_=>none
  |.call c=>
      match c.callee with
      |.builtin .len=>Av c.args.toList fun x _=>Av c.argTypes.toList fun t _=>An2 P t (Db tm x) fun n=>K (.sc (.int .i64 n)) [] []
      |.builtin .cap=>Av c.args.toList fun x _=>Av c.argTypes.toList fun t _=>Ao4 P t (Db tm x) fun n=>K (.sc (.int .i64 n)) [] []
      |.builtin .min=>Av c.args.toList fun x r=>Av r fun y r'=>Aq r' (Ax6 (Db tm x) (Db tm y) fun v=>K v [] [])
      |.builtin .max=>Av c.args.toList fun x r=>Av r fun y r'=>Aq r' (Axi (Db tm x) (Db tm y) fun v=>K v [] [])
      |.builtin .append=>As (LG c) (F3 o.dst fun d=>Av c.args.toList fun _ r=>Av r fun x r'=>Aq r' (Av c.argTypes.toList fun t u=>Av u fun tx _=>EO P rdaf d t tx (Db tm x) fun v nw=>K v [] nw))
      |.value (.func f)=>UR C P N call tm rdaf o c f K
      |.value (.tmp t)=>fvK (tm t) fun f=>UR C P N call tm rdaf o c f K
      |_=>none
  |_=>none
def AU(C:Kk)(P:Program)(o:Op):Bool:=
 match o with
 |.store .. =>true
 |.call c=>
  match c.callee with
  |.builtin .append=> !LG c
  |.builtin .copy=>true
  |.builtin _=>false
  |.value (.func f)=>((WY P f c).any fun t=>(MP P t).isSome)||((WY P f c).zipIdx.any fun q=>C.mvd f q.2||C.lnd f q.2)
  |_=>false
 |_=>false
def CM(b:Cb):Cb:=
 match b with
 |.ar _ c=>.ar true c
 |b=>b
def Al(hp:Nat->Option Cb)(ids:Cc):Nat->Option Cb:=fun i=>bif ids.any (Nat.beq i) then (hp i).map CM else hp i
def Bf(hp:Nat->Option Cb):List (Nat × Cb)->Nat->Option Cb
 |[]=>hp
 |(i,b)::r=>Bf (Dz hp i (some b)) r
def C1(hp:Nat->Option Cb):List (Nat × Cb)->Bool
 |[]=>true
 |(i,_)::r=>(hp i).isNone && !(r.any fun q=>Nat.beq q.1 i)&&C1 hp r
def Co(tm:Nat->PV)(d:Option Tmp)(v:PV):Nat->PV:=
 match d with
 |some i=>Dz tm i v
 |none=>tm
def Jt(N:Nat)(d:Option Tmp):Bool:=
 match d with
 |some i=>Nat.blt i N
 |none=>true
def ON(N:Nat)(s:St)(d:Option Tmp)(v:PV)(fz:Cc)(nw:List (Nat × Cb))(K:St->Option R):Option R:=
 As (Jt N d&&C1 s.hp nw) (K ⟨Co s.tm d v,Bf (Al s.hp fz) nw⟩)
def MV(P:Program)(s:St)(t:TypeId)(a x:PV)(K:St->Option R):Option R:=
 match a with
 |.ptr id off=>
  match s.hp id with
  |some (.st c)=>As (Nx P t&&Nat.beq (cellsOf x).length (M0 P t).length&&decide (off+(M0 P t).length<=c.length)) (Xj (M0 P t) (cellsOf x) 0 fun cs=>Aa (Bx c cs off) fun c=>K ⟨s.tm,Dz s.hp id (some (.st c))⟩)
  |some (.ar false c)=>As (Nx P t&&decide (off+(M0 P t).length<=c.length)) (Vv (Pw s.hp) (M0 P t) (cellsOf x) fun cs m=>As (!m.any (Nat.beq id)) (Aa (Bx c cs off) fun c=>K ⟨s.tm,Dz (Al s.hp m) id (some (.ar false c))⟩))
  |_=>none
 |_=>none
def JG(P:Program)(t:TypeId):Bool:=
 match P.underlying t with
 |some (.int _)=>true
 |_=>false
def CU(P:Program)(N:Nat)(s:St)(d:Nat)(e:TypeId)(b x:PV)(K:St->Option R):Option R:=
 Fk x fun _ n=>Pq (Bw P e) b fun z _ _=>
  As (z&&Nat.blt d N&&(s.hp d).isNone&&decide (0<=n)&&decide (n.toNat*((P.info? e).map (·.bytes)).getD 0<=1099511627776)&&decide (n<=1099511627776))
   (K ⟨Dz s.tm d (.view d (Bw P e) 0 n.toNat),Dz s.hp d (some (.ar false []))⟩)
def Wx(P:Program)(N:Nat)(s:St)(d:Nat)(t tx:TypeId)(b x:PV)(K:St->Option R):Option R:=
 match P.underlying t with
 |some (.slice e)=>As (Adw P e) <|
  bif JG P tx then CU P N s d e b x K else
  Aim P s (Bw P e) tx x fun m new=>
  match b with
  |.view id es off n=>
   match s.hp id with
   |some (.ar false c)=>
    As (Nat.beq es (Bw P e)&&Nat.beq off 0&&Nat.blt d N&&(s.hp d).isNone&&decide (n*es<=c.length)&&decide (new.length=m*es)
     && decide ((n+m)*((P.info? e).map (·.bytes)).getD 0<=1099511627776)&&decide (n+m<=1099511627776))
     (Aa (n+m) fun n'=>Aa (c.take (n*es)++new) fun c=>K ⟨Dz s.tm d (.view d es 0 n'),Dz (Dz s.hp id (some .mv)) d (some (.ar false c))⟩)
   |_=>none
  |b=>Pq (Bw P e) b fun z _ _=>
    As (z&&Nat.blt d N&&(s.hp d).isNone&&decide (new.length=m*Bw P e)&&decide (m*((P.info? e).map (·.bytes)).getD 0<=1099511627776)&&decide (m<=1099511627776))
     (K ⟨Dz s.tm d (.view d (Bw P e) 0 m),Dz s.hp d (some (.ar false new))⟩)
 |_=>none
def Abf(P:Program)(N:Nat)(s:St)(d:Option Tmp)(t tx:TypeId)(b x:PV)(K:St->Option R):Option R:=
 match P.underlying t with
 |some (.slice e)=>As (UI P e&&Jt N d) <|
  Aim P s (Bw P e) tx x fun m new=>
  match b with
  |.view id es off n=>
   match s.hp id with
   |some (.ar false c)=>As (Nat.beq es (Bw P e)&&decide (off+n*es<=c.length)&&decide (new.length=m*es))
     (Aa (min m n) fun k=>Aa (Bx c (new.take (k*es)) off) fun c=>K ⟨Co s.tm d (.sc (.int .i64 k)),Dz s.hp id (some (.ar false c))⟩)
   |_=>none
  |_=>none
 |_=>none
def Apj(mv:Bool)(hp:Nat->Option Cb)(t:CT)(p:PV)(K:PV->Cc->Cc->Option R):Option R:=
 match t with
 |.sl es=>
  bif mv then
   match p with
   |.view id es' off n=>
    match hp id with
    |some (.ar false c)=>
     bif Nat.beq es' es&&Nat.beq off 0 then As (decide (n*es<=c.length)) (K (.own es n (c.take (n*es))) [] [id])
     else V0 (Pw hp) (.sl es) (.view id es' off n) fun c m=>K c m []
    |_=>V0 (Pw hp) (.sl es) (.view id es' off n) fun c m=>K c m []
   |p=>Pq es p fun z n c=>bif z then K (.own es 0 []) [] [] else K (.lst false es n c) [] []
  else V0 (Pw hp) (.sl es) p fun c m=>K c m []
 |t=>NM t p fun c=>K c [] []
def PQ(mv:Bool)(hp:Nat->Option Cb):List CT->Ab->(Ab->Cc->Cc->Option R)->Option R
 |[],[],K=>K [] [] []
 |t::ts,p::ps,K=>Apj mv hp t p fun c m x=>PQ mv hp ts ps fun cs ms xs=>K (c::cs) (m++ms) (x++xs)
 |_,_,_=>none
inductive Kj where
 |var (id off:Nat) (cts:List CT) (ws:Ab)
 |row (id:Nat)
 |none
def Kj.ids:Kj->Cc
 |.var id _ _ _=>[id]
 |.row id=>[id]
 |.none=>[]
def A6k(P:Program)(t:TypeId):Option TypeId:=
 match P.underlying t with
 |some (.slice e)=>some e
 |_=>none
def Atm(hp:Nat->Option Cb)(es:Nat)(p:PV)(K:PV->List Kj->Option R):Option R:=
 match p with
 |.view id es' off n=>
  match hp id with
  |some (.ar false c)=>As (Nat.beq es' es&&Nat.beq off 0) (K (.tup [.own es n c]) [.row id])
  |_=>none
 |p=>Pq es p fun z _ _=>As z (K (.tup [.own es 0 []]) [.none])
def NO(C:Kk)(P:Program)(f:FuncId)(hp:Nat->Option Cb)(i:Nat)(t:TypeId)(p:PV)(K:PV->Cc->Cc->List Kj->Option R):Option R:=
 match MP P t with
 |some e=>
  match p with
  |.ptr id off=>
   match hp id with
   |some (.st c)=>As (Nx P e&&decide (off+(M0 P e).length<=c.length)) (PQ (C.mvd f i) hp (M0 P e) ((c.drop off).take (M0 P e).length) fun cs m x=>K (.pbox cs) m x [.var id off (M0 P e) cs])
   |_=>none
  |_=>none
 |none=>
  bif C.lnd f i then F3 (A6k P t) fun e=>Atm hp (Bw P e) p fun v l=>K v [] [] l
  else bif Dd P t then Dr p fun ps=>PQ (C.mvd f i) hp (M0 P t) ps fun cs m x=>K (.agg cs) m x []
  else PQ (C.mvd f i) hp (M0 P t) [p] fun cs m x=>Av cs fun c r=>Aq r (K c m x [])
def Aa7(C:Kk)(P:Program)(f:FuncId)(hp:Nat->Option Cb):Nat->List TypeId->Ab->(Ab->Cc->Cc->List Kj->Option R)->Option R
 |_,[],[],K=>K [] [] [] []
 |i,t::ts,p::ps,K=>NO C P f hp i t p fun v m x l=>Aa7 C P f hp (i+1) ts ps fun vs ms xs ls=>K (v::vs) (m++ms) (x++xs) (l++ls)
 |_,_,_,_=>none
def DB(hp:Nat->Option Cb)(ids:Cc):Nat->Option Cb:=fun i=>bif ids.any (Nat.beq i) then (hp i).map (fun _=>Cb.mv) else hp i
def nid(N t:Nat):Nat:=N*(1000+t)
def Afz(N:Nat)(hp:Nat->Option Cb):Nat->Nat->Nat
 |0,t=>t
 |k+1,t=>bif (hp (nid N t)).isNone then t else Afz N hp k (t+1)
def An4(N t:Nat)(ct:CT)(was p:PV)(K:Nat->PV->List (Nat × Cb)->Option R):Option R:=
 match ct with
 |.sl es=>
  match was with
  |.own _ _ _=>Je es p fun n c=>K (t+1) (.view (nid N t) es 0 n) [(nid N t,.ar false c)]
  |_=>Pq es p fun _ n c=>K t (.lst false es n c) []
 |ct=>NM ct p fun c=>K t c []
def ZN(N:Nat):Nat->List CT->Ab->Ab->(Nat->Ab->List (Nat × Cb)->Option R)->Option R
 |t,[],[],ps,K=>Aq ps (K t [] [])
 |t,ct::cts,w::ws,ps,K=>Av ps fun p ps=>An4 N t ct w p fun t' c b=>ZN N t' cts ws ps fun t'' cs bs=>K t'' (c::cs) (b++bs)
 |_,_,_,_,_=>none
def IY(N:Nat):Nat->List Kj->List Ab->(Nat->Option Cb)->((Nat->Option Cb)->List (Nat × Cb)->Option R)->Option R
 |_,[],ro,hp,K=>Aq ro (K hp [])
 |t,.var id off cts ws::l,ro,hp,K=>Av ro fun cs ro=>ZN N t cts ws cs fun t' cs' bs=>
   match hp id with
   |some (.st c)=>Aa (Bx c cs' off) fun c=>IY N t' l ro (Dz hp id (some (.st c))) fun Di bs'=>K Di (bs++bs')
   |_=>none
 |t,.row id::l,ro,hp,K=>Av ro fun cs ro=>IY N t l ro (Dz hp id (some (.ar false cs))) K
 |t,.none::l,ro,hp,K=>Av ro fun _ ro=>IY N t l ro hp K
def Gd:Cc->Bool
 |[]=>true
 |a::r=> !(r.any (Nat.beq a))&&Gd r
def MT(C:Kk)(P:Program)(N:Nat)(call:Bp)(s:St)(o:Oper)(f:FuncId)(c:Call)(K:St->Option R):Option R:=
 Aa7 C P f s.hp 0 (WY P f c) (c.args.toList.map (Db s.tm)) fun vs m x l=>
  As (Gd (l.flatMap Kj.ids++x)&&m.all (fun i=> !((l.flatMap Kj.ids++x).any (Nat.beq i)))&&Nat.blt 0 N&&Jt N o.dst) <|
  Bk (call f (O9 (C.kz f) c.args.toList vs)) fun rv ro=>
   PG P (C.shr f) N (o.dst.getD N) (Ve P o.type) rv fun ws bs=>
    As (bif Ww P o.type then !Nat.beq ws.length 1 else Nat.beq ws.length 1) <|
    A90 (Afz N s.hp 100 0) fun t0=>IY N t0 l ro (DB (Al s.hp m) x) fun Di bs'=>
     As (C1 Di (bs++bs')) (K ⟨Co s.tm o.dst (Ul ws (Ww P o.type)),Bf Di (bs++bs')⟩)
def FU(C:Kk)(P:Program)(N:Nat)(call:Bp)(s:St)(o:Oper)(K:St->Option R):Option R:=
 match o.op with
 |.store t a x=>As (o.dst.isNone) (MV P s t (Db s.tm a) (Db s.tm x) K)
 |.call c=>
  match c.callee with
  |.builtin .append=>F3 o.dst fun d=>Av c.args.toList fun b r=>Av r fun x r'=>Aq r' (Av c.argTypes.toList fun t u=>Av u fun tx _=>Wx P N s d t tx (Db s.tm b) (Db s.tm x) K)
  |.builtin .copy=>Av c.args.toList fun b r=>Av r fun x r'=>Aq r' (Av c.argTypes.toList fun t u=>Av u fun tx _=>Abf P N s o.dst t tx (Db s.tm b) (Db s.tm x) K)
  |.value (.func f)=>MT C P N call s o f c K
  |_=>none
 |_=>none
def Ag9(C:Kk)(P:Program)(N:Nat)(call:Bp)(o:Oper)(s:St)(K:St->Option R):Option R:=
 bif AU C P o.op then FU C P N call s o K
 else VS C P N call s.tm (rd s.hp) (Pw s.hp) o fun v fz nw=>ON N s o.dst v fz nw K
def Fd(C:Kk)(P:Program)(N:Nat)(call:Bp)(ops:Array Oper)(o:Oper)(s:St)(K:St->Option R):Option R:=
 match o.guard with
 |none=>Ag9 C P N call o s K
 |some (j,want)=>
  match (ops[j]?).bind (·.dst) with
  |none=>none
  |some d=>
   match s.tm d with
   |.sc (.bool b)=>
    A3 b (bif want then Ag9 C P N call o ⟨Dz s.tm d (.sc (.bool true)),s.hp⟩ K else As (Jt N o.dst) (K ⟨Co (Dz s.tm d (.sc (.bool true))) o.dst (.sc undef),s.hp⟩))
     (bif want then As (Jt N o.dst) (K ⟨Co (Dz s.tm d (.sc (.bool false))) o.dst (.sc undef),s.hp⟩) else Ag9 C P N call o ⟨Dz s.tm d (.sc (.bool false)),s.hp⟩ K)
   |.sc (.tuple _)=>As (Jt N o.dst) (K ⟨Co s.tm o.dst (.sc undef),s.hp⟩)
   |_=>none
def Vk(C:Kk)(P:Program)(N:Nat)(call:Bp)(ops:Array Oper):List Oper->St->(St->Option R)->Option R
 |[],s,K=>K s
 |o::r,s,K=>Fd C P N call ops o s fun s'=>Vk C P N call ops r s' K
def BC(x y:Option R):Option R:=open Classical in if x=y then x else none
def Aj4(ops:Array Oper)(o:Oper)(s:St)(F:St->Option R):Option R:=
 match o.guard with
 |none=>F s
 |some (j,_)=>
  match (ops[j]?).bind (·.dst) with
  |none=>F s
  |some d=>
   match s.tm d with
   |.ub=>BC (F ⟨Dz s.tm d (.sc (.bool true)),s.hp⟩) (F ⟨Dz s.tm d (.sc (.bool false)),s.hp⟩)
   |_=>F s
def Mw(C:Kk)(P:Program)(N:Nat)(call:Bp)(ops:Array Oper):List Oper->St->(St->Option R)->Option R
 |[],s,K=>K s
 |o::r,s,K=>Aj4 ops o s fun s1=>Fd C P N call ops o s1 fun s'=>Mw C P N call ops r s' K
end
def Auc(o:Oper):Cc:=o.op.operands.toList.filterMap fun x=>match x with | .tmp t=>some t|_=>none
def looks(ops:Array Oper)(o:Oper):Cc:=
 Auc o++(match o.guard with|some (g,_)=>((ops[g]?).bind (·.dst)).toList|none=>[])
def L7(P:Program)(o:Op):Bool:=
 match o with
 |.slice t .. =>match P.underlying t with|some (.array _ _)=>true|_=>false
 |.buildSlice t _ _=>match P.underlying t with|some (.slice e)=>Oz P [e]|_=>true
 |.convert _ dst _=>match P.underlying dst with|some .string=>true|_=>false
 |.alloc _ | .box .. | .makeSlice .. =>false
 |.move _ | .assign _ | .pick .. | .build .. | .binOp .. | .unOp .. | .fieldAddr .. | .field .. | .index .. | .indexAddr .. | .extract .. | .nilCheck _=>false
 |.call c=>match c.callee with | .builtin .len=>false | .builtin .min=>false | .builtin .max=>false|_=>true
 |_=>true
def VP(C:Kk)(P:Program)(ops:Array Oper)(x y:Oper):Bool:=
 (match x.dst with|some d=>(looks ops y).any (Nat.beq d)||(match y.dst with|some e=>Nat.beq d e|none=>false)|none=>false) ||
 (match y.dst with|some e=>(looks ops x).any (Nat.beq e)|none=>false) ||
 (AU C P x.op&&L7 P y.op)||(AU C P y.op&&L7 P x.op)
def Nd(ops:List Oper):Cc->Cc
 |acc=>match ops with
  |[]=>acc
  |o::r=>Nd r (acc++[o.after.toList.foldl (fun s e=>bif Region.binds .any e then s ||| 2 ^ e.on ||| acc.getD e.on 0 else s) 0])
def SF(C:Kk)(P:Program)(ops:Array Oper)(bs:Cc):List Oper->Nat->Bool
 |[],_=>true
 |o::r,i=>(ops.toList.zipIdx.all fun q=> !Nat.blt q.2 i || !VP C P ops q.1 o||(bs.getD i 0).testBit q.2)&&SF C P ops bs r (i+1)
def SV(C:Kk)(P:Program)(ops:Array Oper):Bool:=
 ops.toList.zipIdx.all (fun q=>q.1.after.toList.all fun e=> !Region.binds .any e||Nat.blt e.on q.2)&&SF C P ops (Nd ops.toList []) ops.toList 0
def A9:PV->Cc
 |.view id _ _ _=>[id]
 |.ptr id _=>[id]
 |_=>[]
def C3:PV->Cc
 |.agg cs=>cs.flatMap A9
 |p=>A9 p
def Cn:PV->Cc
 |.tup ps=>ps.flatMap C3
 |p=>C3 p
def CZ(P:Program)(o:Op):Bool:=
 match o with
 |.load .. =>true
 |.convert _ dst _=>(match P.underlying dst with|some .string=>true|_=>false)
 |_=>false
def Uv(o:Op):Bool:=
 match o with
 |.call c=>(match c.callee with | .builtin .append=> !LG c|_=>false)
 |_=>false
def Aun(ops:Array Oper)(x y:Oper):Bool:=
 (match x.dst with|some d=>(looks ops y).any (Nat.beq d)||(match y.dst with|some e=>Nat.beq d e|none=>false)|none=>false) ||
 (match y.dst with|some e=>(looks ops x).any (Nat.beq e)|none=>false)
def Zu(C:Kk)(P:Program)(x y:Oper):Bool:=(AU C P x.op&&L7 P y.op)||(AU C P y.op&&L7 P x.op)
def P9(C:Kk)(P:Program)(x y:Oper):Bool:=(AU C P x.op&&CZ P y.op)||(AU C P y.op&&CZ P x.op)||(Uv x.op&&Uv y.op)
def Aq8(C:Kk)(P:Program)(ops:Array Oper)(x y:Oper):Bool:=Aun ops x y||(Zu C P x y && !P9 C P x y)
def MK(C:Kk)(P:Program)(ops:Array Oper)(bs:Cc):List Oper->Nat->Bool
 |[],_=>true
 |o::r,i=>(ops.toList.zipIdx.all fun q=> !Nat.blt q.2 i || !Aq8 C P ops q.1 o||(bs.getD i 0).testBit q.2)&&MK C P ops bs r (i+1)
def VQ(C:Kk)(P:Program)(ops:Array Oper):Bool:=
 ops.toList.zipIdx.all (fun q=>q.1.after.toList.all fun e=> !Region.binds .any e||Nat.blt e.on q.2)&&MK C P ops (Nd ops.toList []) ops.toList 0
def Sr(C:Kk)(P:Program)(s:St)(o:Oper):Cc:=
 let l:=o.op.operands.toList.flatMap fun y=>Cn (Db s.tm y)
 bif AU C P o.op && !Uv o.op then l++l.flatMap (fun i=>match s.hp i with|some (.st c)=>c.flatMap A9|_=>[])
 else bif CZ P o.op||Uv o.op then l else []
def Api(a b:Cc):Bool:=a.all fun i=> !b.any (Nat.beq i)
def KF(C:Kk)(P:Program)(ops:Array Oper)(bs:Cc)(i:Nat)(o:Oper):Cc:=
 (ops.toList.zipIdx.filter fun q=>P9 C P q.1 o && !(Nat.blt q.2 i&&(bs.getD i 0).testBit q.2) && !(Nat.blt i q.2&&(bs.getD q.2 0).testBit i)).map (·.2)
def QA(C:Kk)(P:Program)(ops:Array Oper)(bs:Cc):List Cc:=ops.toList.zipIdx.map fun q=>KF C P ops bs q.2 q.1
def QZ(C:Kk)(P:Program)(sm:List Cc)(s:St)(i:Nat)(o:Oper):Cc:=
 match sm.getD i [] with
 |[]=>[]
 |_::_=>Sr C P s o
def XL(C:Kk)(P:Program)(sm:List Cc)(s:St)(i:Nat)(o:Oper)(q:Nat × Oper × Cc):Bool:=
 !((sm.getD i []).any (Nat.beq q.1))||Api q.2.2 (QZ C P sm s i o)
def Mu{R:Type}(C:Kk)(P:Program)(N:Nat)(call:Bp)(ops:Array Oper)(sm:List Cc):List (Nat × Oper × Cc)->Cc->St->(St->Option R)->Option R
 |_,[],s,K=>K s
 |dn,i::l,s,K=>F3 ops[i]? fun o=>As (dn.all (XL C P sm s i o)&&(QZ C P sm s i o).all (fun k=>(s.hp k).isSome)) (Fd C P N call ops o s fun s'=>Mu C P N call ops sm ((i,o,QZ C P sm s i o)::dn) l s' K)
def Ar0(m i:Nat):Nat:=m ||| 2 ^ i
def Bca(m i:Nat):Nat:=bif m.testBit i then m ^^^ 2 ^ i else m
def Ak0(ops:Array Oper):List Oper->Nat->Nat
 |[],m=>m
 |o::r,m=>
  let m1:=Ak0 ops r m
  let m2:=match o.dst with|some d=>Bca m1 d|none=>m1
  (looks ops o).foldl Ar0 m2
def V4:Code->Nat->(Nat->Nat)->Nat->Nat
 |.skip,ln,_,_=>ln
 |.region _ ops _,ln,_,_=>Ak0 ops ops.toList ln
 |.seq a b,ln,lx,lr=>V4 a (V4 b ln lx lr) lx lr
 |.cond c a b,ln,lx,lr=>let m:=V4 a ln lx lr ||| V4 b ln lx lr;match c with | .tmp d=>Ar0 m d|_=>m
 |.block id c,ln,lx,lr=>V4 c ln (fun j=>bif Nat.beq j id then ln else lx j) lr
 |.loop c,_,lx,lr=>V4 c (V4 c 0 lx lr) lx lr
 |.exit id,_,lx,_=>lx id
 |.ret,_,_,lr=>lr
 |_,_,_,_=>0
def Atw(ops:List Oper):Cc:=(ops.filterMap fun o=>o.guard.map (·.1)).eraseDups
def Va:Code->Nat
 |.region _ _ _=>1
 |.seq a b=>Va a+Va b
 |.cond _ a b=>Va a+Va b
 |.block _ c=>Va c
 |.loop c=>Va c
 |_=>0
def RG:Code->Nat
 |.skip=>1
 |.region _ ops _=>2 ^ min 6 (Atw ops.toList).length
 |.seq a b=>bif (Nat.ble 7 (RG a)&&Nat.ble 6 (Va b))||(Nat.ble 5 (RG a)&&Nat.ble 9 (Va b)) then RG b else min 1000 (RG a*RG b)
 |.cond _ a b=>RG a+RG b
 |.block _ c=>RG c
 |.loop _=>1
 |.exit _=>1
 |_=>0
def A0l(P:Program)(o:Oper):Bool:=
 match o.op with
 |.load t _=>DN P t&&Nat.ble 8 (Bw P t)
 |.store t _ _=>DN P t&&Nat.ble 8 (Bw P t)
 |_=>false
def Afb(P:Program):Code->Bool
 |.region _ ops _=>ops.toList.any (A0l P)
 |.seq a _=>Afb P a
 |_=>false
def Alz(P:Program):Code->Bool
 |.region _ ops _=>ops.toList.any (A0l P)
 |.seq _ b=>Alz P b
 |_=>false
def Aq0(x y:Code):Bool:=(Nat.beq (RG x) 4&&Nat.beq (Va x) 7&&(Nat.beq (Va y) 3||Nat.beq (Va y) 1))||(Nat.beq (RG x) 9&&Nat.beq (Va x) 5&&Nat.beq (Va y) 5)
def LZ(a b:Code):Bool:=Aq0 a b||(match b with | .seq x y=>Aq0 x y|_=>false)
def Ak7(P:Program)(a b:Code):Bool:=(Nat.ble 7 (RG a)&&Nat.ble 6 (Va b))||(Nat.ble 5 (RG a)&&Nat.ble 9 (Va b))||LZ a b||Afb P b||Alz P a
def Sc(m:Nat):Nat->Cc
 |0=>[]
 |n+1=>Sc m n++(bif m.testBit n then [n] else [])
def lk(l:List (Nat × PV))(i:Nat):PV:=
 match l with
 |[]=>.top
 |(j,p)::r=>bif Nat.beq i j then p else lk r i
def B0(l:List (Nat × Cb))(i:Nat):Option Cb:=
 match l with
 |[]=>none
 |(j,b)::r=>bif Nat.beq i j then some b else B0 r i
def FY(l:List (Nat × Nat))(i:Nat):Option Nat:=
 match l with
 |[]=>none
 |(j,b)::r=>bif Nat.beq i j then some b else FY r i
def SC(N:Nat)(s:St)(i:Nat):St:=
 match s.tm i with
 |.lst true es 0 []=>
  bif (s.hp i).isNone then ⟨Dz s.tm i (.view i es 0 0),Dz s.hp i (some (.ar false []))⟩
  else bif (s.hp (i+N*3000)).isNone then ⟨Dz s.tm i (.view (i+N*3000) es 0 0),Dz s.hp (i+N*3000) (some (.ar false []))⟩
  else s
 |_=>s
def Adk(N:Nat)(id:Nat)(s:St)(j:Nat):St:=
 match s.hp id with
 |some (.st c)=>
  match c[j]? with
  |some (.lst true es 0 [])=>bif (s.hp (id+N*(j+1))).isNone then ⟨s.tm,Dz (Dz s.hp id (some (.st (c.set j (.view (id+N*(j+1)) es 0 0))))) (id+N*(j+1)) (some (.ar false []))⟩ else s
  |_=>s
 |_=>s
def Adt(N:Nat)(s:St)(i:Nat):St:=
 match s.tm i with
 |.ptr id _=>
  match s.hp id with
  |some (.st c)=>(List.range c.length).foldl (Adk N id) s
  |_=>s
 |_=>s
def ZG(m:List (Nat × Nat))(old new:Nat):List (Nat × Nat):=
 match FY m old with
 |some _=>m
 |none=>m++[(old,new)]
def Z6(N new:Nat):Ab->Nat->List (Nat × Nat)->List (Nat × Nat)
 |[],_,m=>m
 |.view id _ _ _::r,j,m=>Z6 N new r (j+1) (ZG m id (new+N*(j+1)))
 |_::r,j,m=>Z6 N new r (j+1) m
def SG(N:Nat)(s:St)(m:List (Nat × Nat))(i:Nat):List (Nat × Nat):=
 match s.tm i with
 |.view id _ _ _=>ZG m id i
 |.ptr id _=>
  match FY m id with
  |some _=>m
  |none=>
   match s.hp id with
   |some (.st c)=>Z6 N i c 0 (ZG m id i)
   |_=>ZG m id i
 |.agg c=>Z6 N i c 0 m
 |_=>m
def Ajz(m:List (Nat × Nat)):PV->PV
 |.view id es off n=>match FY m id with|some j=>.view j es off n|none=>.top
 |.ptr id off=>match FY m id with|some j=>.ptr j off|none=>.top
 |.sc v=>.sc v
 |.lst z es n c=>.lst z es n c
 |.iptr c off=>.iptr c off
 |_=>.top
def Am6(m:List (Nat × Nat)):PV->PV
 |.agg c=>.agg (c.map (Ajz m))
 |p=>Ajz m p
def Awp(m:List (Nat × Nat)):Cb->Cb
 |.st c=>.st (c.map (Ajz m))
 |b=>b
def Ec(N i:Nat):Nat:=i+N*2000
def Afj(N:Nat)(hp:Nat->Option Cb):Nat->List (Nat × Nat)
 |0=>[]
 |i+1=>bif (hp (Ec N i)).isSome then Afj N hp i++[(Ec N i,Ec N i)] else Afj N hp i
def DW(N:Nat)(hp:Nat->Option Cb):Nat->List (Nat × Nat)->List (Nat × Nat)
 |0,m=>m
 |i+1,m=>
  match hp (Ec N i) with
  |some (.st c)=>Z6 N (Ec N i) c 0 (DW N hp i m)
  |_=>DW N hp i m
def A9y(N:Nat)(hp:Nat->Option Cb)(k:Nat):List (Nat × Nat):=DW N hp k (Afj N hp k)
def Sl(m:List (Nat × Nat))(hp:Nat->Option Cb):List (Nat × Nat)->List (Nat × Cb)
 |[]=>[]
 |(old,new)::r=>match hp old with
  |some b=>(new,Awp m b)::Sl m hp r
  |none=>Sl m hp r
section
variable {R:Type}
def Amn(N:Nat)(ls:Cc)(q:Bool)(s:St)(K:St->Option R):Option R:=
 let s2:=bif q then s else ls.foldl (Adt N) (ls.foldl (SC N) s)
 let m:=ls.foldl (SG N s2) (A9y N s2.hp 8)
 As (Gd (m.map (·.1))&&Gd (m.map (·.2))) (K ⟨lk (ls.map fun i=>(i,Am6 m (s2.tm i))),B0 (Sl m s2.hp m)⟩)
def Ke(N L:Nat)(s:St)(K:St->Option R):Option R:=Amn N (Sc L N) false s K
def Ahd(N L:Nat)(s:St)(K:St->Option R):Option R:=Amn N (Sc L N) true s K
def YK(F:(St->Option R)->St->Option R)(nm:St->(St->Option R)->Option R):Nat->St->Option R
 |0,_=>none
 |n+1,s=>F (fun s'=>nm s' (YK F nm n)) s
def VG(n:Nat)(F:St->Option R)(s:St):Option R:=
 match n with
 |0=>none
 |_+1=>F s
def At9(s:St)(c:Operand)(kt kf:St->Option R):Option R:=
 match c with
 |.tmp d=>
  match s.tm d with
  |.sc (.bool b)=>A3 b (kt ⟨Dz s.tm d (.sc (.bool true)),s.hp⟩) (kf ⟨Dz s.tm d (.sc (.bool false)),s.hp⟩)
  |.ub=>BC (kt s) (kf s)
  |_=>none
 |.const (.bool true)=>kt s
 |.const (.bool false)=>kf s
 |_=>none
def Pm(C:Kk)(P:Program)(fu N:Nat)(call:Bp):Code->Nat->(Nat->Nat)->Nat->(St->Option R)->(Nat->St->Option R)->(St->Option R)->St->Option R
 |.skip,_,_,_,kn,_,_,s=>kn s
 |.region _ ops draw,_,_,_,kn,_,_,s=>YD (draw && !SV C P ops) (As (VQ C P ops) (Aq2 (QA C P ops (Nd ops.toList [])) fun sm=>Mu C P N call ops sm [] (List.range ops.size) s kn)) (YD draw (Vk C P N call ops ops.toList s kn) (Mw C P N call ops ops.toList s kn))
 |.seq a b,ln,lx,lr,kn,kx,kr,s=>Pm C P fu N call a (V4 b ln lx lr) lx lr (fun s'=>YD (Ak7 P a b) (YD (LZ a b) (Ahd N (V4 b ln lx lr) s' (VG fu fun s''=>Pm C P fu N call b ln lx lr kn kx kr s'')) (Ke N (V4 b ln lx lr) s' (VG fu fun s''=>Pm C P fu N call b ln lx lr kn kx kr s''))) (Pm C P fu N call b ln lx lr kn kx kr s')) kx kr s
 |.cond c a b,ln,lx,lr,kn,kx,kr,s=>At9 s c (Pm C P fu N call a ln lx lr kn kx kr) (Pm C P fu N call b ln lx lr kn kx kr)
 |.block id c,ln,lx,lr,kn,kx,kr,s=>Pm C P fu N call c ln (fun j=>bif Nat.beq j id then ln else lx j) lr kn (fun j s'=>bif Nat.beq j id then kn s' else kx j s') kr s
 |.loop c,ln,lx,lr,_,kx,kr,s=>
  Ke N (V4 (.loop c) ln lx lr) s (YK (fun k s'=>Pm C P fu N call c (V4 (.loop c) ln lx lr) lx lr k kx kr s') (Ke N (V4 (.loop c) ln lx lr)) fu)
 |.exit id,_,_,_,_,kx,_,s=>kx id s
 |.ret,_,_,_,_,_,kr,s=>kr s
 |_,_,_,_,_,_,_,_=>none
def Atr(id:Nat)(t:CT)(p:PV)(K:PV->List (Nat × Cb)->Option R):Option R:=
 match t with
 |.sl es=>
  match p with
  |.own es' n c=>bif Nat.beq es' es then K (.view id es 0 n) [(id,.ar false c)] else none
  |p=>Pq es p fun z n c=>K (.lst z es n c) []
 |t=>NM t p fun c=>K c []
def PM(N:Nat):Nat->List CT->Ab->(Ab->List (Nat × Cb)->Option R)->Option R
 |_,[],ps,K=>Aq ps (K [] [])
 |id,t::ts,ps,K=>Av ps fun p ps=>Atr id t p fun c b=>PM N (id+N) ts ps fun cs bs=>K (c::cs) (b++bs)
def inK(P:Program)(N i:Nat)(t:TypeId)(p:PV)(K:PV->List (Nat × Cb)->Option R):Option R:=
 match MP P t with
 |some e=>GA p fun ps=>As (Nat.blt i 8) (PM N (Ec N i+N) (M0 P e) ps fun cs bs=>K (.ptr (Ec N i) 0) ((Ec N i,.st cs)::bs))
 |none=>
  match p with
  |.tup ps=>F3 (A6k P t) fun e=>As (Nat.blt i 8) (Av ps fun q r=>Aq r (Je (Bw P e) q fun n c=>K (.view (Ec N i) (Bw P e) 0 n) [(Ec N i,.ar false c)]))
  |p=>
   bif Dd P t then Dr p fun ps=>PM N (i+N) (M0 P t) ps fun cs bs=>K (.agg cs) bs
   else PM N (i+N) (M0 P t) [p] fun cs bs=>Av cs fun c r=>Aq r (K c bs)
def Aih(P:Program)(N:Nat):Nat->List TypeId->Ab->(List (Nat × PV)->List (Nat × Cb)->Option R)->Option R
 |_,[],ps,K=>Aq ps (K [] [])
 |i,t::ts,ps,K=>Av ps fun p ps=>inK P N i t p fun v bs=>Aih P N (i+1) ts ps fun vs bs'=>K ((i,v)::vs) (bs++bs')
def A0r(hp:Nat->Option Cb)(t:CT)(p:PV)(K:PV->Cc->Cc->Option R):Option R:=
  match t with
  |.sl es=>
    match p with
    |.view id es' off n=>bif Nat.beq es' es&&Nat.beq off 0 then
        (match hp id with
         |some (.ar false c)=>As (decide (n*es<=c.length)) (K (.own es n (c.take (n*es))) [id] [])
         |_=>none) else none
    |p=>Pq es p fun z _ _=>As z (K (.own es 0 []) [] [])
  |t=>NM t p fun c=>K c [] []
def Ak1(shr:Bool)(hp:Nat->Option Cb)(t:CT)(p:PV)(K:PV->Cc->Cc->Option R):Option R:=
 bif shr then V0 (Pw hp) t p fun c m=>K c [] m else A0r hp t p K
def NA(shr:Bool)(hp:Nat->Option Cb):List CT->Ab->(Ab->Cc->Cc->Option R)->Option R
 |[],[],K=>K [] [] []
 |t::ts,p::ps,K=>Ak1 shr hp t p fun c m z=>NA shr hp ts ps fun cs ms zs=>K (c::cs) (m++ms) (z++zs)
 |_,_,_=>none
def Atv(P:Program)(shr:Bool)(hp:Nat->Option Cb)(t:TypeId)(p:PV)(K:PV->Cc->Cc->Option R):Option R:=
 match MP P t with
 |some e=>
  match p with
  |.ptr id off=>
   match hp id with
   |some (.st c)=>As (Nat.beq off 0) (NA shr hp (M0 P e) c fun cs m z=>K (.pbox cs) (id::m) z)
   |_=>none
  |_=>none
 |none=>
  bif Dd P t then Dr p fun ps=>NA shr hp (M0 P t) ps fun cs m z=>K (.agg cs) m z
  else NA shr hp (M0 P t) [p] fun cs m z=>Av cs fun c r=>Aq r (K c m z)
def As8(P:Program)(s:St)(r:ResultVar)(K:PV->Option R):Option R:=
 match r with
 |.tmp t=>K (s.tm t)
 |.cell a t=>JY P (rd s.hp) (Pw s.hp) t (s.tm a) K
def Adp(P:Program)(shr:Bool)(s:St):List ResultVar->List TypeId->(Ab->Cc->Cc->Option R)->Option R
 |[],[],K=>K [] [] []
 |r::rs,t::ts,K=>As8 P s r fun p=>Atv P shr s.hp t p fun v m z=>Adp P shr s rs ts fun vs ms zs=>K (v::vs) (m++ms) (z++zs)
 |_,_,_=>none
def SA(hp:Nat->Option Cb):List CT->Ab->Ab->(Ab->Cc->Cc->Option R)->Option R
 |[],[],[],K=>K [] [] []
 |t::ts,w::ws,p::ps,K=>Ak1 (match w with | .own _ _ _=>false|_=>true) hp t p fun c m z=>SA hp ts ws ps fun cs ms zs=>K (c::cs) (m++ms) (z++zs)
 |_,_,_,_=>none
def NV(P:Program)(N:Nat)(hp:Nat->Option Cb):Nat->List TypeId->Ab->(List Ab->Cc->Cc->Cc->Option R)->Option R
 |_,[],ps,K=>Aq ps (K [] [] [] [])
 |i,t::ts,ps,K=>Av ps fun p ps=>
  match p with
  |.pbox ws=>F3 (MP P t) fun e=>
    match hp (Ec N i) with
    |some (.st c)=>SA hp (M0 P e) ws c fun cs m z=>NV P N hp (i+1) ts ps fun r m' z' q=>K (cs::r) (m++m') (z++z') (Ec N i::q)
    |_=>none
  |.tup _=>
    match hp (Ec N i) with
    |some (.ar false c)=>NV P N hp (i+1) ts ps fun r m' z' q=>K (c::r) m' z' (Ec N i::q)
    |_=>none
  |_=>NV P N hp (i+1) ts ps K
def Al2(rs:List ResultVar):Nat:=rs.foldl (fun m r=>match r with | .tmp t=>Ar0 m t | .cell a _=>Ar0 m a) 0
end
def UE(P:Program):Nat->List TypeId->Nat->Nat
 |_,[],m=>m
 |i,t::ts,m=>UE P (i+1) ts (match P.underlying t with|some (.pointer _)=>Ar0 m i|_=>m)
def Afy(C:Kk)(P:Program)(f:FuncId)(fn:Func)(args:Ab)(s:St):Option D0:=
 Adp P (C.shr f) s fn.results.toList fn.resultTypes.toList fun vs m z=>NV P fn.ntmps s.hp 0 fn.params.toList args fun os m' z' q=>
  As (Gd ((m++m')++q)&&(z++z').all (fun i=> !(((m++m')++q).any (Nat.beq i)))) (some ⟨vs,os⟩)
def Ayk(C:Kk)(P:Program)(fu:Nat)(call:Bp)(f:FuncId)(fn:Func)(c:Code)(args:Ab):Option D0:=
  Aih P fn.ntmps 0 fn.params.toList args fun tms bs=>As (Nat.ble args.length fn.ntmps&&C1 (fun _=>none) bs)
    (let lr:=UE P 0 fn.params.toList (Al2 fn.results.toList)
     Pm C P fu fn.ntmps call c lr (fun _=>0) lr (Afy C P f fn args) (fun _ _=>none) (Afy C P f fn args) ⟨lk tms,B0 bs⟩)
def Ar(C:Kk)(P:Program)(fu:Nat):Nat->FuncId->Ab->Option D0
 |0,_,_=>none
 |d+1,f,args=>
  match C.ext f with
  |some g=>g args
  |none=>
   match P.funcs[f]? with
   |none=>none
   |some fn=>match fn.body with
    |none=>none
    |some c=>Ayk C.core P fu (Ar C P fu d) f fn c args
inductive Dir where
 |l
 |r
 |i (m:Nat)
section
variable {R:Type}
def IE(C:Kk)(P:Program)(fu N:Nat)(call:Bp):List Dir->Code->Nat->(Nat->Nat)->Nat->(St->Option R)->(Nat->St->Option R)->(St->Option R)->Nat->St->Option R
 |[],.seq _ b,ln,lx,lr,kn,kx,kr,n,s=>VG n (fun s''=>Pm C P fu N call b ln lx lr kn kx kr s'') s
 |[],.loop c,ln,lx,lr,_,kx,kr,n,s=>YK (fun k s'=>Pm C P fu N call c (V4 (.loop c) ln lx lr) lx lr k kx kr s') (Ke N (V4 (.loop c) ln lx lr)) n s
 |.l::p,.seq a b,ln,lx,lr,kn,kx,kr,n,s=>IE C P fu N call p a (V4 b ln lx lr) lx lr (fun s'=>YD (Ak7 P a b) (YD (LZ a b) (Ahd N (V4 b ln lx lr) s' (VG fu fun s''=>Pm C P fu N call b ln lx lr kn kx kr s'')) (Ke N (V4 b ln lx lr) s' (VG fu fun s''=>Pm C P fu N call b ln lx lr kn kx kr s''))) (Pm C P fu N call b ln lx lr kn kx kr s')) kx kr n s
 |.r::p,.seq _ b,ln,lx,lr,kn,kx,kr,n,s=>IE C P fu N call p b ln lx lr kn kx kr n s
 |.l::p,.cond _ a _,ln,lx,lr,kn,kx,kr,n,s=>IE C P fu N call p a ln lx lr kn kx kr n s
 |.r::p,.cond _ _ b,ln,lx,lr,kn,kx,kr,n,s=>IE C P fu N call p b ln lx lr kn kx kr n s
 |.l::p,.block id c,ln,lx,lr,kn,kx,kr,n,s=>IE C P fu N call p c ln (fun j=>bif Nat.beq j id then ln else lx j) lr kn (fun j s'=>bif Nat.beq j id then kn s' else kx j s') kr n s
 |.i m::p,.loop c,ln,lx,lr,_,kx,kr,n,s=>
  IE C P fu N call p c (V4 (.loop c) ln lx lr) lx lr
   (fun s'=>Ke N (V4 (.loop c) ln lx lr) s' (YK (fun k s'=>Pm C P fu N call c (V4 (.loop c) ln lx lr) lx lr k kx kr s') (Ke N (V4 (.loop c) ln lx lr)) m)) kx kr n s
 |_,_,_,_,_,_,_,_,_,_=>none
end
def A5l(C:Kk)(P:Program)(fu:Nat)(call:Bp)(f:FuncId)(fn:Func)(c:Code)(args:Ab)(p:List Dir)(n:Nat)(s:St):Option D0:=
 let lr:=UE P 0 fn.params.toList (Al2 fn.results.toList)
 IE C P fu fn.ntmps call p c lr (fun _=>0) lr (Afy C P f fn args) (fun _ _=>none) (Afy C P f fn args) n s
def Ayo:Cc:=[
 1000000]
def A2k:Cc:=[
 10,
 36,
 11,
 16,
 26,
 48,
 91,
 27,
 52,
 37,
 71,
 72,
 12,
 43,
 83,
 28,
 1000000]
def A32:Cc:=[
 1000000]
def Ax7:Cc:=[
 1000000]
def A3a:Cc:=[
 108,
 133,
 106,
 87,
 142,
 122,
 123,
 144,
 132,
 88,
 121,
 117,
 138,
 1000000]
def UD(args:Ab):Option D0:=
 match args with
 |[.sc (.string s)]=>bif decide (s.size<=9223372036854775807) then some ⟨[.sc (.bool (Lib.validD s.data.toList))],[]⟩ else none
 |_=>none
def DV(args:Ab):Option D0:=
  match args with
  |[.lst _ 1 n c,.lst _ 1 m c']=>bif Nat.beq c.length n&&Nat.beq c'.length m then
      (match bytesOf c,bytesOf c' with
       |some a,some b=>some ⟨[.sc (.int .i64 (Lib.compareBytes a b))],[]⟩
       |_,_=>none) else none
  |_=>none
def MN:Cc:=[
 147,
 86,
 135,
 136,
 134,
 109,
 66,
 137,
 128,
 103,
 61,
 33,
 85,
 79,
 120,
 110,
 111,
 115,
 75,
 112,
 114,
 69,
 67,
 68,
 92,
 76,
 129,
 125,
 46,
 49,
 40,
 71,
 72,
 37,
 52,
 1000000]
def CB:Kk:=⟨fun f=>A2k.any (Nat.beq f),fun f i=>Nat.beq i 0&&A3a.any (Nat.beq f),fun f i=>(Nat.beq i 0&&A32.any (Nat.beq f))||(Nat.beq i 2&&Ax7.any (Nat.beq f)),fun f=>Ayo.any (Nat.beq f),fun _=>none⟩
def CX(xs:FuncId->Option (Ab->Option D0)):Kk:={ CB with ext:=fun f=>bif MN.any (Nat.beq f) then none else xs f }
def WP(f:Func):Code:=match f.body with|some c=>c|none=>.skip
section
variable {R:Type}{r:Option R}
theorem Ah{k:IntKind}{p:PV}{K:Int->Option R}{n:Int}(h:p=.sc (.int k n))(hk:K n=r):Be k p K=r:=by subst h;unfold Be;simp[hk]
theorem A9u{p:PV}{K:IntKind->Int->Option R}{k:IntKind}{n:Int}(h:p=.sc (.int k n))(hk:K k n=r):Fk p K=r:=by subst h;exact hk
theorem Ao{p:PV}{K:Bool->Option R}{b:Bool}(h:p=.sc (.bool b))(hk:K b=r):Cg p K=r:=by subst h;exact hk
theorem Ax{p:PV}{K:ByteArray->Option R}{s:ByteArray}(h:p=.sc (.string s))(hk:K s=r):D8 p K=r:=by subst h;exact hk
theorem Ba{es:Nat}{p:PV}{K:Bool->Nat->Ab->Option R}{z:Bool}{n:Nat}{c:Ab}(h:p=.lst z es n c)(hk:K z n c=r):Pq es p K=r:=by subst h;unfold Pq;simp[Pu,hk]
theorem Bb{es:Nat}{p:PV}{K:Nat->Ab->Option R}{n:Nat}{c:Ab}(h:p=.own es n c)(hk:K n c=r):Je es p K=r:=by subst h;unfold Je;simp[Pu,hk]
theorem Ai{b:Bool}{K:Option R}(h:b=true)(hk:K=r):As b K=r:=by subst h;exact hk
theorem Au9{b:Bool}{x y:Option R}(hx:b=true->x=r)(hy:b=false->y=r):A3 b x y=r:=by
 cases b
 ·exact hy rfl
 ·exact hx rfl
theorem Aje{b:Bool}{x y:Option R}(h:b=true)(hx:x=r):A3 b x y=r:=by subst h;exact hx
theorem Aiq{b:Bool}{x y:Option R}(h:b=false)(hx:y=r):A3 b x y=r:=by subst h;exact hx
theorem Gm{α:Type}{o:Option α}{K:α->Option R}{a:α}(h:o=some a)(hk:K a=r):F3 o K=r:=by subst h;exact hk
theorem Ad{α:Type}{l:List α}{K:α->List α->Option R}{a:α}{t:List α}(h:l=a::t)(hk:K a t=r):Av l K=r:=by subst h;exact hk
theorem Aj{α:Type}{l:List α}{K:Option R}(h:l=[])(hk:K=r):Aq l K=r:=by subst h;exact hk
theorem Au{p:PV}{K:Ab->Option R}{c:Ab}(h:p=.agg c)(hk:K c=r):Dr p K=r:=by subst h;exact hk
theorem Acs{p:PV}{K:Ab->Option R}{c:Ab}(h:p=.pbox c)(hk:K c=r):GA p K=r:=by subst h;exact hk
theorem Ae{o:Option D0}{K:Ab->List Ab->Option R}{v:Ab}{q:List Ab}(h:o=some ⟨v,q⟩)(hk:K v q=r):Bk o K=r:=by subst h;exact hk
theorem Ab4{x y:Option R}(hx:x=r)(hy:y=r):BC x y=r:=by subst hx;subst hy;unfold BC;simp
end
theorem RO(a b:Int):(a != b)=decide (a≠b):=by by_cases h:a=b<;>simp[h,bne]
theorem Aoy(a b:Int):(a==b)=decide (a=b):=by by_cases h:a=b<;>simp[h]
section
variable {R:Type}
theorem Alp(v:Ab)(o:List Ab)(K:Ab->List Ab->Option R):Bk (some ⟨v,o⟩) K=K v o:=by exact id rfl
theorem Asa{α:Type}(K:Option R):Aq ([]:List α) K=K:=by exact id rfl
theorem Amv{α:Type}(a:α)(r:List α)(K:α->List α->Option R):Av (a::r) K=K a r:=by exact id rfl
theorem Amd(b:Bool)(K:Bool->Option R):Cg (.sc (.bool b)) K=K b:=by exact id rfl
theorem Auw(s:ByteArray)(K:ByteArray->Option R):D8 (.sc (.string s)) K=K s:=by exact id rfl
theorem Abu(k:IntKind)(n:Int)(K:Int->Option R):Be k (.sc (.int k n)) K=K n:=by unfold Be;simp
theorem Aqn(k:IntKind)(n:Int)(K:IntKind->Int->Option R):Fk (.sc (.int k n)) K=K k n:=by exact id rfl
theorem Azm(z:Bool)(es n:Nat)(c:Ab)(K:Bool->Nat->Ab->Option R):Pq es (.lst z es n c) K=K z n c:=by unfold Pq;simp
theorem Azp(es n:Nat)(c:Ab)(K:Nat->Ab->Option R):Je es (.own es n c) K=K n c:=by unfold Je;simp
theorem Arg(c:Ab)(K:Ab->Option R):Dr (.agg c) K=K c:=by exact id rfl
theorem Ala(c:Ab)(K:Ab->Option R):GA (.pbox c) K=K c:=by exact id rfl
theorem Akh{α:Type}(a:α)(K:α->Option R):F3 (some a) K=K a:=by exact id rfl
theorem Jc{α:Type}(a:α)(K:α->Option R):Aa a K=K a:=by exact id rfl
theorem Arh(K:Option R):As true K=K:=by exact id rfl
theorem EF(p:Prop)[Decidable p](K:Option R)(h:p):As (decide p) K=K:=by simp[As,h]
theorem Al7(b c:Bool)(K:Option R):As (b&&c) K=As b (As c K):=by cases b<;>rfl
theorem Atf(x y:Option R):A3 true x y=x:=by exact id rfl
theorem Abv(x y:Option R):A3 false x y=y:=by exact id rfl
theorem HM(p:Prop)[Decidable p](x y:Option R)(h:p):A3 (decide p) x y=x:=by simp[A3,h]
theorem Ef(p:Prop)[Decidable p](x y:Option R)(h:¬p):A3 (decide p) x y=y:=by simp[A3,h]
theorem NF(p:Prop)[Decidable p](x y:Option R):A3 (decide p) x y=if p then x else y:=by by_cases h:p<;>simp[A3,h]
theorem Hn(a b:Int)(x y:Option R):A3 (a==b) x y=if a=b then x else y:=by rw[Aoy,NF]
theorem Fj(a b:Int)(x y:Option R):A3 (a != b) x y=if a=b then y else x:=by rw[RO,NF];by_cases h:a=b<;>simp[h]
theorem SI(x:Option R):BC x x=x:=by unfold BC;simp
end
theorem Ag{x:Int}(h1: -9223372036854775808<=x)(h2:x<=9223372036854775807):IntKind.wrap .i64 x=x:=by have:=IntWalk.i64_in x (by omega);exact this
theorem Cd{x:Int}(h1:0<=x)(h2:x<=18446744073709551615):IntKind.wrap .u64 x=x:=by simp only[IntKind.wrap,IntKind.signed,IntKind.bits];simp;omega
theorem Ia{x:Int}(h1:0<=x)(h2:x<=255):IntKind.wrap .u8 x=x:=by simp only[IntKind.wrap,IntKind.signed,IntKind.bits];simp;omega
theorem Ls(x:Int):0<=IntKind.wrap .u64 x/\IntKind.wrap .u64 x<=18446744073709551615:=by simp only[IntKind.wrap,IntKind.signed,IntKind.bits];simp;omega
theorem Dc{α:Type}{l r:List α}{x:α}{i:Nat}(h:l.drop i=x::r):i<l.length/\l[i]?=some x/\l.drop (i+1)=r:=by
 have h1:i<l.length:=by
  rcases Mi i l.length with h1|h1
  ·exact h1
  ·rw[List.drop_of_length_le h1] at h;cases h
 rw[List.drop_eq_getElem_cons h1] at h;injection h with h2 h3;exact⟨h1,by rw[List.getElem?_eq_getElem h1,h2],h3⟩
theorem drop_nil{α:Type}{l:List α}{i:Nat}(h:l.drop i=[]):l.length<=i:=by have:=congrArg List.length h;simp at this;omega
section
variable {α:Type}{f:α->Ab}{k:Nat}
theorem Xk(hf:∀x,(f x).length=k):∀(l:List α),(l.flatMap f).length=l.length*k
 |[]=>by simp
 |x::l=>by simp[hf x,Xk hf l,Nat.succ_mul];omega
theorem Ads(hf:∀x,(f x).length=k):∀(l:List α)(i:Nat),(l.flatMap f).drop (i*k)=(l.drop i).flatMap f
 |l,0=>by simp
 |[],i+1=>by simp
 |x::l,i+1=>by
  rw[Jr,Nat.succ_mul,Nat.add_comm,<-List.drop_drop,List.drop_append_of_le_length (by rw[hf x];omega)]
  rw[show (f x).drop k=[] from List.drop_of_length_le (by rw[hf x];omega),SR]
  exact Ads hf l i
theorem Alm(hf:∀x,(f x).length=k):∀(l:List α)(i:Nat),(l.flatMap f).take (i*k)=(l.take i).flatMap f
 |l,0=>by simp
 |[],i+1=>by simp
 |x::l,i+1=>by
  rw[Jr,Nat.succ_mul,Nat.add_comm,List.take_succ_cons,Jr,<-Alm hf l i];rw[show k+i*k=(f x).length+i*k by rw[hf x],List.take_length_add_append]
theorem Hv(hf:∀x,(f x).length=k){l:List α}{i:Nat}{x:α}(h:l[i]?=some x){j:Nat}(hj:j<k):(l.flatMap f).getD (i*k+j) .top=(f x).getD j .top:=by
 have h1:((l.flatMap f).drop (i*k))[j]?=(l.flatMap f)[i*k+j]?:=List.getElem?_drop;rw[Ads hf] at h1
 have h2:i<l.length:=by
  rcases Mi i l.length with h1|h1
  ·exact h1
  ·rw[List.getElem?_eq_none h1] at h;cases h
 rw[List.drop_eq_getElem_cons h2,Jr] at h1;have h3:l[i]=x:=by rw[List.getElem?_eq_getElem h2] at h;injection h
 rw[h3,List.getElem?_append_left (by rw[hf x];exact hj)] at h1
 simp only[List.getD_eq_getElem?_getD,<-h1]
theorem Au0(hf:∀x,(f x).length=k){p:PV}{j:Nat}(hj:j<k):∀{l:List α}{i:Nat}{x y:α},l[i]?=some x->f y=(f x).set j p->(l.flatMap f).set (i*k+j) p=(l.set i y).flatMap f
 |[],i,x,y,h,_=>by simp at h
 |a::l,0,x,y,h,hy=>by
  simp at h;subst h;rw[Nat.zero_mul,Cm,Jr,List.set_cons_zero,Jr,hy,List.set_append_left _ _ (by rw[hf];exact hj)]
 |a::l,i+1,x,y,h,hy=>by
  simp at h;rw[Jr,List.set_cons_succ,Jr,List.set_append_right _ _ (by rw[hf,Nat.succ_mul];omega),hf]
  congr 1
  rw[show (i+1)*k+j-k=i*k+j by rw[Nat.succ_mul];omega]
  exact Au0 hf hj h hy
theorem Hg{c:Ab}{p:PV}{i:Nat}(h:i<c.length):Bx c [p] i=c.set i p:=by unfold Bx;rw[List.set_eq_take_append_cons_drop,Bq h];simp
end
theorem A2x{α:Type}{l:List α}{i:Nat}{x:α}(h:l[i]?=some x):i<l.length:=by
 rcases Mi i l.length with h1|h1
 ·exact h1
 ·rw[List.getElem?_eq_none h1] at h;cases h
abbrev Axk(k:IntKind)(n:Int):Ab:=[.sc (.int k n)]
abbrev Ac(k:IntKind)(l:Ca):Ab:=l.flatMap (Axk k)
theorem DU(k:IntKind)(n:Int):(Axk k n).length=1:=rfl
theorem Vg{k:IntKind}{l:Ca}{i:Nat}{n:Int}(h:l[i]?=some n):(Ac k l).getD i .top=.sc (.int k n):=by
 have:=Hv (DU k) h (j:=0) (by omega)
 simpa using this
theorem Am(k:IntKind)(l:Ca):(Ac k l).length=l.length:=by rw[Xk (DU k)];omega
theorem Hj(k:IntKind)(l:Ca)(n:Int):Ac k l++[.sc (.int k n)]=Ac k (l++[n]):=by simp
theorem Mb(k:IntKind)(l:Ca):List.take l.length (Ac k l)=Ac k l:=Gv (by rw[Am];omega)
theorem Aer{a m:Int}(h0:0<=m)(h1:m<9223372036854775808):0<=Qg .i64 a m/\Qg .i64 a m<=m:=by
 have ET:(BitVec.ofInt 64 a &&& BitVec.ofInt 64 m).toNat<=m.toNat:=by
  rw[BitVec.toNat_and];refine Nat.le_trans Nat.and_le_right ?_;rw[BitVec.toNat_ofInt];omega
 have:Qg .i64 a m=((BitVec.ofInt 64 a &&& BitVec.ofInt 64 m).toNat:Int):=by
  unfold Qg;exact Ag (by omega) (by show ((BitVec.ofInt 64 a &&& BitVec.ofInt 64 m).toNat:Int)<=_;omega)
 rw[this];omega
theorem B4:type_of% @Alp/\type_of% @Asa/\type_of% @Amv/\type_of% @Amd/\type_of% @Auw/\type_of% @Abu/\type_of% @Aqn/\type_of% @Azm/\type_of% @Azp/\type_of% @Arg/\type_of% @Ala/\type_of% @Akh/\type_of% @Jc/\type_of% @Arh/\type_of% @EF/\type_of% @Al7/\type_of% @Atf/\type_of% @Abv/\type_of% @HM/\type_of% @Ef/\type_of% @SI/\type_of% @Bool.not_true/\type_of% @Bool.not_false/\type_of% @Bool.false_eq_true/\type_of% @if_true.{1}/\type_of% @if_false.{1}/\type_of% @Bool.true_and/\type_of% @Bool.and_true/\type_of% @Bool.false_and/\type_of% @Bool.and_false/\type_of% @decide_true/\type_of% @decide_false:=
 ⟨@Alp,@Asa,@Amv,@Amd,@Auw,@Abu,@Aqn,@Azm,@Azp,@Arg,@Ala,@Akh,@Jc,@Arh,@EF,@Al7,@Atf,@Abv,@HM,@Ef,@SI,@Bool.not_true,@Bool.not_false,@Bool.false_eq_true,@if_true.{1},@if_false.{1},@Bool.true_and,@Bool.and_true,@Bool.false_and,@Bool.and_false,@decide_true,@decide_false⟩
theorem gT:type_of% @Bool.and_eq_true/\type_of% @decide_eq_true_eq/\type_of% @beq_iff_eq.{0}/\type_of% @bne_iff_ne.{0}/\type_of% @ne_eq.{1}/\type_of% @Bool.not_eq_true'/\type_of% @true_and/\type_of% @and_true:=
 ⟨@Bool.and_eq_true,@decide_eq_true_eq,@beq_iff_eq.{0},@bne_iff_ne.{0},@ne_eq.{1},@Bool.not_eq_true',@true_and,@and_true⟩
theorem gF:type_of% @decide_eq_false_iff_not/\type_of% @beq_eq_false_iff_ne.{0}/\type_of% @bne_eq_false_iff_eq.{0}/\type_of% @ne_eq.{1}/\type_of% @Bool.not_eq_false':=
 ⟨@decide_eq_false_iff_not,@beq_eq_false_iff_ne.{0},@bne_eq_false_iff_eq.{0},@ne_eq.{1},@Bool.not_eq_false'⟩
section
open Go.RowKit
def B9{α β:Type}(R:α->β->Prop):List α->List β->Prop
 |[],[]=>True
 |a::zs,b::bs=>R a b/\B9 R zs bs
 |_,_=>False
section
variable {α β γ:Type}{R S:α->β->Prop}
theorem B9.len:∀{zs:List α}{bs:List β},B9 R zs bs->zs.length=bs.length
 |[],[],_=>rfl
 |_::_,_::_,h=>by simp[B9.len h.2]
 |[],_::_,h=>h.elim
 |_::_,[],h=>h.elim
theorem B9.at_:∀{zs:List α}{bs:List β},B9 R zs bs->∀{i:Nat} {a b},zs[i]?=some a->bs[i]?=some b->R a b
 |[],[],_,i,a,b,h,_=>by simp at h
 |_::_,_::_,h,0,a,b,ha,hb=>by simp at ha hb;subst ha;subst hb;exact h.1
 |_::_,_::_,h,i+1,a,b,ha,hb=>by simp at ha hb;exact B9.at_ h.2 ha hb
 |[],_::_,h,_,_,_,_,_=>h.elim
 |_::_,[],h,_,_,_,_,_=>h.elim
theorem B9.of_at:∀{zs:List α}{bs:List β},zs.length=bs.length->(∀(i:Nat) a b,zs[i]?=some a->bs[i]?=some b->R a b)->B9 R zs bs
 |[],[],_,_=>trivial
 |a::zs,b::bs,hl,h=>⟨h 0 a b rfl rfl,B9.of_at (by simpa using hl) fun i x y hx hy=>h (i+1) x y hx hy⟩
 |[],_::_,hl,_=>by simp at hl
 |_::_,[],hl,_=>by simp at hl
theorem B9.mono(hRS:∀a b,R a b->S a b):∀{zs:List α}{bs:List β},B9 R zs bs->B9 S zs bs
 |[],[],_=>trivial
 |_::_,_::_,h=>⟨hRS _ _ h.1,B9.mono hRS h.2⟩
 |[],_::_,h=>h.elim
 |_::_,[],h=>h.elim
theorem B9.mono_mem:∀{zs:List α}{bs:List β},(∀a∈zs,∀b,R a b->S a b)->B9 R zs bs->B9 S zs bs
 |[],[],_,_=>trivial
 |a::_,_::_,hRS,h=>⟨hRS a (by simp) _ h.1,B9.mono_mem (fun x hx=>hRS x (by simp[hx])) h.2⟩
 |[],_::_,_,h=>h.elim
 |_::_,[],_,h=>h.elim
theorem B9.app:∀{zs:List α}{bs:List β}{as':List α}{bs':List β},B9 R zs bs->B9 R as' bs'->B9 R (zs++as') (bs++bs')
 |[],[],_,_,_,h'=>h'
 |_::_,_::_,_,_,h,h'=>⟨h.1,B9.app h.2 h'⟩
 |[],_::_,_,_,h,_=>h.elim
 |_::_,[],_,_,h,_=>h.elim
theorem B9.take:∀(n:Nat){zs:List α}{bs:List β},B9 R zs bs->B9 R (zs.take n) (bs.take n)
 |0,_,_,_=>by simp[B9]
 |_+1,[],[],_=>trivial
 |n+1,_::_,_::_,h=>⟨h.1,B9.take n h.2⟩
 |_+1,[],_::_,h=>h.elim
 |_+1,_::_,[],h=>h.elim
theorem B9.drop:∀(n:Nat){zs:List α}{bs:List β},B9 R zs bs->B9 R (zs.drop n) (bs.drop n)
 |0,_,_,h=>h
 |_+1,[],[],_=>trivial
 |n+1,_::_,_::_,h=>B9.drop n h.2
 |_+1,[],_::_,h=>h.elim
 |_+1,_::_,[],h=>h.elim
end
inductive Bd(w:World)(A:Nat->Prop):PV->Value->Prop where
 |sc (v:Value):Bd w A (.sc v) v
 |top (v:Value):Bd w A .top v
 |ub (b:Bool):Bd w A .ub (.bool b)
 |lnil (z:Bool) (es:Nat):Bd w A (.lst z es 0 []) (.slice none 0 0)
 |lemp (es:Nat) (a:Addr) (cap:Nat):Bd w A (.lst false es 0 []) (.slice (some a) 0 cap)
 |lst (es n:Nat) (cells:Ab) (a:Addr) (cap:Nat) (f:Nat->Value) (hs:a.spot=none) (hb:a.block<w.heap.size) (hA:¬A a.block) (hn:n<=cap)
   (hc:∀j c,cells[j]?=some c->w.cell? (a.add j)=some (f j)) (h1:∀j c,cells[j]?=some c->(f j).oneCell'=true) (hr:∀j c,cells[j]?=some c->Bd w A c (f j)):Bd w A (.lst false es n cells) (.slice (some a) n cap)
def bsz(w:World)(b:Nat):Nat:=
 match w.heap[b]? with
 |some (.cells c _ _)=>c.size
 |_=>0
def YO(w:World)(A:Nat->Prop)(a:Addr)(cells:Ab):Prop:=∀j c,cells[j]?=some c->∃v,w.cell? (a.add j)=some v/\v.oneCell'=true/\Bd w A c v
def Cx(w:World)(A:Nat->Prop)(β:Nat->Option (Nat × Nat))(p:PV)(v:Value):Prop:=
 match p with
 |.view id es off n=>(β id=none/\off=0/\n=0/\∃ad,v=.slice ad 0 0) \/
   ∃b o x cap,β id=some (b,o)/\v=.slice (some ⟨b,x,none⟩) n cap/\(x=o+off\/(n=0/\off≠0))/\n<=cap/\x+cap*es<=bsz w b/\b<w.heap.size
 |.ptr id off=>∃b o,β id=some (b,o)/\v=.pointer (some ⟨b,o+off,none⟩)
 |.iptr c off=>∃a:Addr,v=.pointer (some (a.add off))/\a.spot=none/\a.block<w.heap.size/\¬A a.block/\YO w A a c
 |p=>Bd w A p v
def Jb(w:World)(A:Nat->Prop)(β:Nat->Option (Nat × Nat))(p:PV)(v:Value):Prop:=
 match p with
 |.agg cs=>∃vs,v=.agg ⟨vs⟩/\B9 (Cx w A β) cs vs
 |p=>Cx w A β p v
def Fc(w:World)(A:Nat->Prop)(β:Nat->Option (Nat × Nat))(p:PV)(v:Value):Prop:=
 match p with
 |.tup ps=>∃vs,v=.tuple ⟨vs⟩/\B9 (Jb w A β) ps vs
 |p=>Jb w A β p v
structure C6(A:Nat->Prop)(w w':World):Prop where
 size:w.heap.size<=w'.heap.size
 keep:∀b,b<w.heap.size->¬A b->w'.heap[b]?=w.heap[b]?
 bs:∀b,b<w.heap.size->bsz w b<=bsz w' b
theorem Io(a:Addr)(j:Nat):(a.add j).block=a.block:=by unfold Addr.add;split<;>rfl
theorem add_add(a:Addr)(i j:Nat):(a.add i).add j=a.add (i+j):=by unfold Addr.add;by_cases hi:i=0<;>by_cases hj:j=0<;>simp[hi,hj,Sb]
theorem Fy(b o j:Nat):(⟨b,o,none⟩:Addr).add j=⟨b,o+j,none⟩:=by unfold Addr.add;by_cases hj:j=0<;>simp[hj]
theorem Atu{a:Addr}(h:a.spot=none)(j:Nat):(a.add j).spot=none:=by unfold Addr.add;split<;>simp[h]
section
variable {w w':World}{A A':Nat->Prop}{β β':Nat->Option (Nat × Nat)}
theorem C6.cell(h:C6 A w w'){a:Addr}(hb:a.block<w.heap.size)(hA:¬A a.block):w'.cell? a=w.cell? a:=
 World.cell?_of_block (h.keep a.block hb hA)
theorem Bd.step(h:C6 A w w')(hA:∀b,b<w.heap.size->A' b->A b){p:PV}{v:Value}(t:Bd w A p v):Bd w' A' p v:=by
 induction t with
 |sc v=>exact .sc v
 |top v=>exact .top v
 |ub b=>exact .ub b
 |lnil z es=>exact .lnil z es
 |lemp es a cap=>exact .lemp es a cap
 |lst es n cells a cap f hs hb hA1 hn hc h1 hr ih=>
  refine .lst es n cells a cap f hs (Jm hb h.size) (fun x=>hA1 (hA _ hb x)) hn (fun j c hj=>?_) h1 (fun j c hj=>ih j c hj);rw[h.cell (by rw[Io];exact hb) (by rw[Io];exact hA1)]
  exact hc j c hj
theorem YO.step(h:C6 A w w')(hA:∀b,b<w.heap.size->A' b->A b){a:Addr}(hb:a.block<w.heap.size)(hn:¬A a.block){cells:Ab}(t:YO w A a cells):YO w' A' a cells:=by intro j c hj;obtain⟨v,hv,h1,ht⟩:=t j c hj;exact⟨v,by rw[h.cell (by rw[Io];exact hb) (by rw[Io];exact hn)];exact hv,h1,ht.step h hA⟩
theorem Cx.step(h:C6 A w w')(hA:∀b,b<w.heap.size->A' b->A b){p:PV}{v:Value}(hβ:∀id∈A9 p,β' id=β id)(t:Cx w A β p v):Cx w' A' β' p v:=by
 cases p with
 |view id es off n=>
  have e:=hβ id (by simp[A9]);rcases t with⟨h1,h2,h3,h4⟩|⟨b,o,x,cap,h1,h2,hx,h3,h4,h5⟩
  ·exact .inl ⟨by rw[e];exact h1,h2,h3,h4⟩
  ·exact .inr ⟨b,o,x,cap,by rw[e];exact h1,h2,hx,h3,Nat.le_trans h4 (h.bs b h5),Jm h5 h.size⟩
 |ptr id off=>
  have e:=hβ id (by simp[A9]);obtain⟨b,o,h1,h2⟩:=t;exact⟨b,o,by rw[e];exact h1,h2⟩
 |iptr c off=>
  obtain⟨a,h1,h2,h3,h4,h5⟩:=t;exact⟨a,h1,h2,Jm h3 h.size,fun x=>h4 (hA _ h3 x),h5.step h hA h3 h4⟩
 |sc v=>exact Bd.step h hA t
 |lst z es n c=>exact Bd.step h hA t
 |own es n c=>exact Bd.step h hA t
 |pbox c=>exact Bd.step h hA t
 |agg c=>exact Bd.step h hA t
 |tup c=>exact Bd.step h hA t
 |top=>exact Bd.step h hA t
 |ub=>exact Bd.step h hA t
theorem Jb.step(h:C6 A w w')(hA:∀b,b<w.heap.size->A' b->A b){p:PV}{v:Value}(hβ:∀id∈C3 p,β' id=β id)(t:Jb w A β p v):Jb w' A' β' p v:=by
 cases p with
 |agg cs=>
  obtain⟨vs,rfl,h2⟩:=t;exact⟨vs,rfl,h2.mono_mem fun c hc v hv=>hv.step h hA fun id B5=>hβ id (by simp only[C3,List.mem_flatMap];exact⟨c,hc,B5⟩)⟩
 |sc x=>exact Cx.step (p:=.sc x) h hA hβ t
 |lst x y z u=>exact Cx.step (p:=.lst x y z u) h hA hβ t
 |own x y z=>exact Cx.step (p:=.own x y z) h hA hβ t
 |view x y z u=>exact Cx.step (p:=.view x y z u) h hA hβ t
 |ptr x y=>exact Cx.step (p:=.ptr x y) h hA hβ t
 |iptr x y=>exact Cx.step (p:=.iptr x y) h hA hβ t
 |pbox x=>exact Cx.step (p:=.pbox x) h hA hβ t
 |tup x=>exact Cx.step (p:=.tup x) h hA hβ t
 |top=>exact Cx.step (p:=.top) h hA hβ t
 |ub=>exact Cx.step (p:=.ub) h hA hβ t
theorem Fc.step(h:C6 A w w')(hA:∀b,b<w.heap.size->A' b->A b){p:PV}{v:Value}(hβ:∀id∈Cn p,β' id=β id)(t:Fc w A β p v):Fc w' A' β' p v:=by
 cases p with
 |tup cs=>
  obtain⟨vs,rfl,h2⟩:=t;exact⟨vs,rfl,h2.mono_mem fun c hc v hv=>hv.step h hA fun id B5=>hβ id (by simp only[Cn,List.mem_flatMap];exact⟨c,hc,B5⟩)⟩
 |sc x=>exact Jb.step (p:=.sc x) h hA hβ t
 |lst x y z u=>exact Jb.step (p:=.lst x y z u) h hA hβ t
 |own x y z=>exact Jb.step (p:=.own x y z) h hA hβ t
 |view x y z u=>exact Jb.step (p:=.view x y z u) h hA hβ t
 |ptr x y=>exact Jb.step (p:=.ptr x y) h hA hβ t
 |iptr x y=>exact Jb.step (p:=.iptr x y) h hA hβ t
 |pbox x=>exact Jb.step (p:=.pbox x) h hA hβ t
 |top=>exact Jb.step (p:=.top) h hA hβ t
 |ub=>exact Jb.step (p:=.ub) h hA hβ t
 |agg x=>exact Jb.step (p:=.agg x) h hA hβ t
theorem C6.refl(A:Nat->Prop)(w:World):C6 A w w:=⟨C9 _,fun _ _ _=>rfl,fun _ _=>C9 _⟩
theorem YO.weak(hA:∀b,b<w.heap.size->A' b->A b){a:Addr}{cells:Ab}(t:YO w A a cells):YO w A' a cells:=by intro j c hj;obtain⟨v,hv,h1,ht⟩:=t j c hj;exact⟨v,hv,h1,ht.step (C6.refl A w) hA⟩
theorem C6.trans{w'':World}(h:C6 A w w')(h':C6 A' w' w'')(hA:∀b,b<w.heap.size->A' b->A b):C6 A w w'':=
  ⟨Nat.le_trans h.size h'.size,fun b hb hn=>(h'.keep b (Jm hb h.size) (fun x=>hn (hA b hb x))).trans (h.keep b hb hn),
   fun b hb=>Nat.le_trans (h.bs b hb) (h'.bs b (Jm hb h.size))⟩
theorem C6.weaken(h:C6 A w w')(hA:∀b,b<w.heap.size->A b->A' b):C6 A' w w':=⟨h.size,fun b hb hn=>h.keep b hb (fun x=>hn (hA b hb x)),h.bs⟩
end
section
variable {R:Type}{r:R}
theorem G0{k:IntKind}{p:PV}{K:Int->Option R}(h:Be k p K=some r):∃n,p=.sc (.int k n)/\K n=some r:=by
 unfold Be at h;split at h
 ·split at h
  ·rename_i hk;subst hk;exact⟨_,rfl,h⟩
  ·cases h
 ·cases h
theorem Fq{p:PV}{K:Bool->Option R}(h:Cg p K=some r):∃b,p=.sc (.bool b)/\K b=some r:=by
 unfold Cg at h;split at h
 ·exact⟨_,rfl,h⟩
 ·cases h
theorem Fp{p:PV}{K:ByteArray->Option R}(h:D8 p K=some r):∃b,p=.sc (.string b)/\K b=some r:=by
 unfold D8 at h;split at h
 ·exact⟨_,rfl,h⟩
 ·cases h
theorem Fa{p:PV}{K:IntKind->Int->Option R}(h:Fk p K=some r):∃k n,p=.sc (.int k n)/\K k n=some r:=by
 unfold Fk at h;split at h
 ·exact⟨_,_,rfl,h⟩
 ·cases h
theorem Az{b:Bool}{K:Option R}(h:As b K=some r):b=true/\K=some r:=by
 unfold As at h;cases b
 ·cases h
 ·exact⟨rfl,h⟩
theorem Ed{α:Type}{o:Option α}{K:α->Option R}(h:F3 o K=some r):∃a,o=some a/\K a=some r:=by
 unfold F3 at h;split at h
 ·exact⟨_,rfl,h⟩
 ·cases h
theorem Br{α:Type}{l:List α}{K:α->List α->Option R}(h:Av l K=some r):∃a t,l=a::t/\K a t=some r:=by
 unfold Av at h;split at h
 ·exact⟨_,_,rfl,h⟩
 ·cases h
theorem Fg{α:Type}{l:List α}{K:Option R}(h:Aq l K=some r):l=[]/\K=some r:=by
 unfold Aq at h;split at h
 ·exact⟨rfl,h⟩
 ·cases h
theorem Le{p:PV}{K:Ab->Option R}(h:Dr p K=some r):∃c,p=.agg c/\K c=some r:=by
 unfold Dr at h;split at h
 ·exact⟨_,rfl,h⟩
 ·cases h
theorem ZF{p:PV}{K:Ab->Option R}(h:GA p K=some r):∃c,p=.pbox c/\K c=some r:=by
 unfold GA at h;split at h
 ·exact⟨_,rfl,h⟩
 ·cases h
theorem Acv{p:PV}{K:Value->Option R}(h:fnK p K=some r):∃f a b,p=.sc (.func f a b)/\K (.func f a b)=some r:=by
 unfold fnK at h;split at h
 ·exact⟨_,_,_,rfl,h⟩
 ·cases h
theorem Awq{p:PV}{K:FuncId->Option R}(h:fvK p K=some r):∃f,p=.sc (.func (.func f) #[] #[])/\K f=some r:=by
 unfold fvK at h;split at h
 ·rename_i f a b;cases hb:(a.isEmpty&&b.isEmpty)<;>rw[hb] at h
  ·cases h
  ·simp only[G8,Array.isEmpty_iff] at hb;rw[hb.1,hb.2];exact⟨f,rfl,h⟩
 ·cases h
theorem ZD{o:Option D0}{K:Ab->List Ab->Option R}(h:Bk o K=some r):∃v x,o=some ⟨v,x⟩/\K v x=some r:=by
 unfold Bk at h;split at h
 ·exact⟨_,_,rfl,h⟩
 ·cases h
theorem Tp{b:Bool}{x y:Option R}(h:A3 b x y=some r):(b=true/\x=some r)\/(b=false/\y=some r):=by
 unfold A3 at h;cases b
 ·exact .inr ⟨rfl,h⟩
 ·exact .inl ⟨rfl,h⟩
theorem Iy{es:Nat}{p:PV}{K:Bool->Nat->Ab->Option R}(h:Pq es p K=some r):
  ∃z n c,K z n c=some r/\(p=.lst z es n c\/(p=.sc (.slice none 0 0)/\z=true/\n=0/\c=[])):=by
 unfold Pq at h;split at h
 ·rename_i z es' n c;cases hb:Nat.beq es' es
  ·rw[hb] at h;cases h
  ·rw[hb] at h;have:=Et hb;subst this;exact⟨z,n,c,h,.inl rfl⟩
 ·exact⟨true,0,[],h,.inr ⟨rfl,rfl,rfl,rfl⟩⟩
 ·cases h
def GS:PV->Prop
 |.sc _=>True
 |.lst _ _ _ _=>True
 |_=>False
def XU:PV->Prop
 |.sc _=>True
 |.lst _ _ _ _=>True
 |.view _ _ _ _=>True
 |_=>False
theorem AX{c:PV}(h:GS c):XU c:=by cases c<;>first|trivial|exact h.elim
theorem Mc{c:PV}(h:GS c):A9 c=[]:=by cases c<;>first|rfl|exact h.elim
variable {w:World}{A:Nat->Prop}{β:Nat->Option (Nat × Nat)}
theorem Q8{c:PV}{v:Value}(h:GS c):Cx w A β c v↔Bd w A c v:=by cases c<;>first|exact Iff.rfl|exact h.elim
theorem AN{c:PV}{v:Value}(h:∀cs,c ≠ .agg cs):Jb w A β c v↔Cx w A β c v:=by cases c<;>first|exact Iff.rfl|exact absurd rfl (h _)
theorem Tt{c:PV}{v:Value}(h:∀cs,c ≠ .tup cs):Fc w A β c v↔Jb w A β c v:=by cases c<;>first|exact Iff.rfl|exact absurd rfl (h _)
theorem KR{c:PV}(h:GS c)(cs:Ab):c ≠ .agg cs:=by rintro rfl;exact h
theorem Alr{c:PV}(h:GS c)(cs:Ab):c ≠ .tup cs:=by rintro rfl;exact h
theorem Bd.val{v u:Value}(h:Bd w A (.sc v) u):u=v:=by cases h;rfl
theorem IH{es n:Nat}{z:Bool}{c:Ab}{p:PV}{v:Value}(h:p=.lst z es n c\/(p=.sc (.slice none 0 0)/\z=true/\n=0/\c=[]))(hv:Cx w A β p v):Bd w A (.lst z es n c) v:=by
 rcases h with rfl|⟨rfl,rfl,rfl,rfl⟩
 ·exact hv
 ·have:=Bd.val (w:=w) (A:=A) hv;subst this;exact .lnil true es
theorem Tj{t:CT}{p:PV}{K:PV->Option R}(h:NM t p K=some r):
  ∃c,K c=some r/\GS c/\GS p/\∀(w:World) (A:Nat->Prop) (β:Nat->Option (Nat × Nat)) (v:Value),Cx w A β p v->Bd w A c v/\v.oneCell'=true:=by
 cases t with
 |int k=>obtain⟨n,rfl,h2⟩:=G0 h;exact⟨_,h2,trivial,trivial,fun w A β v hv=>⟨hv,by have:=Bd.val (w:=w) (A:=A) hv;subst this;rfl⟩⟩
 |bool=>obtain⟨n,rfl,h⟩:=Fq h;exact⟨_,h,trivial,trivial,fun w A β v hv=>⟨hv,by have:=Bd.val (w:=w) (A:=A) hv;subst this;rfl⟩⟩
 |str=>obtain⟨n,rfl,h⟩:=Fp h;exact⟨_,h,trivial,trivial,fun w A β v hv=>⟨hv,by have:=Bd.val (w:=w) (A:=A) hv;subst this;rfl⟩⟩
 |sl es=>
  obtain⟨z,n,c,h,hp⟩:=Iy h;refine⟨_,h,trivial,?_,fun w A β v hv=>⟨IH hp hv,?_⟩⟩
  ·rcases hp with rfl|⟨rfl,_⟩<;>trivial
  ·have ht:=IH hp hv;cases ht<;>rfl
 |any=>
  obtain⟨f,a,b,rfl,h2⟩:=Acv (show fnK p (fun v=>K (.sc v))=some r from h);exact⟨_,h2,trivial,trivial,fun w A β v hv=>⟨hv,by have:=Bd.val (w:=w) (A:=A) hv;subst this;rfl⟩⟩
theorem Awx{t:CT}{p:PV}{K:PV->Option R}(h:fcK t p K=some r):
  ∃c,K c=some r/\(GS c\/c=p)/\XU p/\p ≠ .top/\(∀cs,c ≠ .agg cs)/\(∀cs,c ≠ .tup cs)/\(∀id,id∈A9 c->id∈A9 p)/\∀(w:World) (A:Nat->Prop) (β:Nat->Option (Nat × Nat)) (v:Value),Cx w A β p v->Cx w A β c v/\v.oneCell'=true:=by
 have tree:∀t',NM t' p K=some r->∃c,K c=some r/\(GS c\/c=p)/\XU p/\p ≠ .top/\(∀cs,c ≠ .agg cs)/\(∀cs,c ≠ .tup cs)/\(∀id,id∈A9 c->id∈A9 p)/\∀(w:World) (A:Nat->Prop) (β:Nat->Option (Nat × Nat)) (v:Value),Cx w A β p v->Cx w A β c v/\v.oneCell'=true:=by
  intro t' h;obtain⟨c,h,hc,hp,hv⟩:=Tj h;exact⟨c,h,.inl hc,AX hp,by rintro rfl;exact hp,KR hc,Alr hc,by rw[Mc hc];simp,fun w A β v h=>⟨(Q8 hc).2 (hv w A β v h).1,(hv w A β v h).2⟩⟩
 cases t with
 |sl es=>
  unfold fcK fsK at h;dsimp only at h;split at h
  ·rename_i id es' off n;cases hb:Nat.beq es' es
   ·rw[hb] at h;cases h
   ·rw[hb] at h;have:=Et hb;subst this;exact⟨_,h,.inr rfl,trivial,by simp,by simp,by simp,fun _ h=>h,fun _ _ _ _ h=>⟨h,by rcases h with⟨_,_,_,_,rfl⟩|⟨_,_,_,_,_,rfl,_⟩<;>rfl⟩⟩
  ·exact tree (.sl es) h
 |int k=>exact tree (.int k) h
 |bool=>exact tree (.bool) h
 |str=>exact tree (.str) h
 |any=>exact tree (.any) h
theorem PF{cells:Ab}{i:Nat}{p:PV}(h:cells.getD i .top=p)(hp:p ≠ .top):cells[i]?=some p:=by
 rw[List.getD_eq_getElem?_getD] at h;cases hc:cells[i]? with
 |none=>rw[hc] at h;exact absurd h.symm hp
 |some q=>rw[hc] at h;simp at h;rw[h]
theorem CE:∀{ts:List CT}{cells:Ab}{off:Nat}{K:Ab->Option R},DS ts cells off K=some r ->
  ∃cs,K cs=some r/\cs.length=ts.length/\∀j c,cs[j]?=some c->GS c/\∃p,cells[off+j]?=some p/\GS p /\
   ∀(w:World) (A:Nat->Prop) (β:Nat->Option (Nat × Nat)) (v:Value),Cx w A β p v->Bd w A c v/\v.oneCell'=true
 |[],_,_,_,h=>⟨[],h,rfl,fun j c hj=>by simp at hj⟩
 |t::ts,cells,off,K,h=>by
  unfold DS at h;obtain⟨c,h,hc,hp,hv⟩:=Tj h;obtain⟨cs,h,hl,hcs⟩:=CE h;refine⟨c::cs,h,by simp[hl],fun j c' hj=>?_⟩;cases j with
  |zero=>
   simp at hj;subst hj;refine⟨hc,cells.getD off .top,PF rfl ?_,hp,hv⟩;intro e;rw[e] at hp;exact hp
  |succ j=>
   simp at hj;have:=hcs j c' hj
   rwa [Nat.add_right_comm,Sb] at this
theorem EC:∀{ts:List CT}{cells:Ab}{off:Nat}{K:Ab->Option R},Xj ts cells off K=some r ->
  ∃cs,K cs=some r/\cs.length=ts.length/\(∀c∈cs,(∀x,c ≠ .agg x)/\(∀x,c ≠ .tup x))/\∀j c,cs[j]?=some c->∃p,cells[off+j]?=some p/\XU p/\(∀id,id∈A9 c->id∈A9 p) /\
   ∀(w:World) (A:Nat->Prop) (β:Nat->Option (Nat × Nat)) (v:Value),Cx w A β p v->Cx w A β c v/\v.oneCell'=true
 |[],_,_,_,h=>⟨[],h,rfl,by simp,fun j c hj=>by simp at hj⟩
 |t::ts,cells,off,K,h=>by
  unfold Xj at h;obtain⟨c,h,hc,hf,hp,ha,ht,hr,hv⟩:=Awx h;obtain⟨cs,h,hl,OA,hcs⟩:=EC h;refine⟨c::cs,h,by simp[hl],?_,fun j c' hj=>?_⟩
  ·intro x hx;rcases B6.1 hx with rfl|hx
   ·exact⟨ha,ht⟩
   ·exact OA x hx
  ·cases j with
   |zero=>
    simp at hj;subst hj;exact⟨cells.getD off .top,PF rfl hp,hf,hr,hv⟩
   |succ j=>
    simp at hj;have:=hcs j c' hj
    rwa [Nat.add_right_comm,Sb] at this
theorem Acn{agg:Bool}{cells:Ab}{K:PV->Option R}(h:mkV agg cells K=some r):
  (agg=true/\K (.agg cells)=some r)\/(agg=false/\∃c,cells=[c]/\K c=some r):=by
 unfold mkV at h;cases agg
 ·obtain⟨c,t,rfl,h⟩:=Br h;obtain⟨rfl,h⟩:=Fg h;exact .inr ⟨rfl,c,rfl,h⟩
 ·exact .inl ⟨rfl,h⟩
end
open Go.RowKit
def C8(b:Option Cb):Prop:=
 match b with
 |some (.st _)=>True
 |some (.ar false _)=>True
 |_=>False
abbrev Bt:=Nat->Option (Nat × Nat)
def GY(hp:Nat->Option Cb)(β:Bt)(b:Nat):Prop:=∃id o,C8 (hp id)/\β id=some (b,o)
def D2(hp:Nat->Option Cb)(β:Bt)(Y:Nat->Prop)(b:Nat):Prop:=GY hp β b\/Y b
def Yi(w:World)(A:Nat->Prop)(β:Bt)(id:Nat)(bx:Cb):Prop:=
 match bx with
 |.st cells=>∃b o,β id=some (b,o)/\(∀j c,cells[j]?=some c->∃v,w.cell? ⟨b,o+j,none⟩=some v/\Cx w A β c v)/\∀j,j<cells.length->w.frozen? ⟨b,o+j,none⟩=false
 |.ar fz cells=>(β id=none/\cells=[])\/∃b o,β id=some (b,o)/\YO w A ⟨b,o,none⟩ cells/\(fz=false->∀j,o<=j->j<bsz w b->w.frozen? ⟨b,j,none⟩=false)/\(fz=true->¬A b)
 |.mv=>True
structure Gn where
 X:Nat->Prop
 L:Nat->Nat->Prop
 pn:Nat->Prop
 pt:Nat->Option (Nat × Nat)
 p8:∀i,pn i->i<8
def BR(bx:Cb)(o j:Nat):Prop:=
 match bx with
 |.st c=>o<=j/\j<o+c.length
 |.ar _ _=>o<=j
 |.mv=>False
structure Fr(X0:Gn)(w0 w:World):Prop where
 os:w.os=w0.os
 tape:w.tape=w0.tape
 output:w.output=w0.output
 step:C6 X0.X w0 w
 rng:∀b j,b<w0.heap.size->¬X0.L b j->w.cell? ⟨b,j,none⟩=w0.cell? ⟨b,j,none⟩/\w.frozen? ⟨b,j,none⟩=w0.frozen? ⟨b,j,none⟩
structure Cj(N:Nat)(w0:World)(X0:Gn)(Y:Nat->Prop)(β:Bt)(s:St)(a:Act)(w:World):Prop where
 dfr:a.defers=[]
 tsz:a.tmps.size=N
 tmo:∀i,N<=i->s.tm i=.top
 tms:∀i,i<N->Fc w (D2 s.hp β Y) β (s.tm i) (a.tmps.getD i undef)
 box:∀id b,s.hp id=some b->Yi w (D2 s.hp β Y) β id b
 inj:∀id id' b o o',C8 (s.hp id)->C8 (s.hp id')->β id=some (b,o)->β id'=some (b,o')->id=id'
 blt:∀id b o,s.hp id≠none->β id=some (b,o)->b<w.heap.size
 wfT:∀i,i<N->∀id∈Cn (s.tm i),s.hp id≠none
 wfB:∀id cells,s.hp id=some (.st cells)->∀c∈cells,∀id'∈A9 c,s.hp id'≠none
 ownd:∀b,GY s.hp β b->X0.X b\/w0.heap.size<=b
 rngB:∀id bx b o,s.hp id=some bx->C8 (some bx)->β id=some (b,o)->b<w0.heap.size->∀j,BR bx o j->X0.L b j
 pin:∀i,X0.pn i->s.hp (Ec N i)≠none/\β (Ec N i)=X0.pt i
 stp:∀id c b o,s.hp id=some (.st c)->β id=some (b,o)->b<w0.heap.size->∃i,id=Ec N i/\X0.pn i
 Yx:∀b,Y b->¬GY s.hp β b
 Ylt:∀b,Y b->b<w0.heap.size
 fr:Fr X0 w0 w
theorem D7{b:Option Cb}(h:C8 b):b≠none:=by rintro rfl;exact h
theorem A8{α:Type}(f:Nat->α)(i:Nat)(v:α):Dz f i v i=v:=by simp[Dz,Pu]
theorem Aw{α:Type}(f:Nat->α){i j:Nat}(v:α)(h:j≠i):Dz f i v j=f j:=by
 have:Nat.beq j i=false:=by
  cases hb:Nat.beq j i
  ·rfl
  ·exact absurd (Et hb) h
 simp[Dz,this]
theorem MG{α:Type}(f:Nat->α){i:Nat}{v:α}(h:f i=v):Dz f i v=f:=by
 funext j
 by_cases e:j=i
 ·subst e;rw[A8];exact h.symm
 ·exact Aw f v e
theorem Ae5{α:Type}(f:Nat->α){i j:Nat}(u v:α)(h:i≠j):Dz (Dz f i u) j v=Dz (Dz f j v) i u:=by
 funext k
 by_cases e:k=j
 ·subst e;rw[A8,Aw _ _ (Ne.symm h),A8]
 ·rw[Aw _ _ e];by_cases e':k=i
  ·subst e';rw[A8,A8]
  ·rw[Aw _ _ e',Aw _ _ e',Aw _ _ e]
theorem XS{a:Act}{d:Nat}{v:Value}(h:d<a.tmps.size):(a.put (some d) v).tmps.getD d undef=v:=by simp[Act.put,h]
theorem VR{a:Act}{d i:Nat}{v:Value}(h:i≠d):(a.put (some d) v).tmps.getD i undef=a.tmps.getD i undef:=by have h':d≠i:=fun e=>h e.symm;simp[Act.put,Array.getElem?_setIfInBounds_ne h']
section
variable {N:Nat}{w0:World}{X0:Gn}{Y:Nat->Prop}{β β':Bt}{s:St}{a:Act}{w w':World}
theorem Ip(d:Option Tmp)(v:Value):(a.put d v).tmps.size=a.tmps.size:=by cases d<;>simp[Act.put]
theorem Lg(d:Option Tmp)(v:Value):(a.put d v).defers=a.defers:=by cases d<;>rfl
theorem Xy{d:Option Tmp}(h:Jt N d=true){i:Nat}(e:d=some i):i<N:=by subst e;exact Nat.lt_of_succ_le (Xx h)
theorem Wz{Q:Nat->PV->Value->Prop}{tm:Nat->PV}{d:Option Tmp}{v:PV}{val:Value}(hN:a.tmps.size=N)(hd:Jt N d=true)(h:∀i,i<N->Q i (tm i) (a.tmps.getD i undef))(hv:∀i,Q i v val):∀i,i<N->Q i (Co tm d v i) ((a.put d val).tmps.getD i undef):=by
 intro i hi;cases d with
 |none=>exact h i hi
 |some d=>
  have Cq:=Xy hd rfl;by_cases e:i=d
  ·subst e;show Q i (Dz tm i v i) _;rw[A8,XS (by omega)];exact hv i
  ·show Q i (Dz tm d v i) _;rw[Aw _ _ e,VR e];exact h i hi
theorem Acx{tm:Nat->PV}{d:Option Tmp}{v:PV}(hd:Jt N d=true)(h:∀i,N<=i->tm i=.top):∀i,N<=i->Co tm d v i=.top:=by
 intro i hi;cases d with
 |none=>exact h i hi
 |some d=>
  have:=Xy hd rfl;show Dz tm d v i=_;rw[Aw _ _ (by omega)];exact h i hi
theorem Cj.put(h:Cj N w0 X0 Y β s a w){d:Option Tmp}{v:PV}{val:Value}(hd:Jt N d=true)(hv:Fc w (D2 s.hp β Y) β v val)(hr:∀id∈Cn v,s.hp id≠none):
  Cj N w0 X0 Y β ⟨Co s.tm d v,s.hp⟩ (a.put d val) w where
 dfr:=by rw[Lg];exact h.dfr
 tsz:=by rw[Ip];exact h.tsz
 tmo:=Acx hd h.tmo
 tms:=Wz (Q:=fun _ p u=>Fc w (D2 s.hp β Y) β p u) h.tsz hd h.tms (fun _=>hv)
 box:=h.box
 inj:=h.inj
 blt:=h.blt
 wfT:=by
  have:=Wz (Q:=fun _ p _=>∀id∈Cn p,s.hp id≠none) (val:=val) h.tsz hd h.wfT (fun _=>hr);exact this
 wfB:=h.wfB
 ownd:=h.ownd
 rngB:=h.rngB
 pin:=h.pin
 stp:=h.stp
 Yx:=h.Yx
 Ylt:=h.Ylt
 fr:=h.fr
theorem C5(hp:Nat->Option Cb)(ids:Cc)(i:Nat):Al hp ids i=if i∈ids then (hp i).map CM else hp i:=by
 unfold Al;by_cases hi:i∈ids
 ·have:ids.any (Nat.beq i)=true:=List.any_eq_true.2 ⟨i,hi,Pu i⟩;rw[this,Bq hi];rfl
 ·have:ids.any (Nat.beq i)=false:=by
   cases hb:ids.any (Nat.beq i)
   ·rfl
   ·obtain⟨j,hj,e⟩:=List.any_eq_true.1 hb;exact absurd (Et e ▸ hj) hi
  rw[this,A5 hi];rfl
theorem Gb{hp:Nat->Option Cb}{ids:Cc}{i:Nat}:Al hp ids i=none↔hp i=none:=by rw[C5];split<;>simp
theorem Wd{hp:Nat->Option Cb}{ids:Cc}{i:Nat}(h:C8 (Al hp ids i)):C8 (hp i):=by
 rw[C5] at h;split at h
 ·cases hb:hp i with
  |none=>rw[hb] at h;exact h
  |some b=>cases b with
   |st c=>trivial
   |ar fz c=>rw[hb] at h;exact h.elim
   |mv=>rw[hb] at h;exact h
 ·exact h
theorem Oa{hp:Nat->Option Cb}{ids:Cc}{i:Nat}{bx:Cb}(h:Al hp ids i=some bx)(hl:C8 (some bx)):hp i=some bx:=by
 rw[C5] at h;split at h
 ·cases hb:hp i with
  |none=>rw[hb] at h;cases h
  |some b=>
   rw[hb] at h;cases b with
   |st c=>exact h
   |ar fz c=>simp only[Option.map_some,CM,Option.some.injEq] at h;subst h;exact hl.elim
   |mv=>simp only[Option.map_some,CM,Option.some.injEq] at h;subst h;exact hl.elim
 ·exact h
theorem Yr{hp:Nat->Option Cb}{ids:Cc}{b:Nat}(h:GY (Al hp ids) β b):GY hp β b:=by obtain⟨id,o,hl,hb⟩:=h;exact⟨id,o,Wd hl,hb⟩
theorem Yi.step'{A A':Nat->Prop}{id:Nat}{bx:Cb}(hA:∀b,A' b->A b)(h:Yi w A β id bx):Yi w A' β id bx:=by
 have hs:=C6.refl A w;cases bx with
 |st c=>
  obtain⟨b,o,h1,h2,h3⟩:=h;exact⟨b,o,h1,fun j c hj=>let ⟨v,hv,hc⟩:=h2 j c hj;⟨v,hv,hc.step hs (fun b _=>hA b) (fun _ _=>rfl)⟩,h3⟩
 |ar fz c=>
  rcases h with h|⟨b,o,h1,h2,h3,h4⟩
  ·exact .inl h
  ·exact .inr ⟨b,o,h1,h2.weak (fun b _=>hA b),h3,fun e x=>h4 e (hA b x)⟩
 |mv=>trivial
theorem Cj.freeze(h:Cj N w0 X0 Y β s a w){fz:Cc}(OQ:∀id∈fz,∃f c,s.hp id=some (.ar f c)):Cj N w0 X0 Y β ⟨s.tm,Al s.hp fz⟩ a w:=by
 have hA:∀b,D2 (Al s.hp fz) β Y b->D2 s.hp β Y b:=fun b hb=>hb.imp Yr id
 refine⟨h.dfr,h.tsz,h.tmo,fun i hi=>(h.tms i hi).step (C6.refl _ _) (fun b _=>hA b) (fun _ _=>rfl),fun id b hb=>?_,fun id id' b o o' h1 h2=>h.inj id id' b o o' (Wd h1) (Wd h2),
  fun id b o hn=>h.blt id b o (fun e=>hn (Gb.2 e)),fun i hi id B5 e=>h.wfT i hi id B5 (Gb.1 e),fun id cells hc c hcm id' B5 e=>?_,fun b hb=>h.ownd b (Yr hb),
  fun id bx b o hb hl=>h.rngB id bx b o (Oa hb hl) hl,fun i hi=>⟨fun e=>(h.pin i hi).1 (Gb.1 e),(h.pin i hi).2⟩,fun id c b o hc=>h.stp id c b o (Oa hc trivial),fun b hb x=>h.Yx b hb (Yr x),h.Ylt,h.fr⟩
 ·simp only at hb;rw[C5] at hb;split at hb
  ·rename_i hm;obtain⟨f,c,hc⟩:=OQ id hm;rw[hc] at hb;simp only[Option.map_some,CM,Option.some.injEq] at hb;subst hb;have Pr:=h.box id _ hc;rcases Pr with Pr|⟨b,o,h1,h2,h3,h4⟩
   ·exact .inl Pr
   ·refine .inr ⟨b,o,h1,h2.weak (fun b _=>hA b),(fun e=>by cases e),fun _ hb=>?_⟩;rcases hb with⟨id',o',hl,hb⟩|hY
    ·have Zk:=Wd hl;cases f with
     |true=>exact h4 rfl (.inl ⟨id',o',Zk,hb⟩)
     |false=>
      have e:=h.inj id' id b o' o Zk (by rw[hc];trivial) hb h1
      subst e;simp only at hl;rw[C5,Bq hm,hc] at hl;exact hl
    ·cases f with
     |true=>exact h4 rfl (.inr hY)
     |false=>exact h.Yx b hY ⟨id,o,by rw[hc];trivial,h1⟩
  ·exact (h.box id b hb).step' hA
 ·simp only at hc;rw[C5] at hc;refine h.wfB id cells ?_ c hcm id' B5 (Gb.1 e);split at hc
  ·rename_i hm;obtain⟨f,c,AL⟩:=OQ id hm;rw[AL] at hc;cases hc
  ·exact hc
theorem Cl:∀{nw:List (Nat × Cb)} {hp:Nat->Option Cb},C1 hp nw=true ->
  (∀id bx,(id,bx)∈nw->hp id=none)/\(∀id bx bx',(id,bx)∈nw->(id,bx')∈nw->bx=bx')
 |[],_,_=>⟨by simp,by simp⟩
 |(i,b)::r,hp,h=>by
  simp only[C1,G8,Option.isNone_iff_eq_none,Bool.not_eq_true'] at h;obtain⟨⟨h1,h2⟩,h3⟩:=h;obtain⟨h4,h5⟩:=Cl h3
  have Gz:∀bx,(i,bx) ∉ r:=by
   intro bx hm;have:r.any (fun q=>Nat.beq q.1 i)=true:=List.any_eq_true.2 ⟨_,hm,Pu i⟩;rw[this] at h2;cases h2
  refine⟨fun id bx hm=>?_,fun id bx bx' hm M4=>?_⟩
  ·rcases B6.1 hm with e|hm
   ·cases e;exact h1
   ·exact h4 id bx hm
  ·rcases B6.1 hm with e|hm
   ·cases e;rcases B6.1 M4 with e|M4
    ·cases e;rfl
    ·exact absurd M4 (Gz _)
   ·rcases B6.1 M4 with e|M4
    ·cases e;exact absurd hm (Gz _)
    ·exact h5 id bx bx' hm M4
theorem Gy:∀{nw:List (Nat × Cb)} {hp:Nat->Option Cb},(∀id bx bx',(id,bx)∈nw->(id,bx')∈nw->bx=bx') ->
  (∀id bx,(id,bx)∈nw->Bf hp nw id=some bx)/\(∀id,(∀bx,(id,bx) ∉ nw)->Bf hp nw id=hp id)
 |[],_,_=>⟨by simp,fun _ _=>rfl⟩
 |(i,b)::r,hp,h=>by
  obtain⟨h1,h2⟩:=Gy (nw:=r) (hp:=Dz hp i (some b)) (fun id bx bx' hm M4=>h id bx bx' (by simp[hm]) (by simp[M4]));refine⟨fun id bx hm=>?_,fun id hn=>?_⟩
  ·by_cases hr:∃bx',(id,bx')∈r
   ·obtain⟨bx',hr⟩:=hr;have:=h id bx bx' hm (by simp[hr]);subst this;exact h1 id bx hr
   ·rcases B6.1 hm with e|hm
    ·cases e;show Bf (Dz hp i (some b)) r i=_;rw[h2 i (fun bx' hb=>hr ⟨bx',hb⟩),A8]
    ·exact absurd ⟨bx,hm⟩ hr
  ·show Bf (Dz hp i (some b)) r id=_;rw[h2 id (fun bx hb=>hn bx (by simp[hb])),Aw]
   rintro rfl
   exact hn b (by simp)
structure ZB(Y:Nat->Prop)(β:Bt)(s:St)(w:World)(v:PV)(nw:List (Nat × Cb))(val:Value)(w':World)(β':Bt):Prop where
 os:w'.os=w.os
 tape:w'.tape=w.tape
 output:w'.output=w.output
 ext:C6 (fun _=>False) w w'
 old:∀id,s.hp id≠none->β' id=β id
 nlive:∀id bx,(id,bx)∈nw->C8 (some bx)
 nbox:∀id bx,(id,bx)∈nw->Yi w' (D2 (Bf s.hp nw) β' Y) β' id bx
 nblk:∀id bx b o,(id,bx)∈nw->β' id=some (b,o)->w.heap.size<=b/\b<w'.heap.size
 ninj:∀id bx id' bx' b o o',(id,bx)∈nw->(id',bx')∈nw->β' id=some (b,o)->β' id'=some (b,o')->id=id'
 nwf:∀id cells,(id,.st cells)∈nw->∀c∈cells,∀id'∈A9 c,s.hp id'≠none\/∃bx,(id',bx)∈nw
 val:Fc w' (D2 (Bf s.hp nw) β' Y) β' v val
 vwf:∀id∈Cn v,s.hp id≠none\/∃bx,(id,bx)∈nw
theorem Cj.stepR(h:Cj N w0 X0 Y β s a w){d:Option Tmp}{v:PV}{nw:List (Nat × Cb)}{val:Value}(hd:Jt N d=true)(Xr:C1 s.hp nw=true)(st:ZB Y β s w v nw val w' β'):Cj N w0 X0 Y β' ⟨Co s.tm d v,Bf s.hp nw⟩ (a.put d val) w':=by
 obtain⟨ha1,ha2⟩:=Cl Xr;obtain⟨hg1,hg2⟩:=Gy (hp:=s.hp) ha2
 have K8:∀id,(∃bx,(id,bx)∈nw)\/Bf s.hp nw id=s.hp id:=fun id=>by
  by_cases hx:∃bx,(id,bx)∈nw
  ·exact .inl hx
  ·exact .inr (hg2 id fun bx hb=>hx ⟨bx,hb⟩)
 have A5y:∀id,s.hp id≠none->Bf s.hp nw id=s.hp id:=fun id hn=>by
  rcases K8 id with⟨bx,hx⟩|e
  ·exact absurd (ha1 id bx hx) hn
  ·exact e
 have Mz:∀id,(s.hp id≠none\/∃bx,(id,bx)∈nw)->Bf s.hp nw id≠none:=by
  rintro id (hn|⟨bx,hx⟩)
  ·rw[A5y id hn];exact hn
  ·rw[hg1 id bx hx];simp
 have Azi:∀b,b<w.heap.size->GY (Bf s.hp nw) β' b->GY s.hp β b:=by
  rintro b hb ⟨id,o,hl,hβ⟩
  rcases K8 id with⟨bx,hx⟩|e
  ·have:=(st.nblk id bx b o hx hβ).1;omega
  ·rw[e] at hl;exact⟨id,o,hl,by rw[<-st.old id (D7 hl)];exact hβ⟩
 have Al4:∀b,b<w.heap.size->D2 (Bf s.hp nw) β' Y b->D2 s.hp β Y b:=fun b hb hA=>hA.imp (Azi b hb) id;have Auv:C6 (D2 s.hp β Y) w w':=st.ext.weaken (fun _ _ x=>x.elim);refine⟨by rw[Lg];exact h.dfr,by rw[Ip];exact h.tsz,Acx hd h.tmo,?_,?_,?_,?_,?_,?_,?_,?_,?_,?_,?_,h.Ylt,?_⟩
 ·refine Wz (Q:=fun _ p u=>Fc w' (D2 (Bf s.hp nw) β' Y) β' p u) h.tsz hd (fun i hi=>?_) (fun _=>st.val);exact (h.tms i hi).step Auv Al4 fun id B5=>st.old id (h.wfT i hi id B5)
 ·intro id b hb;simp only at hb;rcases K8 id with⟨bx,hx⟩|e
  ·rw[hg1 id bx hx] at hb;cases hb;exact st.nbox id _ hx
  ·rw[e] at hb;have hβ:=st.old id (by rw[hb];simp)
   have Pr:=h.box id b hb;have Cq:=h.blt id;have Gz:s.hp id≠none:=by rw[hb];simp
   cases b with
   |st c=>
    obtain⟨b,o,h1,h2,h3⟩:=Pr;have J8:=Cq b o Gz h1;have IC:=st.ext.keep b J8 (fun x=>x);refine⟨b,o,by rw[hβ];exact h1,fun j c hj=>?_,fun j hj=>?_⟩
    ·obtain⟨v,hv,hc⟩:=h2 j c hj;refine⟨v,by rw[World.cell?_of_block (w:=w) IC];exact hv,hc.step Auv Al4 fun id' B5=>st.old id' ?_⟩
     exact h.wfB id _ hb c (List.mem_of_getElem? hj) id' B5
    ·rw[World.frozen?_of_block (w:=w) IC];exact h3 j hj
   |ar fz c=>
    rcases Pr with⟨h1,h2⟩|⟨b,o,h1,h2,h3,h4⟩
    ·exact .inl ⟨by rw[hβ];exact h1,h2⟩
    ·have J8:=Cq b o Gz h1;have IC:=st.ext.keep b J8 (fun x=>x);have UP:bsz w' b=bsz w b:=by unfold bsz;rw[IC]
     refine .inr ⟨b,o,by rw[hβ];exact h1,fun j c hj=>?_,fun e j hj BX=>?_,fun e x=>h4 e (Al4 b J8 x)⟩
     ·obtain⟨v,hv,h5,hc⟩:=h2 j c hj;exact⟨v,by rw[World.cell?_of_block (w:=w) (by rw[Io];exact IC)];exact hv,h5,hc.step Auv Al4⟩
     ·rw[World.frozen?_of_block (w:=w) IC];exact h3 e j hj (by rw[<-UP];exact BX)
   |mv=>trivial
 ·intro id id' b o o' hl Q2 hb J8;simp only at hl Q2;rcases K8 id with⟨bx,hx⟩|e
  ·rcases K8 id' with⟨bx',Zj⟩|e'
   ·exact st.ninj id bx id' bx' b o o' hx Zj hb J8
   ·rw[e'] at Q2;have h1:=(st.nblk id bx b o hx hb).1;have h2:=h.blt id' b o' (D7 Q2) (by rw[<-st.old id' (D7 Q2)];exact J8)
    omega
  ·rw[e] at hl;rcases K8 id' with⟨bx',Zj⟩|e'
   ·have h1:=(st.nblk id' bx' b o' Zj J8).1;have h2:=h.blt id b o (D7 hl) (by rw[<-st.old id (D7 hl)];exact hb)
    omega
   ·rw[e'] at Q2;exact h.inj id id' b o o' hl Q2 (by rw[<-st.old id (D7 hl)];exact hb) (by rw[<-st.old id' (D7 Q2)];exact J8)
 ·intro id b o hn hb;simp only at hn;rcases K8 id with⟨bx,hx⟩|e
  ·exact (st.nblk id bx b o hx hb).2
  ·rw[e] at hn;exact Jm (h.blt id b o hn (by rw[<-st.old id hn];exact hb)) st.ext.size
 ·have:=Wz (Q:=fun _ p _=>∀id∈Cn p,Bf s.hp nw id≠none) (val:=val) (d:=d) (v:=v) h.tsz hd (fun i hi id B5=>Mz id (.inl (h.wfT i hi id B5))) (fun _ id B5=>Mz id (st.vwf id B5));exact this
 ·intro id cells hc c hcm id' B5;simp only at hc;rcases K8 id with⟨bx,hx⟩|e
  ·rw[hg1 id bx hx] at hc;cases hc;exact Mz id' (st.nwf id _ hx c hcm id' B5)
  ·rw[e] at hc;exact Mz id' (.inl (h.wfB id cells hc c hcm id' B5))
 ·rintro b ⟨id,o,hl,hb⟩
  simp only at hl;rcases K8 id with⟨bx,hx⟩|e
  ·exact .inr (Nat.le_trans h.fr.step.size (st.nblk id bx b o hx hb).1)
  ·rw[e] at hl;exact h.ownd b ⟨id,o,hl,by rw[<-st.old id (D7 hl)];exact hb⟩
 ·intro id bx b o hb hl hβ Cq;simp only at hb;rcases K8 id with⟨bx',hx⟩|e
  ·have:=(st.nblk id bx' b o hx hβ).1;have:=h.fr.step.size;omega
  ·rw[e] at hb;exact h.rngB id bx b o hb hl (by rw[<-st.old id (by rw[hb];simp)];exact hβ) Cq
 ·intro i hi;obtain⟨h1,h2⟩:=h.pin i hi;exact⟨Mz _ (.inl h1),by rw[st.old _ h1];exact h2⟩
 ·intro id c b o hb hβ Cq;simp only at hb;rcases K8 id with⟨bx',hx⟩|e
  ·have:=(st.nblk id bx' b o hx hβ).1;have:=h.fr.step.size;omega
  ·rw[e] at hb;exact h.stp id c b o hb (by rw[<-st.old id (by rw[hb];simp)];exact hβ) Cq
 ·rintro b hY hX
  have hb:b<w.heap.size:=Jm (h.Ylt b hY) h.fr.step.size;exact h.Yx b hY (Azi b hb hX)
 ·refine⟨st.os.trans h.fr.os,st.tape.trans h.fr.tape,st.output.trans h.fr.output,h.fr.step.trans st.ext (fun _ _ x=>x.elim),fun b j hb hL=>?_⟩;have IC:=st.ext.keep b (Jm hb h.fr.step.size) (fun x=>x);have hc:w'.cell? ⟨b,j,none⟩=w.cell? ⟨b,j,none⟩:=World.cell?_of_block (w:=w) IC;have hf:w'.frozen? ⟨b,j,none⟩=w.frozen? ⟨b,j,none⟩:=World.frozen?_of_block (w:=w) IC;rw[hc,hf];exact h.fr.rng b j hb hL
end
open Go.RowKit
section
variable {P:Program}{N:Nat}{w0:World}{X0:Gn}{Y:Nat->Prop}{β β':Bt}{s:St}{a:Act}{w w':World}{o:Oper}
theorem Agl(cs:List Value)(A:Nat->Prop):B9 (Cx w A β) (cs.map PV.sc) cs:=by
 induction cs with
 |nil=>trivial
 |cons v r ih=>exact⟨Bd.sc v,ih⟩
theorem Aiv(cs:List Value):(cs.map PV.sc).flatMap A9=[]:=by
 induction cs with
 |nil=>rfl
 |cons v r ih=>exact ih
theorem Er(h:Cj N w0 X0 Y β s a w)(x:Operand):Fc w (D2 s.hp β Y) β (Db s.tm x) (a.eval x):=by
 cases x with
 |tmp t=>
  show Fc _ _ _ (s.tm t) (a.tmps.getD t undef);by_cases ht:t<N
  ·exact h.tms t ht
  ·rw[h.tmo t (Nat.le_of_not_lt ht)];exact Bd.top _
 |const v=>
  cases v with
  |agg cs=>exact⟨cs.toList,by simp[Act.eval],Agl cs.toList _⟩
  |_=>exact Bd.sc _
 |func f=>exact Bd.sc _
 |global g=>exact Bd.sc _
theorem Hz(h:Cj N w0 X0 Y β s a w)(x:Operand):∀id∈Cn (Db s.tm x),s.hp id≠none:=by
 cases x with
 |tmp t=>
  show ∀id∈Cn (s.tm t),_;by_cases ht:t<N
  ·exact h.wfT t ht
  ·rw[h.tmo t (Nat.le_of_not_lt ht)];intro id B5;cases B5
 |const v=>
  cases v with
  |agg cs=>
   intro id B5;have:Cn (.agg (cs.toList.map .sc))=[]:=Aiv cs.toList;simp only[Db] at B5;rw[this] at B5;cases B5
  |_=>intro id B5;cases B5
 |func f=>intro id B5;cases B5
 |global g=>intro id B5;cases B5
theorem Ni{A:Nat->Prop}{v u:Value}(h:Fc w A β (.sc v) u):u=v:=Bd.val h
theorem D3(h:Cj N w0 X0 Y β s a w){x:Operand}{v:Value}(e:Db s.tm x=.sc v):a.eval x=v:=by have:=Er h x;rw[e] at this;exact Ni this
def G4(P:Program)(a:Act)(w:World)(o:Oper)(Y:Nat->Prop)(β:Bt)(s:St)(v:PV)(fz:Cc)(nw:List (Nat × Cb)):Prop:=
 (∀id∈fz,∃f c,s.hp id=some (.ar f c))/\∃val w',(execOp a.eval o).run P w=.ok (.value val) w'/\(C1 s.hp nw=true->∃β',ZB Y β ⟨s.tm,Al s.hp fz⟩ w v nw val w' β')
theorem Akq{v:PV}{val:Value}(hv:Fc w (D2 s.hp β Y) β v val)(hr:∀id∈Cn v,s.hp id≠none):ZB Y β s w v [] val w β:=
 ⟨rfl,rfl,rfl,C6.refl _ _,fun _ _=>rfl,by simp,by simp,by simp,by simp,by simp,hv,fun id B5=>.inl (hr id B5)⟩
theorem De{v:PV}{val:Value}(Eg:(execOp a.eval o).run P w=.ok (.value val) w)(hv:Fc w (D2 s.hp β Y) β v val)(hr:∀id∈Cn v,s.hp id≠none):G4 P a w o Y β s v [] []:=
 ⟨by simp,val,w,Eg,fun _=>⟨β,Akq (s:=⟨s.tm,Al s.hp []⟩) hv hr⟩⟩
theorem Ek{v:Value}(Eg:(execOp a.eval o).run P w=.ok (.value v) w):G4 P a w o Y β s (.sc v) [] []:=De Eg (Bd.sc v) (by intro id B5;cases B5)
structure Jw(w w':World)(c:Array Value)(e:TypeId):Prop where
 os:w'.os=w.os
 tape:w'.tape=w.tape
 output:w'.output=w.output
 old:∀b,b<w.heap.size->w'.heap[b]?=w.heap[b]?
 size:w'.heap.size=w.heap.size+1
 new:∃fz:Nat × Nat,w'.heap[w.heap.size]?=some (.cells c e fz)/\(fz.1=fz.2\/c.size<=fz.1)
theorem Jw.alloc(w:World)(c:Array Value)(e:TypeId):Jw w (w.alloc (.cells c e)) c e:=
 ⟨rfl,rfl,rfl,fun b hb=>Below.heap_alloc w _ b hb,by show (w.heap.push _).size=_;simp,(0,0),by show (w.heap.push _)[w.heap.size]?=_;simp,.inl rfl⟩
theorem Jw.drew{c:Array Value}{e:TypeId}(h:Jw w w' c e):Jw w w'.drew c e:=⟨h.os,h.tape,h.output,h.old,h.size,h.new⟩
section
variable {c:Array Value}{e:TypeId}
theorem Jw.step(h:Jw w w' c e):C6 (fun _=>False) w w':=
 ⟨by rw[h.size];omega,fun b hb _=>h.old b hb,fun b hb=>by unfold bsz;rw[h.old b hb];exact C9 _⟩
theorem Jw.cell(h:Jw w w' c e)(j:Nat):w'.cell? ⟨w.heap.size,j,none⟩=c[j]?:=by obtain⟨fz,hn,_⟩:=h.new;simp[World.cell?,hn]
theorem Jw.frozen(h:Jw w w' c e){j:Nat}(hj:j<c.size):w'.frozen? ⟨w.heap.size,j,none⟩=false:=by obtain⟨fz,hn,hf⟩:=h.new;simp only[World.frozen?,hn];rcases hf with hf|hf<;>simp<;>omega
theorem Jw.bsz(h:Jw w w' c e):bsz w' w.heap.size=c.size:=by obtain⟨fz,hn,_⟩:=h.new;simp[Pv.bsz,hn]
end
theorem X6{c:Array Value}{e:TypeId}{d:Nat}{bx:Cb}{v:PV}{val:Value}(hg:Jw w w' c e)(hd:s.hp d=none)(hl:C8 (some bx))(Pr:Yi w' (D2 (Dz s.hp d (some bx)) (Dz β d (some (w.heap.size,0))) Y) (Dz β d (some (w.heap.size,0))) d bx)(hcw:∀cells,bx=.st cells->∀x∈cells,∀id'∈A9 x,s.hp id'≠none)(hv:Fc w' (D2 (Dz s.hp d (some bx)) (Dz β d (some (w.heap.size,0))) Y) (Dz β d (some (w.heap.size,0))) v val)(hvr:∀id∈Cn v,s.hp id≠none\/id=d):ZB Y β s w v [(d,bx)] val w' (Dz β d (some (w.heap.size,0))) where
 os:=hg.os
 tape:=hg.tape
 output:=hg.output
 ext:=hg.step
 old:=fun id hn=>Aw _ _ (by rintro rfl;exact hn hd)
 nlive:=by intro id b hm;simp at hm;obtain⟨rfl,rfl⟩:=hm;exact hl
 nbox:=by intro id b hm;simp at hm;obtain⟨rfl,rfl⟩:=hm;exact Pr
 nblk:=by
  intro id b x y hm hb;simp at hm;obtain⟨rfl,rfl⟩:=hm;rw[A8] at hb;simp at hb;have:=hg.size;omega
 ninj:=by intro id b id' b' x y z hm M4 _ _;simp at hm M4;rw[hm.1,M4.1]
 nwf:=by intro id cells hm x hx id' B5;simp at hm;exact .inl (hcw cells hm.2.symm x hx id' B5)
 val:=hv
 vwf:=by
  intro id B5;rcases hvr id B5 with h|rfl
  ·exact .inl h
  ·exact .inr ⟨bx,by simp⟩
theorem Al8{c:Array Value}{e:TypeId}(hg:Jw w w' c e){A A':Nat->Prop}(hA:∀b,b<w.heap.size->A' b->A b){cells:Ab}(h:∀(j:Nat) p,cells[j]?=some p->∃v,c[j]?=some v/\v.oneCell'=true/\Bd w A p v):YO w' A' ⟨w.heap.size,0,none⟩ cells:=by intro j p hj;obtain⟨v,hv,h1,ht⟩:=h j p hj;exact⟨v,by rw[Fy,Cm,hg.cell];exact hv,h1,ht.step (hg.step.weaken (fun _ _ x=>x.elim)) hA⟩
theorem Alw{d:Nat}{bx:Cb}(hwf:s.hp d=none):∀b,b<w.heap.size->D2 (Dz s.hp d (some bx)) (Dz β d (some (w.heap.size,0))) Y b->D2 s.hp β Y b:=by
 intro b hb hA;rcases hA with⟨id,o,hl,hβ⟩|hY
 ·by_cases e:id=d
  ·subst e;rw[A8] at hβ;simp at hβ;omega
  ·rw[Aw _ _ e] at hl hβ;exact .inl ⟨id,o,hl,hβ⟩
 ·exact .inr hY
theorem X7{c:Array Value}{e:TypeId}{d:Nat}{cells:Ab}{fz:Cc}{v:PV}{val:Value}(OQ:∀id∈fz,∃f c,s.hp id=some (.ar f c))(Eg:(execOp a.eval o).run P w=.ok (.value val) w')(hg:Jw w w' c e)(hc:∀(j:Nat) p,cells[j]?=some p->∃u,c[j]?=some u/\u.oneCell'=true/\Bd w (D2 (Al s.hp fz) β Y) p u)(hv:(v=.ptr d 0/\val=.pointer (some ⟨w.heap.size,0,none⟩))\/∃es n cap,v=.view d es 0 n/\val=.slice (some ⟨w.heap.size,0,none⟩) n cap/\n<=cap/\cap*es<=c.size):
  G4 P a w o Y β s v fz [(d,.ar false cells)]:=by
 refine⟨OQ,val,w',Eg,fun Xr=>⟨Dz β d (some (w.heap.size,0)),?_⟩⟩;have hd:s.hp d=none:=(Cl Xr).1 d (.ar false cells) (by simp);have hd':Al s.hp fz d=none:=Gb.2 hd;refine X6 (s:=⟨s.tm,Al s.hp fz⟩) hg hd' trivial ?_ (fun cells hx=>by cases hx) ?_ ?_
 ·refine .inr ⟨w.heap.size,0,A8 _ _ _,?_,fun _ j _ hj=>?_,(fun x=>by cases x)⟩
  ·exact Al8 hg (Alw (s:=⟨s.tm,Al s.hp fz⟩) hd') hc
  ·rw[hg.bsz] at hj;exact hg.frozen hj
 ·rcases hv with⟨rfl,rfl⟩|⟨es,n,cap,rfl,rfl,hn,RH⟩
  ·exact⟨w.heap.size,0,A8 _ _ _,rfl⟩
  ·exact .inr ⟨w.heap.size,0,0,cap,A8 _ _ _,rfl,.inl rfl,hn,by rw[hg.bsz];omega,by rw[hg.size];omega⟩
 ·intro id B5;rcases hv with⟨rfl,_⟩|⟨es,n,cap,rfl,_⟩<;>(simp[Cn,C3,A9] at B5;exact .inr B5)
theorem ZQ{c:Array Value}{e:TypeId}{d:Nat}{cells:Ab}(Eg:(execOp a.eval o).run P w=.ok (.value (.pointer (some ⟨w.heap.size,0,none⟩))) w')(hg:Jw w w' c e)(hc:∀(j:Nat) p,cells[j]?=some p->∃u,c[j]?=some u/\Cx w (D2 s.hp β Y) β p u)(hr:∀x∈cells,∀id∈A9 x,s.hp id≠none):
  G4 P a w o Y β s (.ptr d 0) [] [(d,.st cells)]:=by
 refine⟨by simp,_,w',Eg,fun Xr=>⟨Dz β d (some (w.heap.size,0)),?_⟩⟩;have hd:s.hp d=none:=(Cl Xr).1 d (.st cells) (by simp);refine X6 (s:=⟨s.tm,Al s.hp []⟩) hg hd trivial ?_ (fun cs hx x hxm id B5=>?_) ?_ ?_
 ·refine⟨w.heap.size,0,A8 _ _ _,fun j p hj=>?_,fun j hj=>?_⟩
  ·obtain⟨u,hu,hp⟩:=hc j p hj;refine⟨u,by rw[Cm,hg.cell];exact hu,hp.step (hg.step.weaken (fun _ _ x=>x.elim)) (Alw (s:=⟨s.tm,Al s.hp []⟩) hd) fun id B5=>Aw _ _ ?_⟩
   rintro rfl
   exact hr p (List.mem_of_getElem? hj) id B5 hd
  ·rw[Cm];obtain⟨u,hu,_⟩:=hc j _ (List.getElem?_eq_getElem hj)
   exact hg.frozen (by
    rcases Mi j c.size with h|h
    ·exact h
    ·rw[Array.getElem?_eq_none h] at hu;cases hu)
 ·injection hx with hx;subst hx;exact hr x hxm id B5
 ·exact⟨w.heap.size,0,A8 _ _ _,rfl⟩
 ·intro id B5;simp[Cn,C3,A9] at B5;exact .inr B5
end
open Go.RowKit
section
variable {R:Type}{r:R}{P:Program}{N:Nat}{w0:World}{X0:Gn}{Y:Nat->Prop}{β β':Bt}{s:St}{a:Act}{w w':World}{o:Oper}
theorem Qt{t:TypeId}{n:Nat}(h:(P.info? t).map (·.size)=some n)(w:World):(sizeOf t).run P w=.ok n w:=by
 cases hi:P.info? t with
 |none=>rw[hi] at h;cases h
 |some i=>rw[hi] at h;simp at h;simp[sizeOf,typeInfo,hi,h]
theorem Ark{t:TypeId}{n:Nat}(h:Bw P t=n)(hn:0<n):(P.info? t).map (·.size)=some n:=by
 unfold Bw at h;cases hi:(P.info? t).map (·.size) with
 |none=>rw[hi] at h;simp at h;omega
 |some i=>rw[hi] at h;simp at h;rw[h]
theorem Tx{t:TypeId}{d:TypeDesc}(h:P.underlying t=some d)(w:World):(isAgg t).run P w=.ok (Dd P t) w:=by unfold isAgg Dd;rw[h];simp only[Sem.run_bind,run_underlying h,Result.andThen_ok];cases d<;>rfl
theorem Aw9{t:TypeId}{v:Value}{K:PV->Option R}(h:cvK P t v K=some r):∃p,K p=some r/\Cn p=[]/\∀(w:World)(A:Nat->Prop)(β:Bt),Fc w A β p v:=by
 have sc:∀v:Value,K (.sc v)=some r->∃p,K p=some r/\Cn p=[]/\∀(w:World) (A:Nat->Prop) (β:Bt),Fc w A β p v:=fun v h=>⟨_,h,rfl,fun w A β=>Bd.sc v⟩;unfold cvK at h;split at h
 ·rename_i cs;obtain⟨hl,h⟩:=Az h;obtain⟨xs,h,hxl,hx⟩:=CE h;have hl:=Et hl;refine⟨_,h,?_,fun w A β=>⟨cs.toList,by simp,?_⟩⟩
  ·show xs.flatMap A9=[];rw[List.flatMap_eq_nil_iff];intro c hc;obtain⟨j,hj⟩:=List.mem_iff_getElem?.1 hc;exact Mc (hx j c hj).1
  ·refine B9.of_at (by rw[hxl,hl]) fun i c u hc hu=>?_;obtain⟨hT,p,hp,_,IZ⟩:=hx i c hc;refine (Q8 hT).2 (IZ w A β u ?_).1;rw[Cm,List.getElem?_map,hu] at hp;simp at hp;subst hp;exact Bd.sc u
 ·split at h
  ·exact⟨_,h,rfl,fun w A β=>Bd.lnil true _⟩
  ·cases h
 ·exact sc _ h
theorem LD(h:Cj N w0 X0 Y β s a w){x:Operand}(Eg:(execOp a.eval o).run P w=.ok (.value (a.eval x)) w){K:PV->Option R}(hk:OC P o.type s.tm x K=some r):
  ∃v,K v=some r/\G4 P a w o Y β s v [] []:=by
 have dflt:K (Db s.tm x)=some r->∃v,K v=some r/\G4 P a w o Y β s v [] []:=fun hk=>⟨_,hk,De Eg (Er h x) (Hz h x)⟩;cases x with
 |const v=>
  obtain⟨p,hk,hr,hv⟩:=Aw9 hk;exact⟨p,hk,De Eg (hv _ _ _) (by rw[hr];simp)⟩
 |tmp t=>exact dflt hk
 |func f=>exact dflt hk
 |global g=>exact dflt hk
theorem Anu{x:Operand}(ho:o.op=.move x):(execOp a.eval o).run P w=.ok (.value (a.eval x)) w:=by unfold execOp;rw[ho];rfl
theorem Aea{x:Operand}(ho:o.op=.assign x):(execOp a.eval o).run P w=.ok (.value (a.eval x)) w:=by unfold execOp;rw[ho];rfl
theorem Akd(h:Cj N w0 X0 Y β s a w){c x y:Operand}(ho:o.op=.pick c x y){K:PV->Option R}(hk:(Cg (Db s.tm c) fun t=>A3 t (K (Db s.tm x)) (K (Db s.tm y)))=some r):
  ∃v,K v=some r/\G4 P a w o Y β s v [] []:=by
 obtain⟨b,hb,hk⟩:=Fq hk;have hc:=D3 h hb;rcases Tp hk with⟨rfl,hk⟩|⟨rfl,hk⟩
 ·exact⟨_,hk,De (by unfold execOp;rw[ho];simp[asBool,hc]) (Er h x) (Hz h x)⟩
 ·exact⟨_,hk,De (by unfold execOp;rw[ho];simp[asBool,hc]) (Er h y) (Hz h y)⟩
theorem Xa{t:TypeId}{K:Ab->Option R}(h:Kv P t K=some r):∃(v:Value)(cs:Ab),K cs=some r/\HN P t=some v/\cs.length=(M0 P t).length/\cs.length=v.cells.toList.length/\cs.length=Bw P t /\
  ∀(j:Nat) c,cs[j]?=some c->GS c/\∃u,v.cells.toList[j]?=some u/\u.oneCell'=true/\∀(w:World) (A:Nat->Prop),Bd w A c u:=by
 unfold Kv at h;obtain⟨v,hz,h⟩:=Ed h;obtain⟨hl,h⟩:=Az h;obtain⟨cs,h,BW,hc⟩:=CE h;simp only[G8] at hl;have MQ:=Et hl.1
 have RQ:(M0 P t).length=Bw P t:=by
  have:=hl.2;simp only[Nx,G8] at this;exact Et this.2
 refine⟨v,cs,h,hz,BW,by rw[BW,MQ],by rw[BW,RQ],fun j c hj=>?_⟩;obtain⟨hT,p,hp,_,IZ⟩:=hc j c hj;rw[Cm,List.getElem?_map] at hp;cases hu:v.cells.toList[j]? with
 |none=>rw[hu] at hp;cases hp
 |some u=>
  rw[hu] at hp;simp at hp;subst hp;exact⟨hT,u,rfl,(IZ default (fun _=>False) (fun _=>none) u (Bd.sc u)).2,fun w A=>(IZ w A (fun _=>none) u (Bd.sc u)).1⟩
theorem GP{t:TypeId}{v:Value}(h:HN P t=some v)(w:World):(zeroValue t).run P w=.ok v w:=by
 unfold HN at h;cases hi:P.info? t with
 |none=>rw[hi] at h;cases h
 |some i=>rw[hi] at h;simp at h;simp[zeroValue,typeInfo,hi,h]
theorem Agt{t:TypeId}(ho:o.op=.alloc t){d:Nat}{K:PV->Cc->List (Nat × Cb)->Option R}(hk:(Kv P t fun cs=>K (.ptr d 0) [] [(d,Asn P t cs)])=some r):∃v fz nw,K v fz nw=some r/\G4 P a w o Y β s v fz nw:=by
 obtain⟨z,cs,hk,hz,_,hl,_,hc⟩:=Xa hk
 have Eg:(execOp a.eval o).run P w=.ok (.value (.pointer (some ⟨w.heap.size,0,none⟩))) (w.alloc (.cells z.cells t)):=by
  unfold execOp;rw[ho];simp[Instr.alloc,GP hz,newVar,newRow]
 have hg:=Jw.alloc w z.cells t;refine⟨_,_,_,hk,?_⟩;unfold Asn;cases DN P t
 ·refine ZQ Eg hg (fun j p hj=>?_) fun x hx id B5=>?_
  ·obtain⟨hT,u,hu,_,hv⟩:=hc j p hj;exact⟨u,by simpa using hu,(Q8 hT).2 (hv _ _)⟩
  ·obtain⟨j,hj⟩:=List.mem_iff_getElem?.1 hx;rw[Mc (hc j x hj).1] at B5;cases B5
 ·refine X7 (by simp) Eg hg (fun j p hj=>?_) (.inl ⟨rfl,rfl⟩);obtain⟨hT,u,hu,h1,hv⟩:=hc j p hj;exact⟨u,by simpa using hu,h1,hv _ _⟩
end
open Go.RowKit
section
variable {R:Type}{r:R}{P:Program}{N:Nat}{w0:World}{X0:Gn}{Y:Nat->Prop}{β β':Bt}{s:St}{a:Act}{w w':World}{o:Oper}{A:Nat->Prop}
theorem Y1{t:TypeId}(h:Nx P t=true):(∃d,P.underlying t=some d)/\(M0 P t).length=Bw P t/\(P.info? t).map (·.size)=some (Bw P t):=by
 simp only[Nx,G8] at h;refine⟨Option.isSome_iff_exists.1 h.1,Et h.2,?_⟩;unfold Bw;cases hi:P.info? t with
 |none=>unfold Program.underlying at h;rw[hi] at h;cases h.1
 |some i=>simp
theorem Tw{v:Value}(h:v.oneCell'=true):v.cells = #[v]:=by cases v<;>first|rfl|cases h
theorem Alj{p:PV}{v:Value}{ts:List CT}{K:Ab->Option R}(hv:Fc w A β p v)(hl:(cellsOf p).length=ts.length)(h:Xj ts (cellsOf p) 0 K=some r):
  ∃cs,K cs=some r/\cs.length=ts.length/\B9 (Cx w A β) cs v.cells.toList/\(∀u∈v.cells.toList,u.oneCell'=true)/\(∀c∈cs,∀id∈A9 c,id∈Cn p)/\∀c∈cs,(∀x,c ≠ .agg x)/\(∀x,c ≠ .tup x):=by
 obtain⟨cs,h,BW,OA,hc⟩:=EC h;refine⟨cs,h,BW,?_⟩
 have single:(∀x,p ≠ .agg x)->cellsOf p=[p]:=by
  intro hp;cases p<;>first|rfl|exact absurd rfl (hp _)
 by_cases Jl:∃x,p=.agg x
 ·obtain⟨x,rfl⟩:=Jl;obtain⟨vs,rfl,h2⟩:=hv;have Hr:cs.length=vs.length:=by rw[BW,<-hl];exact h2.len
  have key:∀(i:Nat) c u,cs[i]?=some c->vs[i]?=some u->Cx w A β c u/\u.oneCell'=true:=by
   intro i c u AL hu;obtain⟨q,hq,_,_,hqv⟩:=hc i c AL;rw[Cm] at hq;exact hqv w A β u (h2.at_ hq hu)
  refine⟨B9.of_at Hr fun i c u AL hu=>(key i c u AL hu).1,?_,?_,OA⟩
  ·intro u hu;obtain⟨i,hi⟩:=List.mem_iff_getElem?.1 (show u∈vs from hu)
   have Cq:i<vs.length:=by
    rcases Mi i vs.length with h|h
    ·exact h
    ·rw[List.getElem?_eq_none h] at hi;cases hi
   exact (key i _ u (List.getElem?_eq_getElem (by omega)) hi).2
  ·intro c hcm id B5;obtain⟨i,hi⟩:=List.mem_iff_getElem?.1 hcm;obtain⟨q,hq,_,hr,_⟩:=hc i c hi;rw[Cm] at hq;show id∈x.flatMap A9;exact List.mem_flatMap.2 ⟨q,List.mem_of_getElem? hq,hr id B5⟩
 ·have hp:∀x,p ≠ .agg x:=fun x e=>Jl ⟨x,e⟩;rw[single hp] at hl hc;have MQ:cs.length=1:=by rw[BW,<-hl];rfl
  match cs,MQ with
  |[c],_=>
   obtain⟨q,hq,hf,hr,hqv⟩:=hc 0 c rfl;simp at hq;subst hq;have Ye:∀x,p ≠ .tup x:=by rintro x rfl;exact hf
   have Wc:Cx w A β p v:=(AN hp).1 ((Tt Ye).1 hv);obtain⟨h5,h6⟩:=hqv w A β v Wc;rw[Tw h6];refine⟨⟨h5,trivial⟩,?_,?_,OA⟩
   ·intro u hu;simp at hu;subst hu;exact h6
   ·intro c' AL id B5;simp at AL;subst AL;have:=hr id B5;cases p<;>first|exact this|exact absurd rfl (hp _)|exact absurd rfl (Ye _)
end
open Go.RowKit
section
variable {R:Type}{r:R}{P:Program}{N:Nat}{w0:World}{X0:Gn}{Y:Nat->Prop}{β β':Bt}{s:St}{a:Act}{w w':World}{o:Oper}{A:Nat->Prop}
theorem B9.get{α β':Type}{R':α->β'->Prop}{zs:List α}{bs:List β'}(h:B9 R' zs bs){i:Nat}{x:α}(hx:zs[i]?=some x):∃y,bs[i]?=some y/\R' x y:=by
 have Cq:i<zs.length:=by
  rcases Mi i zs.length with h|h
  ·exact h
  ·rw[List.getElem?_eq_none h] at hx;cases hx
 have hb:bs[i]?=some (bs[i]'(by rw[<-h.len];exact Cq)):=List.getElem?_eq_getElem _
 exact⟨_,hb,h.at_ hx hb⟩
theorem Awv{p:PV}{v:Value}{ts:List CT}{K:Ab->Option R}(hv:Fc w A β p v)(hl:(cellsOf p).length=ts.length)(h:DS ts (cellsOf p) 0 K=some r):
  ∃cs,K cs=some r/\cs.length=ts.length/\B9 (Bd w A) cs v.cells.toList/\∀u∈v.cells.toList,u.oneCell'=true:=by
 obtain⟨cs,h,BW,hc⟩:=CE h;refine⟨cs,h,BW,?_⟩;by_cases Jl:∃x,p=.agg x
 ·obtain⟨x,rfl⟩:=Jl;obtain⟨vs,rfl,h2⟩:=hv;have Hr:cs.length=vs.length:=by rw[BW,<-hl];exact h2.len
  have key:∀(i:Nat) c u,cs[i]?=some c->vs[i]?=some u->Bd w A c u/\u.oneCell'=true:=by
   intro i c u AL hu;obtain⟨_,q,hq,_,hqv⟩:=hc i c AL;rw[Cm] at hq;exact hqv w A β u (h2.at_ hq hu)
  refine⟨B9.of_at Hr fun i c u AL hu=>(key i c u AL hu).1,?_⟩;intro u hu;obtain⟨i,hi⟩:=List.mem_iff_getElem?.1 (show u∈vs from hu)
  have Cq:i<vs.length:=by
   rcases Mi i vs.length with h|h
   ·exact h
   ·rw[List.getElem?_eq_none h] at hi;cases hi
  exact (key i _ u (List.getElem?_eq_getElem (by omega)) hi).2
 ·have hp:∀x,p ≠ .agg x:=fun x e=>Jl ⟨x,e⟩;have single:cellsOf p=[p]:=by cases p<;>first|rfl|exact absurd rfl (hp _)
  rw[single] at hl hc;have MQ:cs.length=1:=by rw[BW,<-hl];rfl
  match cs,MQ with
  |[c],_=>
   obtain⟨_,q,hq,hf,hqv⟩:=hc 0 c rfl;simp at hq;subst hq;have Ye:∀x,p ≠ .tup x:=by rintro x rfl;exact hf
   have Wc:Cx w A β p v:=(AN hp).1 ((Tt Ye).1 hv);obtain⟨h5,h6⟩:=hqv w A β v Wc;rw[Tw h6];exact⟨⟨h5,trivial⟩,fun u hu=>by simp at hu;subst hu;exact h6⟩
theorem Ani(h:Cj N w0 X0 Y β s a w){t:TypeId}{x:Operand}(ho:o.op=.box t x){d:Nat}{K:PV->Cc->List (Nat × Cb)->Option R}(hk:(As (Nx P t&&Nat.beq (cellsOf (Db s.tm x)).length (M0 P t).length)
      (bif DN P t then DS (M0 P t) (cellsOf (Db s.tm x)) 0 fun cs=>K (.ptr d 0) [] [(d,.ar false cs)]
       else Xj (M0 P t) (cellsOf (Db s.tm x)) 0 fun cs=>K (.ptr d 0) [] [(d,.st cs)]))=some r):∃v fz nw,K v fz nw=some r/\G4 P a w o Y β s v fz nw:=by
  obtain⟨hl,hk⟩:=Az hk
  simp only[G8] at hl
  have hl:=Et hl.2
  have Eg:(execOp a.eval o).run P w=.ok (.value (.pointer (some ⟨w.heap.size,0,none⟩))) (w.alloc (.cells (a.eval x).cells t)):=by
    unfold execOp
    rw[ho]
    simp[Instr.box,newVar,newRow]
  have hg:=Jw.alloc w (a.eval x).cells t
  cases ha:DN P t
  · rw[ha] at hk
    obtain⟨cs,hk,_,h2,_,hr,_⟩:=Alj (Er h x) hl hk
    refine⟨_,_,_,hk,ZQ Eg hg (fun j p hj=>?_) fun c hc id B5=>Hz h x id (hr c hc id B5)⟩
    obtain⟨u,hu,hp⟩:=h2.get hj
    exact⟨u,by simpa using hu,hp⟩
  · rw[ha] at hk
    obtain⟨cs,hk,_,h2,h1⟩:=Awv (Er h x) hl hk
    refine⟨_,_,_,hk,X7 (by simp) Eg hg (fun j p hj=>?_) (.inl ⟨rfl,rfl⟩)⟩
    obtain⟨u,hu,hp⟩:=h2.get hj
    exact⟨u,by simpa using hu,h1 u (List.mem_of_getElem? hu),hp⟩
theorem Aij{c:PV}(h1:∀x,c ≠ .agg x)(h2:∀x,c ≠ .tup x):Cn c=A9 c:=by cases c<;>first|rfl|exact absurd rfl (h1 _)|exact absurd rfl (h2 _)
theorem LY{t:TypeId}{ad:Addr}{cs:Ab}{p:PV}(hok:Nx P t=true)(Hr:cs.length=(M0 P t).length)(OA:∀c∈cs,(∀x,c ≠ .agg x)/\(∀x,c ≠ .tup x))(hc:∀(j:Nat) c,cs[j]?=some c->∃v,w.cell? (ad.add j)=some v/\Cx w A β c v)(hp:(Dd P t=true/\p=.agg cs)\/(Dd P t=false/\cs=[p])):∃val,(loadVar t ad).run P w=.ok val w/\Fc w A β p val:=by
 obtain⟨⟨d,hd⟩,hl,hi⟩:=Y1 hok;rcases hp with⟨Jl,rfl⟩|⟨Jl,rfl⟩
 ·have hf:∀j,j<Bw P t->w.cell? (ad.add j)=some ((w.cell? (ad.add j)).getD undef):=by
   intro j hj;obtain⟨v,hv,_⟩:=hc j _ (List.getElem?_eq_getElem (by omega));rw[hv];rfl
  refine⟨_,?_,(List.range (Bw P t)).map (fun j=>(w.cell? (ad.add j)).getD undef),rfl,?_⟩
  ·simp only[loadVar,Sem.run_bind,Tx hd,Jl,Result.andThen_ok,if_true,Qt hi,run_loadCells w ad (Bw P t) _ hf];simp
  ·refine B9.of_at (by simp;omega) fun i c u AL hu=>?_
   obtain⟨v,hv,PJ⟩:=hc i c AL
   have Cq:i<Bw P t:=by
    rcases Mi i cs.length with h|h
    ·omega
    ·rw[List.getElem?_eq_none h] at AL;cases AL
   rw[List.getElem?_map,List.getElem?_range Cq] at hu;simp[hv] at hu;subst hu;exact PJ
 ·obtain⟨v,hv,PJ⟩:=hc 0 p rfl;have hn:=OA p (by simp);have h0:ad.add 0=ad:=by simp[Addr.add]
  rw[h0] at hv;refine⟨v,?_,(Tt hn.2).2 ((AN hn.1).2 PJ)⟩;simp only[loadVar,Sem.run_bind,Tx hd,Jl,Result.andThen_ok];simp[hv]
theorem Asf{hp:Nat->Option Cb}{id:Nat}{c:Ab}(h:rd hp id=some c):hp id=some (.st c)\/∃f,hp id=some (.ar f c):=by
 unfold rd at h;split at h
 ·rename_i e;simp at h;subst h;exact .inl e
 ·rename_i f _ e;simp at h;subst h;exact .inr ⟨_,e⟩
 ·cases h
theorem Acc{hp:Nat->Option Cb}{id:Nat}{c:Ab}(h:Pw hp id=some c):∃f,hp id=some (.ar f c):=by
 unfold Pw at h;split at h
 ·rename_i e;simp at h;subst h;exact⟨_,e⟩
 ·cases h
theorem WA(h:Cj N w0 X0 Y β s a w){id:Nat}{c:Ab}(hr:rd s.hp id=some c){b ob:Nat}(hβ:β id=some (b,ob)){j:Nat}{p:PV}(hj:c[j]?=some p):
  ∃v,w.cell? ⟨b,ob+j,none⟩=some v/\Cx w (D2 s.hp β Y) β p v:=by
 rcases Asf hr with hb|⟨f,hb⟩
 ·obtain⟨b',o',h1,h2,_⟩:=h.box id _ hb;rw[hβ] at h1;simp at h1;obtain⟨rfl,rfl⟩:=h1;exact h2 j p hj
 ·rcases h.box id _ hb with⟨h1,_⟩|⟨b',o',h1,h2,_⟩
  ·rw[hβ] at h1;cases h1
  ·rw[hβ] at h1;simp at h1;obtain⟨rfl,rfl⟩:=h1
   obtain⟨v,hv,_,ht⟩:=h2 j p hj;rw[Fy] at hv;refine⟨v,hv,?_⟩;cases ht with
   |sc=>exact Bd.sc _
   |top=>exact Bd.top _
   |ub=>exact Bd.ub _
   |lnil=>exact Bd.lnil _ _
   |lemp=>exact Bd.lemp _ _ _
   |lst es n cells a cap f hs hb hA hn hc h1 hr=>exact Bd.lst es n cells a cap f hs hb hA hn hc h1 hr
theorem Qs:∀{ts:List CT}{cells:Ab}{off:Nat}{K:Ab->Option R},DS ts cells off K=some r->Xj ts cells off K=some r
 |[],_,_,_,h=>h
 |.int k::ts,cells,off,K,h=>by
  obtain⟨n,hp,h⟩:=G0 (show Be k (cells.getD off .top) _=some r from h);show Be k _ _=_;rw[hp];simp only[Be,if_true];exact Qs h
 |.bool::ts,cells,off,K,h=>by
  obtain⟨n,hp,h⟩:=Fq (show Cg (cells.getD off .top) _=some r from h);show Cg _ _=_;rw[hp];exact Qs h
 |.str::ts,cells,off,K,h=>by
  obtain⟨n,hp,h⟩:=Fp (show D8 (cells.getD off .top) _=some r from h);show D8 _ _=_;rw[hp];exact Qs h
 |.sl es::ts,cells,off,K,h=>by
  obtain⟨z,n,c,h,hp⟩:=Iy (show Pq es (cells.getD off .top) _=some r from h);change fcK (.sl es) (cells.getD off .top) (fun c=>Xj ts cells (off+1) fun r=>K (c::r))=some r;unfold fcK;dsimp only;unfold fsK;rcases hp with hp|⟨hp,rfl,rfl,rfl⟩
  ·rw[hp];simp only[Pq,Pu,cond_true];exact Qs h
  ·rw[hp];exact Qs h
 |.any::ts,cells,off,K,h=>by
  obtain⟨f,a,b,hp,h⟩:=Acv (show fnK (cells.getD off .top) (fun v=>DS ts cells (off+1) fun r=>K (.sc v::r))=some r from h);show fnK (cells.getD off .top) (fun v=>Xj ts cells (off+1) fun r=>K (.sc v::r))=some r;rw[hp];exact Qs h
theorem Bd.unz{w:World}{A:Nat->Prop}{z:Bool}{es n:Nat}{c:Ab}{u:Value}(h:Bd w A (.lst z es n c) u):Bd w A (.lst false es n c) u:=by
 cases h with
 |lnil z es=>exact .lnil false es
 |lemp es a cap=>exact .lemp es a cap
 |lst es n c a cap f h1 h2 h3 h4 h5 h6 h7=>exact .lst es n c a cap f h1 h2 h3 h4 h5 h6 h7
theorem Anb{w:World}{A:Nat->Prop}{β:Bt}{p:PV}{u:Value}(h:Cx w A β p u):Cx w A β (Ab6 p) u:=by
 cases p with
 |lst z es n c=>exact Bd.unz h
 |_=>exact h
theorem Akb(p:PV):A9 (Ab6 p)=A9 p:=by cases p<;>rfl
theorem ZO{w:World}{A:Nat->Prop}{β:Bt}:∀{cs:Ab}{vs:List Value},B9 (Cx w A β) cs vs->B9 (Cx w A β) (cs.map Ab6) vs
 |[],[],_=>trivial
 |_::_,_::_,h=>⟨Anb h.1,ZO h.2⟩
 |[],_::_,h=>h.elim
 |_::_,[],h=>h.elim
theorem Ape{w:World}{A:Nat->Prop}{β:Bt}{p:PV}{u:Value}(h:Fc w A β p u):Fc w A β (Ao2 p) u:=by
 cases p with
 |agg cs=>
  obtain⟨vs,h1,h2⟩:=(show Jb w A β (.agg cs) u from h)
  exact⟨vs,h1,ZO h2⟩
 |lst z es n c=>exact Bd.unz (show Bd w A (.lst z es n c) u from h)
 |_=>exact h
theorem Anh(p:PV):Cn (Ao2 p)=Cn p:=by
 cases p with
 |agg cs=>
  show (cs.map Ab6).flatMap A9=cs.flatMap A9
  induction cs with
  |nil=>rfl
  |cons a l ih=>rw[Sf,Jr,Jr,ih,Akb]
 |_=>rfl
theorem Axn{hp:Nat->Option Cb}{t:TypeId}{x:PV}{K:PV->Option R}(h:JY P (rd hp) (Pw hp) t x K=some r):
  VB P (rd hp) t x K=some r\/VB P (rd hp) t x (fun v=>K (Ao2 v))=some r:=by
 unfold JY at h;unfold VB;split at h
 ·rename_i id off;obtain⟨hb,h⟩:=Az h;rw[hb];show F3 _ _=_\/F3 _ _=_;split at h
  ·rename_i c hc;obtain⟨f,Pr⟩:=Acc hc;have:rd hp id=some c:=by unfold rd;rw[Pr]
   rw[this];exact .inr (Qs h)
  ·exact .inl h
 ·exact .inr h
 ·cases h
theorem ZK(h:Cj N w0 X0 Y β s a w){t:TypeId}{x:PV}{u:Value}(hx:Fc w (D2 s.hp β Y) β x u){K:PV->Option R}(hk:VB P (rd s.hp) t x K=some r):
  ∃v ad val,K v=some r/\u=.pointer (some ad)/\(loadVar t ad).run P w=.ok val w/\Fc w (D2 s.hp β Y) β v val/\∀i∈Cn v,s.hp i≠none:=by
 unfold VB at hk;split at hk
 ·rename_i id off;obtain⟨hok,hk⟩:=Az hk;obtain⟨c,hr,hk⟩:=Ed hk;obtain⟨cs,hk,hl,OA,hc⟩:=EC hk;obtain⟨b,ob,hβ,Ez⟩:=hx
  have hcell:∀(j:Nat) q,cs[j]?=some q->∃v,w.cell? ((⟨b,ob+off,none⟩:Addr).add j)=some v/\Cx w (D2 s.hp β Y) β q v:=by
   intro j q hq;obtain⟨p,hp,_,_,IZ⟩:=hc j q hq;obtain⟨v,hv,PJ⟩:=WA h hr hβ hp;exact⟨v,by rw[Fy,Sb];exact hv,(IZ _ _ _ _ PJ).1⟩
  have GB:∀q∈cs,∀i∈A9 q,s.hp i≠none:=by
   intro q hq i hi;obtain⟨j,hj⟩:=List.mem_iff_getElem?.1 hq;obtain⟨p,hp,_,hpr,_⟩:=hc j q hj;rcases Asf hr with hb|⟨f,hb⟩
   ·exact h.wfB id c hb p (List.mem_of_getElem? hp) i (hpr i hi)
   ·obtain⟨v,hv,PJ⟩:=WA h hr hβ hp;exfalso;have Di:=hpr i hi;rcases h.box id _ hb with⟨_,rfl⟩|⟨b',o',h1,h2,_⟩
    ·simp at hp
    ·obtain⟨v',_,_,ht⟩:=h2 _ p hp;cases ht<;>cases Di
  rcases Acn hk with⟨Jl,Hl⟩|⟨Jl,q,rfl,Hl⟩
  ·obtain⟨val,JK,hv⟩:=LY hok hl OA hcell (.inl ⟨Jl,rfl⟩);refine⟨_,_,val,Hl,Ez,JK,hv,fun i hi=>?_⟩;obtain⟨q,hq,hi⟩:=List.mem_flatMap.1 (show i∈cs.flatMap A9 from hi);exact GB q hq i hi
  ·obtain⟨val,JK,hv⟩:=LY hok hl OA hcell (.inr ⟨Jl,rfl⟩);refine⟨_,_,val,Hl,Ez,JK,hv,fun i hi=>GB q (by simp) i ?_⟩;have hn:=OA q (by simp);rw[Aij hn.1 hn.2] at hi;exact hi
 ·rename_i c off;obtain⟨hok,hk⟩:=Az hk;obtain⟨cs,hk,hl,hc⟩:=CE hk;obtain⟨ad,Ez,hs,hb,hA,hrd⟩:=hx
  have OA:∀q∈cs,(∀x,q ≠ .agg x)/\(∀x,q ≠ .tup x):=by
   intro q hq;obtain⟨j,hj⟩:=List.mem_iff_getElem?.1 hq;exact⟨KR (hc j q hj).1,Alr (hc j q hj).1⟩
  have hcell:∀(j:Nat) q,cs[j]?=some q->∃v,w.cell? ((ad.add off).add j)=some v/\Cx w (D2 s.hp β Y) β q v:=by
   intro j q hq;obtain⟨hT,p,hp,WL,IZ⟩:=hc j q hq;obtain⟨v,hv,_,ht⟩:=hrd (off+j) p hp;exact⟨v,by rw[add_add];exact hv,(Q8 hT).2 (IZ w (D2 s.hp β Y) β v ((Q8 WL).2 ht)).1⟩
  have GB:∀q∈cs,A9 q=[]:=by
   intro q hq;obtain⟨j,hj⟩:=List.mem_iff_getElem?.1 hq;exact Mc (hc j q hj).1
  rcases Acn hk with⟨Jl,Hl⟩|⟨Jl,q,rfl,Hl⟩
  ·obtain⟨val,JK,hv⟩:=LY hok hl OA hcell (.inl ⟨Jl,rfl⟩);refine⟨_,_,val,Hl,Ez,JK,hv,fun i hi=>?_⟩;obtain⟨q,hq,hi⟩:=List.mem_flatMap.1 (show i∈cs.flatMap A9 from hi);rw[GB q hq] at hi;cases hi
  ·obtain⟨val,JK,hv⟩:=LY hok hl OA hcell (.inr ⟨Jl,rfl⟩);refine⟨_,_,val,Hl,Ez,JK,hv,fun i hi=>?_⟩;have hn:=OA q (by simp);rw[Aij hn.1 hn.2,GB q (by simp)] at hi;cases hi
 ·cases hk
theorem Aff(h:Cj N w0 X0 Y β s a w){t:TypeId}{x:PV}{u:Value}(hx:Fc w (D2 s.hp β Y) β x u){K:PV->Option R}(hk:JY P (rd s.hp) (Pw s.hp) t x K=some r):
  ∃v ad val,K v=some r/\u=.pointer (some ad)/\(loadVar t ad).run P w=.ok val w/\Fc w (D2 s.hp β Y) β v val/\∀i∈Cn v,s.hp i≠none:=by
 rcases Axn hk with hk|hk
 ·exact ZK h hx hk
 ·obtain⟨v,ad,val,h1,h2,h3,h4,h5⟩:=ZK h hx hk;exact⟨Ao2 v,ad,val,h1,h2,h3,Ape h4,by rw[Anh];exact h5⟩
theorem Aku(h:Cj N w0 X0 Y β s a w){t:TypeId}{x:Operand}(ho:o.op=.load t x){K:PV->Option R}(hk:JY P (rd s.hp) (Pw s.hp) t (Db s.tm x) K=some r):
  ∃v,K v=some r/\G4 P a w o Y β s v [] []:=by
 obtain⟨v,ad,val,E9,Ez,hl,hv,hr⟩:=Aff h (Er h x) hk;refine⟨v,E9,De ?_ hv hr⟩;unfold execOp;rw[ho];simp[Instr.loadAt,Instr.sureAddr,Ez,hl]
theorem Ao1{x:PV}{d:Nat}{K:PV->Option R}(h:ED x d K=some r):(∃id off,x=.ptr id off/\K (.ptr id (off+d))=some r)\/∃c off,x=.iptr c off/\K (.iptr c (off+d))=some r:=by
 unfold ED at h;split at h
 ·exact .inl ⟨_,_,rfl,h⟩
 ·exact .inr ⟨_,_,rfl,h⟩
 ·cases h
theorem HS(h:Cj N w0 X0 Y β s a w){x:Operand}{d:Nat}{K:PV->Option R}(hk:ED (Db s.tm x) d K=some r)(Eg:∀ad:Addr,a.eval x=.pointer (some ad)->(execOp a.eval o).run P w=.ok (.value (.pointer (some (ad.add d)))) w):∃v,K v=some r/\G4 P a w o Y β s v [] []:=by
 have hx:=Er h x;have XF:=Hz h x;rcases Ao1 hk with⟨id,off,e,hk⟩|⟨c,off,e,hk⟩
 ·rw[e] at hx XF;obtain⟨b,ob,hβ,Ez⟩:=hx;refine⟨_,hk,De (Eg _ Ez) ⟨b,ob,hβ,by rw[Fy,Sb]⟩ XF⟩
 ·rw[e] at hx;obtain⟨ad,Ez,h1,h2,h3,h4⟩:=hx;exact⟨_,hk,De (Eg _ Ez) ⟨ad,by rw[add_add],h1,h2,h3,h4⟩ (by intro i hi;cases hi)⟩
theorem WM(h:Cj N w0 X0 Y β s a w){x:Operand}(ho:o.op=.nilCheck x){K:PV->Option R}(hk:ED (Db s.tm x) 0 K=some r):∃v,K v=some r/\G4 P a w o Y β s v [] []:=by refine HS h hk fun ad Ez=>?_;unfold execOp;rw[ho];simp[Ez,Addr.add]
theorem KG{t:TypeId}{f:Nat}{q:Nat × TypeId}(h:Y7 P t f=some q):∃fs g,P.underlying t=some (.struct fs)/\fs[f]?=some g/\q=(g.offset,g.type):=by
 unfold Y7 at h;split at h
 ·rename_i fs e;cases hg:fs[f]? with
  |none=>rw[hg] at h;cases h
  |some g=>rw[hg] at h;simp at h;exact⟨fs,g,e,hg,h.symm⟩
 ·cases h
theorem RM(h:Cj N w0 X0 Y β s a w){t:TypeId}{x:Operand}{f:Nat}(ho:o.op=.fieldAddr t x f){K:PV->Option R}(hk:(F3 (Y7 P t f) fun q=>As (Nat.ble 1 (Bw P q.2)) (ED (Db s.tm x) q.1 K))=some r):∃v,K v=some r/\G4 P a w o Y β s v [] []:=by
 obtain⟨q,hq,hk⟩:=Ed hk;obtain⟨hs,hk⟩:=Az hk;obtain⟨fs,g,hu,hg,rfl⟩:=KG hq;have hs:1<=Bw P g.type:=Xx hs;have Kz:=Ark (P:=P) (t:=g.type) rfl (by omega);refine HS h hk fun ad Ez=>?_;unfold execOp;rw[ho];have Gz:¬Bw P g.type=0:=by omega
 simp[Instr.fieldAt,run_underlying hu,hg,Instr.sureAddr,Ez,fieldPlace,Qt Kz,Gz]
end
open Go.RowKit
section
variable {R:Type}{r:R}{P:Program}{N:Nat}{w0:World}{X0:Gn}{Y:Nat->Prop}{β β':Bt}{s:St}{a:Act}{w w':World}{o:Oper}{A:Nat->Prop}
theorem VA(h:Cj N w0 X0 Y β s a w){t:TypeId}{cs:Ab}{vs:List Value}{off:Nat}{K:PV->Option R}{x:Operand}(hx:Db s.tm x=.agg cs)(hv:B9 (Cx w (D2 s.hp β Y) β) cs vs)(hk:As (Nx P t) (Xj (M0 P t) cs off fun c=>mkV (Dd P t) c K)=some r)(Eg:∀val,(part t ⟨vs⟩ off).run P w=.ok val w->(execOp a.eval o).run P w=.ok (.value val) w):∃v,K v=some r/\G4 P a w o Y β s v [] []:=by
 obtain⟨hok,hk⟩:=Az hk;obtain⟨⟨d,hd⟩,hl,hi⟩:=Y1 hok;obtain⟨qs,hk,hql,OA,hq⟩:=EC hk;have XF:=Hz h x;rw[hx] at XF
 have hcell:∀(j:Nat) q,qs[j]?=some q->∃v,vs[off+j]?=some v/\Cx w (D2 s.hp β Y) β q v:=by
  intro j q hj;obtain⟨p,hp,_,_,IZ⟩:=hq j q hj;obtain⟨v,Wc,hc⟩:=hv.get hp;exact⟨v,Wc,(IZ _ _ _ _ hc).1⟩
 have GB:∀q∈qs,∀i∈A9 q,s.hp i≠none:=by
  intro q hqm i hi;obtain⟨j,hj⟩:=List.mem_iff_getElem?.1 hqm;obtain⟨p,hp,_,hpr,_⟩:=hq j q hj;exact XF i (List.mem_flatMap.2 ⟨p,List.mem_of_getElem? hp,hpr i hi⟩)
 rcases Acn hk with⟨Jl,Hl⟩|⟨Jl,q,rfl,Hl⟩
 ·have ET:Bw P t=0\/off+Bw P t<=vs.length:=by
   rcases Nat.eq_zero_or_pos (Bw P t) with h0|h0
   ·exact .inl h0
   ·obtain⟨v,Wc,_⟩:=hcell (Bw P t-1) _ (List.getElem?_eq_getElem (by omega))
    have:off+(Bw P t-1)<vs.length:=by
     rcases Mi (off+(Bw P t-1)) vs.length with h|h
     ·exact h
     ·rw[List.getElem?_eq_none h] at Wc;cases Wc
    exact .inr (by omega)
  refine⟨_,Hl,De (Eg (.agg ⟨(vs.drop off).take (Bw P t)⟩) ?_) ⟨(vs.drop off).take (Bw P t),rfl,?_⟩ fun i hi=>?_⟩
  ·simp only[part,Sem.run_bind,Tx hd,Jl,Result.andThen_ok,if_true,Qt hi];simp[List.extract_eq_take_drop]
  ·refine B9.of_at ?_ fun i c u hc hu=>?_
   ·simp only[List.length_take,List.length_drop];omega
   ·obtain⟨v,Wc,PJ⟩:=hcell i c hc
    have Cq:i<Bw P t:=by
     rcases Mi i qs.length with h|h
     ·omega
     ·rw[List.getElem?_eq_none h] at hc;cases hc
    rw[List.getElem?_take_of_lt Cq,List.getElem?_drop,Wc] at hu;cases hu;exact PJ
  ·obtain⟨q,hqm,hi⟩:=List.mem_flatMap.1 (show i∈qs.flatMap A9 from hi);exact GB q hqm i hi
 ·obtain⟨v,Wc,PJ⟩:=hcell 0 q rfl;have hn:=OA q (by simp);refine⟨_,Hl,De (Eg v ?_) ((Tt hn.2).2 ((AN hn.1).2 PJ)) fun i hi=>?_⟩
  ·simp only[part,Sem.run_bind,Tx hd,Jl,Result.andThen_ok];rw[JF] at Wc;simp[Wc]
  ·rw[Aij hn.1 hn.2] at hi;exact GB q (by simp) i hi
theorem Ag1(h:Cj N w0 X0 Y β s a w){t:TypeId}{x:Operand}{f:Nat}(ho:o.op=.field t x f){K:PV->Option R}(hk:(F3 (Y7 P t f) fun q=>As (Nx P q.2)<|Dr (Db s.tm x) fun cs=>Xj (M0 P q.2) cs q.1 fun c=>mkV (Dd P q.2) c K)=some r):∃v,K v=some r/\G4 P a w o Y β s v [] []:=by
 obtain⟨q,hq,hk⟩:=Ed hk;obtain⟨hok,hk⟩:=Az hk;obtain⟨cs,hx,hk⟩:=Le hk;obtain⟨fs,g,hu,hg,rfl⟩:=KG hq;have hxv:=Er h x;rw[hx] at hxv;obtain⟨vs,Ez,hv⟩:=hxv;refine VA (t:=g.type) (off:=g.offset) h hx hv (by rw[show Nx P g.type=true from hok];exact hk) fun val hp=>?_
 unfold execOp;rw[ho];simp[Instr.field,run_underlying hu,hg,asAgg,Ez,hp]
theorem YA(h:Cj N w0 X0 Y β s a w){x:Operand}{i:Nat}(ho:o.op=.extract x i){K:PV->Option R}(hk:(match Db s.tm x with | .tup vs=>F3 vs[i]? K|_=>none)=some r):∃v,K v=some r/\G4 P a w o Y β s v [] []:=by
 have hx:=Er h x;have XF:=Hz h x;split at hk
 ·rename_i ps e;rw[e] at hx XF;obtain⟨p,hp,hk⟩:=Ed hk;obtain⟨vs,Ez,hv⟩:=hx;obtain⟨v,Wc,IZ⟩:=hv.get hp
  have Az5:∀y,p ≠ .tup y:=by
   rintro y rfl
   have Bai:Bd _ _ (.tup y) v:=IZ;cases Bai
  refine⟨p,hk,De (val:=v) ?_ ((Tt Az5).2 IZ) fun id B5=>XF id ?_⟩
  ·unfold execOp;rw[ho];simp[Instr.extract,Ez,Wc]
  ·refine List.mem_flatMap.2 ⟨p,List.mem_of_getElem? hp,?_⟩;cases p<;>first|exact B5|exact absurd rfl (Az5 _)
 ·cases hk
theorem slice_form{es:Nat}{p:PV}{z:Bool}{n:Nat}{c:Ab}{v:Value}(hp:p=.lst z es n c\/(p=.sc (.slice none 0 0)/\z=true/\n=0/\c=[]))(hv:Fc w A β p v):
  (v=.slice none 0 0/\n=0/\c=[])\/(∃ad cap,v=.slice (some ad) n cap/\z=false/\n<=cap/\ad.spot=none/\ad.block<w.heap.size/\¬A ad.block/\YO w A ad c)\/∃ad cap,v=.slice (some ad) 0 cap/\z=false/\n=0/\c=[]:=by
 have Wc:Cx w A β p v:=by rcases hp with rfl|⟨rfl,_⟩<;>exact hv
 have ht:=IH hp Wc;cases ht with
 |lnil=>exact .inl ⟨rfl,rfl,rfl⟩
 |lst _ _ _ ad cap f hs hb hA hn hc h1 hr=>exact .inr (.inl ⟨ad,cap,rfl,rfl,hn,hs,hb,hA,fun j q hj=>⟨f j,hc j q hj,h1 j q hj,hr j q hj⟩⟩)
 |lemp _ ad cap=>exact .inr (.inr ⟨ad,cap,rfl,rfl,rfl,rfl⟩)
theorem RU(h:Cj N w0 X0 Y β s a w){t:TypeId}{x i:Operand}(ho:o.op=.indexAddr t x i){K:PV->Option R}(hk:(Fk (Db s.tm i) fun _ n=>Ql P t (Db s.tm x) n K)=some r):∃v,K v=some r/\G4 P a w o Y β s v [] []:=by
 obtain⟨ik,n,hi,hk⟩:=Fa hk;have hai:=D3 h hi;have hx:=Er h x;have XF:=Hz h x;unfold Ql at hk;split at hk
 ·rename_i len e hu;obtain⟨hz,hk⟩:=Az hk;obtain⟨hb,hk⟩:=Az hk;simp only[G8,MR] at hb;obtain⟨inf,Xo⟩:=Option.isSome_iff_exists.1 hz;refine HS h hk fun ad Ez=>?_;unfold execOp;rw[ho];simp[Instr.indexAt,asIntOf,hai,Ez,run_underlying hu,Instr.sureAddr,hb.1,hb.2,sizeOf,typeInfo,Xo,Bw]
 ·rename_i e hu;obtain⟨hz,hk⟩:=Az hk;obtain⟨inf,Xo⟩:=Option.isSome_iff_exists.1 hz;have Kz:Bw P e=inf.size:=by simp[Bw,Xo]
  split at hk
  ·rename_i id es off n' e';rw[e'] at hx XF;obtain⟨QD,hk⟩:=Az hk;have QD:=Et QD;subst QD;obtain⟨hb,hk⟩:=Az hk;simp only[G8,MR] at hb;rcases hx with⟨_,_,rfl,_⟩|⟨b,ob,y,cap,hβ,Ez,hy,_⟩
   ·omega
   ·have hy:y=ob+off:=by rcases hy with hy|⟨rfl,_⟩<;>omega
    subst hy;refine⟨_,hk,De (val:=.pointer (some ⟨b,ob+(off+n.toNat*Bw P e),none⟩)) ?_ ⟨b,ob,hβ,rfl⟩ XF⟩;unfold execOp;rw[ho];simp[Instr.indexAt,asIntOf,hai,Ez,run_underlying hu,hb.1,hb.2,sizeOf,typeInfo,Xo,Kz,Fy,Sb]
  ·obtain⟨z,n',c,hk,hp⟩:=Iy hk;obtain⟨hb,hk⟩:=Az hk;simp only[G8,MR] at hb;rcases slice_form hp hx with⟨_,rfl,_⟩|⟨ad,cap,Ez,_,_,h1,h2,h3,h4⟩|⟨_,_,_,_,rfl,_⟩
   ·omega
   rotate_left
   ·omega
   ·refine⟨_,hk,De (val:=.pointer (some (ad.add (n.toNat*Bw P e)))) ?_ ⟨ad,rfl,h1,h2,h3,h4⟩ (by intro i hi;cases hi)⟩
    unfold execOp;rw[ho];simp[Instr.indexAt,asIntOf,hai,Ez,run_underlying hu,hb.1,hb.2,sizeOf,typeInfo,Xo,Kz]
 ·cases hk
theorem Agh(h:Cj N w0 X0 Y β s a w){t:TypeId}{x i:Operand}(ho:o.op=.index t x i){K:PV->Option R}(hk:(Fk (Db s.tm i) fun _ n=>
   match P.underlying t with
   |some .string=>D8 (Db s.tm x) fun s=>As (decide (0<=n)) (F3 (s.data.toList[n.toNat]?) fun b=>K (.sc (.int .u8 b.toNat)))
   |some (.array len e)=>Dr (Db s.tm x) fun cs=>As (decide (0<=n)&&decide (n<len)&&Nx P e) (Xj (M0 P e) cs (n.toNat*Bw P e) fun c=>mkV (Dd P e) c K)
   |_=>none)=some r):∃v,K v=some r/\G4 P a w o Y β s v [] []:=by
 obtain⟨ik,n,hi,hk⟩:=Fa hk;have hai:=D3 h hi;split at hk
 ·rename_i hu;obtain⟨sb,hx,hk⟩:=Fp hk;have Ez:=D3 h hx;obtain⟨h0,hk⟩:=Az hk;obtain⟨b,hb,hk⟩:=Ed hk;have h0:=of_decide_eq_true h0;refine⟨_,hk,Ek ?_⟩
  have Cq:n.toNat<sb.size:=by
   rcases Mi n.toNat sb.data.toList.length with h|h
   ·simpa using h
   ·rw[List.getElem?_eq_none h] at hb;cases hb
  have J8:sb[n.toNat]=b:=by
   have:sb.data.toList[n.toNat]?=some sb[n.toNat]:=by
    rw[List.getElem?_eq_getElem (by simpa using Cq)];rfl
   rw[hb] at this;injection this with this;exact this.symm
  unfold execOp;rw[ho];simp[Instr.index,asIntOf,hai,Ez,run_underlying hu,h0,Cq,J8]
 ·rename_i len e hu;obtain⟨cs,hx,hk⟩:=Le hk;obtain⟨hb,hk⟩:=Az hk;simp only[G8,MR] at hb;have hxv:=Er h x;rw[hx] at hxv;obtain⟨vs,Ez,hv⟩:=hxv;obtain⟨_,_,Kz⟩:=Y1 hb.2;refine VA (t:=e) (off:=n.toNat*Bw P e) h hx hv (by rw[hb.2];exact hk) fun val hp=>?_
  unfold execOp;rw[ho];simp[Instr.index,asIntOf,hai,Ez,run_underlying hu,hb.1.1,hb.1.2,Qt Kz,hp]
 ·cases hk
end
open Go.RowKit
section
variable {R:Type}{r:R}{P:Program}{N:Nat}{w0:World}{X0:Gn}{Y:Nat->Prop}{β β':Bt}{s:St}{a:Act}{w w':World}{o:Oper}{A:Nat->Prop}
theorem F5(h:Cj N w0 X0 Y β s a w){x:Option Operand}{dflt:Nat}{K:Nat->Option R}(hk:Kn (x.map (Db s.tm)) dflt K=some r):
  ∃l,K l=some r/\((x=none/\l=dflt)\/∃y k,x=some y/\a.eval y=.int k (l:Int)):=by
 cases x with
 |none=>exact⟨dflt,hk,.inl ⟨rfl,rfl⟩⟩
 |some y=>
  obtain⟨k,i,hi,hk⟩:=Fa (show Fk (Db s.tm y) _=some r from hk);obtain⟨h0,hk⟩:=Az hk;have h0:=of_decide_eq_true h0;exact⟨i.toNat,hk,.inr ⟨y,k,rfl,by rw[D3 h hi,Int.toNat_of_nonneg h0]⟩⟩
theorem Nf{lo hi:Option Operand}{isS:Bool}{len cap l u:Nat}(hl:(lo=none/\l=0)\/∃y k,lo=some y/\a.eval y=.int k (l:Int))(hu:(hi=none/\u=len)\/∃y k,hi=some y/\a.eval y=.int k (u:Int))(h1:l<=u)(h2:u<=cap):
  (Instr.sliceBounds isS len cap (lo.map a.eval) (hi.map a.eval) none).run P w=.ok (l,u,cap) w:=by
 rcases hl with⟨rfl,rfl⟩|⟨y,k,rfl,hy⟩<;>rcases hu with⟨rfl,rfl⟩|⟨y',k',rfl,hy'⟩
 ·simp[Instr.sliceBounds]
 ·simp[Instr.sliceBounds,Instr.sliceBound,asIntOf,hy',h2]
 ·simp[Instr.sliceBounds,Instr.sliceBound,asIntOf,hy,h1]
 ·simp[Instr.sliceBounds,Instr.sliceBound,asIntOf,hy,hy',h1,h2]
theorem Eh{e:TypeId}(h:(P.info? e).isSome=true)(w:World):(sizeOf e).run P w=.ok (Bw P e) w:=by obtain⟨i,hi⟩:=Option.isSome_iff_exists.1 h;exact Qt (by simp[Bw,hi]) w
theorem VW{b j:Nat}{v:Value}(h:w.cell? ⟨b,j,none⟩=some v):j<bsz w b:=by
 unfold World.cell? at h;unfold bsz;split at h
 ·rename_i c e fz hb;simp only at hb;rw[hb];simp only[Option.isSome_none,Bool.false_eq_true,if_false] at h;rcases Mi j c.size with Cq|hge
  ·exact Cq
  ·rw[Array.getElem?_eq_none hge] at h;cases h
 ·cases h
theorem Agg(h:Cj N w0 X0 Y β s a w){t:TypeId}{x:Operand}{lo hi:Option Operand}(ho:o.op=.slice t x lo hi none){K:PV->Option R}(hk:MU P (rd s.hp) t (Db s.tm x) (lo.map (Db s.tm)) (hi.map (Db s.tm)) K=some r):∃v,K v=some r/\G4 P a w o Y β s v [] []:=by
 have hx:=Er h x;have XF:=Hz h x;unfold MU at hk;split at hk
 ·rename_i hu;obtain⟨sb,XI,hk⟩:=Fp hk;have Ez:=D3 h XI;obtain⟨l,hk,hl⟩:=F5 h hk;obtain⟨u,hk,Od⟩:=F5 h hk;obtain⟨hb,hk⟩:=Az hk;simp only[G8,MR] at hb;refine⟨_,hk,Ek ?_⟩;unfold execOp;rw[ho];simp[Instr.sliceAt,Instr.slice,run_underlying hu,Ez,Nf hl Od hb.1 hb.2]
 ·rename_i e hu;obtain⟨Xo,hk⟩:=Az hk;split at hk
  ·rename_i id es off n e';rw[e'] at hx XF;obtain⟨QD,hk⟩:=Az hk;have QD:=Et QD;subst QD;obtain⟨l,hk,hl⟩:=F5 h hk;obtain⟨u,hk,Od⟩:=F5 h hk;obtain⟨hb,hk⟩:=Az hk;simp only[G8,MR] at hb;rcases hx with⟨hβ,rfl,rfl,ad,Ez⟩|⟨b,ob,y,cap,hβ,Ez,hy,hn,RH,Cq⟩
   ·have hu0:u=0:=by omega
    have Zk:l=0:=by omega
    subst hu0 Zk;refine⟨_,hk,De (val:=.slice ad 0 0) ?_ (.inl ⟨hβ,by simp,rfl,ad,rfl⟩) XF⟩;unfold execOp;rw[ho];cases ad<;>simp[Instr.sliceAt,Instr.slice,run_underlying hu,Ez,Nf hl Od (C9 0) (C9 0),Eh Xo]
   ·have Eg:(execOp a.eval o).run P w=.ok (.value (.slice (some (if cap=l then ⟨b,y,none⟩ else ⟨b,y+l*Bw P e,none⟩)) (u-l) (cap-l))) w:=by
     unfold execOp;rw[ho];have hbr:=Nf (P:=P) (w:=w) (isS:=true) hl Od hb.1 (Nat.le_trans hb.2 hn);simp[Instr.sliceAt,Instr.slice,run_underlying hu,Ez,hbr,Eh Xo,Fy];split<;>rfl
    refine⟨_,hk,De Eg (.inr ?_) XF⟩;by_cases hc:cap=l
    ·rw[Bq hc];refine⟨b,ob,y,cap-l,hβ,rfl,?_,by omega,by rw[hc,Nat.sub_self];omega,Cq⟩
     by_cases h0:l*Bw P e=0
     ·rw[h0,JF];rcases hy with hy|⟨SE,Xe⟩
      ·exact .inl hy
      ·exact .inr ⟨by omega,Xe⟩
     ·exact .inr ⟨by omega,by omega⟩
    ·rw[A5 hc];refine⟨b,ob,y+l*Bw P e,cap-l,hβ,rfl,?_,by omega,?_,Cq⟩
     ·rcases hy with hy|⟨SE,Xe⟩
      ·exact .inl (by omega)
      ·exact .inr ⟨by omega,by omega⟩
     ·have:l*Bw P e+(cap-l)*Bw P e=cap*Bw P e:=by
       rw[<-Nat.add_mul]
       congr 1
       omega
      omega
  ·obtain⟨z,n,c,hk,hp⟩:=Iy hk;obtain⟨l,hk,hl⟩:=F5 h hk;obtain⟨u,hk,Od⟩:=F5 h hk;obtain⟨hb,hk⟩:=Az hk;simp only[G8,MR] at hb;rcases slice_form hp hx with⟨Ez,rfl,rfl⟩|⟨ad,cap,Ez,rfl,hn,h1,h2,h3,h4⟩|⟨ad,cap,Ez,rfl,rfl,rfl⟩
   rotate_right
   ·have hu0:u=0:=by omega
    have Zk:l=0:=by omega
    subst hu0 Zk;refine⟨_,hk,De (val:=.slice (some (if cap=0 then ad else ad.add (0*Bw P e))) (0-0) (cap-0)) ?_ ?_ (by intro i hi;cases hi)⟩
    ·unfold execOp;rw[ho];have hbr:=Nf (P:=P) (w:=w) (isS:=true) hl Od (C9 0) (Nat.zero_le cap);simp[Instr.sliceAt,Instr.slice,run_underlying hu,Ez,hbr,Eh Xo];split<;>rfl
    ·have:((([]:Ab).drop (0*Bw P e)).take ((0-0)*Bw P e))=[]:=by simp
     rw[this];exact Bd.lemp _ _ _
   ·have hu0:u=0:=by omega
    have Zk:l=0:=by omega
    subst hu0 Zk;refine⟨_,hk,De (val:=.slice none 0 0) ?_ ?_ (by intro i hi;cases hi)⟩
    ·unfold execOp;rw[ho];simp[Instr.sliceAt,Instr.slice,run_underlying hu,Ez,Nf hl Od (C9 0) (C9 0),Eh Xo]
    ·have:((([]:Ab).drop (0*Bw P e)).take ((0-0)*Bw P e))=[]:=by simp
     rw[this];exact Bd.lnil z _
   ·have Eg:(execOp a.eval o).run P w=.ok (.value (.slice (some (if cap=l then ad else ad.add (l*Bw P e))) (u-l) (cap-l))) w:=by
     unfold execOp;rw[ho];have hbr:=Nf (P:=P) (w:=w) (isS:=true) hl Od hb.1 (Nat.le_trans hb.2 hn);simp[Instr.sliceAt,Instr.slice,run_underlying hu,Ez,hbr,Eh Xo];split<;>rfl
    refine⟨_,hk,De Eg ?_ (by intro i hi;cases hi)⟩
    by_cases hc:cap=l
    ·rw[Bq hc];have:u-l=0:=by omega
     rw[this];simp only[Nat.zero_mul,List.take_zero];exact Bd.lst _ _ [] ad _ (fun _=>undef) h1 h2 h3 (by omega) (by simp) (by simp) (by simp)
    ·rw[A5 hc]
     have hcell:∀(j:Nat) q,((c.drop (l*Bw P e)).take ((u-l)*Bw P e))[j]?=some q->c[l*Bw P e+j]?=some q:=by
      intro j q hq;rw[List.getElem?_take] at hq;split at hq
      ·rw[List.getElem?_drop] at hq;exact hq
      ·cases hq
     refine Bd.lst _ _ _ (ad.add (l*Bw P e)) _ (fun j=>(w.cell? (ad.add (l*Bw P e+j))).getD undef) (Atu h1 _) (by rw[Io];exact h2) (by rw[Io];exact h3) (by omega) (fun j q hq=>?_) (fun j q hq=>?_) (fun j q hq=>?_)
     ·obtain⟨v,hv,_⟩:=h4 _ q (hcell j q hq);rw[add_add,hv];rfl
     ·obtain⟨v,hv,h5,_⟩:=h4 _ q (hcell j q hq);rw[hv];exact h5
     ·obtain⟨v,hv,_,ht⟩:=h4 _ q (hcell j q hq);rw[hv];exact ht
 ·rename_i n e hu;obtain⟨Xo,hk⟩:=Az hk;split at hk
  ·rename_i id off e';rw[e'] at hx XF;obtain⟨c,hrc,hk⟩:=Ed hk;obtain⟨Hr,hk⟩:=Az hk;simp only[G8,MR] at Hr;obtain⟨l,hk,hl⟩:=F5 h hk;obtain⟨u,hk,Od⟩:=F5 h hk;obtain⟨hb,hk⟩:=Az hk;simp only[G8,MR] at hb;obtain⟨b,ob,hβ,Ez⟩:=hx
   have UP:ob+off+n*Bw P e<=bsz w b:=by
    obtain⟨v,hv,_⟩:=WA h hrc hβ (j:=off+n*Bw P e-1) (List.getElem?_eq_getElem (by omega));have:=VW hv;omega
   have Cq:b<w.heap.size:=h.blt id b ob (XF id (by simp[Cn,C3,A9])) hβ
   have Eg:(execOp a.eval o).run P w=.ok (.value (.slice (some (if n=l then ⟨b,ob+off,none⟩ else ⟨b,ob+off+l*Bw P e,none⟩)) (u-l) (n-l))) w:=by
    unfold execOp;rw[ho];have hbr:=Nf (P:=P) (w:=w) (isS:=false) hl Od hb.1 hb.2;simp[Instr.sliceAt,Instr.sureAddr,run_underlying hu,Ez,hbr,Eh Xo,Fy]
   refine⟨_,hk,De Eg (.inr ?_) XF⟩;by_cases hc:n=l
   ·rw[Bq hc];refine⟨b,ob,ob+off,n-l,hβ,rfl,?_,by omega,by rw[hc,Nat.sub_self];omega,Cq⟩
    by_cases h0:l*Bw P e=0
    ·rw[h0,JF];exact .inl rfl
    ·exact .inr ⟨by omega,by omega⟩
   ·rw[A5 hc];refine⟨b,ob,ob+off+l*Bw P e,n-l,hβ,rfl,.inl (by omega),by omega,?_,Cq⟩
    have:l*Bw P e+(n-l)*Bw P e=n*Bw P e:=by
     rw[<-Nat.add_mul]
     congr 1
     omega
    omega
  ·cases hk
 ·cases hk
end
open Go.RowKit
section
variable {R:Type}{r:R}{P:Program}{N:Nat}{w0:World}{X0:Gn}{Y:Nat->Prop}{β β':Bt}{s:St}{a:Act}{w w':World}{o:Oper}{A:Nat->Prop}
theorem And(h:Cj N w0 X0 Y β s a w){c:Call}(ho:o.op=.call c)(hc:c.callee=.builtin .len){K:PV->Option R}(hk:(Av c.args.toList fun x _=>Av c.argTypes.toList fun t _=>An2 P t (Db s.tm x) fun n=>K (.sc (.int .i64 n)))=some r):∃v,K v=some r/\G4 P a w o Y β s v [] []:=by
 obtain⟨x,xs,XI,hk⟩:=Br hk;obtain⟨t,ts,hts,hk⟩:=Br hk;have hx:=Er h x;have Fz:c.args=(x::xs).toArray:=by rw[<-XI]
 have RN:c.argTypes=(t::ts).toArray:=by rw[<-hts]
 have Eg:∀n:Nat,(Builtin.len_ c.argTypes o.type (c.args.map a.eval)).run P w=.ok (.int .i64 n) w->(execOp a.eval o).run P w=.ok (.value (.int .i64 n)) w:=by
  intro n hl;unfold execOp;rw[ho];simp only[resolve,hc,invoke,builtin,Sem.run_bind,Sem.run_pure,Result.andThen_ok,hl]
 unfold An2 at hk;split at hk
 ·rename_i hu;obtain⟨sb,Bbp,hk⟩:=Fp hk;have Ez:=D3 h Bbp;refine⟨_,hk,Ek (Eg _ ?_)⟩;simp[Builtin.len_,Fz,RN,run_underlying hu,Ez,goInt]
 ·rename_i n e hu;refine⟨_,hk,Ek (Eg _ ?_)⟩;simp[Builtin.len_,Fz,RN,run_underlying hu,goInt]
 ·rename_i e hu;split at hk
  ·rename_i id es off n e';rw[e'] at hx;obtain⟨_,hk⟩:=Az hk;refine⟨_,hk,Ek (Eg _ ?_)⟩;rcases hx with⟨_,_,rfl,ad,Ez⟩|⟨b,ob,y,cap,_,Ez,_⟩<;>simp[Builtin.len_,Fz,RN,run_underlying hu,Ez,goInt]
  ·obtain⟨z,n,cc,hk,hp⟩:=Iy hk;refine⟨_,hk,Ek (Eg _ ?_)⟩;rcases slice_form hp hx with⟨Ez,rfl,_⟩|⟨ad,cap,Ez,_⟩|⟨ad,cap,Ez,_,rfl,_⟩<;>simp[Builtin.len_,Fz,RN,run_underlying hu,Ez,goInt]
 ·cases hk
theorem An5(h:Cj N w0 X0 Y β s a w){c:Call}(ho:o.op=.call c)(hc:c.callee=.builtin .cap){K:PV->Option R}(hk:(Av c.args.toList fun x _=>Av c.argTypes.toList fun t _=>Ao4 P t (Db s.tm x) fun n=>K (.sc (.int .i64 n)))=some r):∃v,K v=some r/\G4 P a w o Y β s v [] []:=by
 obtain⟨x,xs,XI,hk⟩:=Br hk;obtain⟨t,ts,hts,hk⟩:=Br hk;have hx:=Er h x;have Fz:c.args=(x::xs).toArray:=by rw[<-XI]
 have RN:c.argTypes=(t::ts).toArray:=by rw[<-hts]
 have Eg:∀n:Nat,(Builtin.cap_ c.argTypes o.type (c.args.map a.eval)).run P w=.ok (.int .i64 n) w->(execOp a.eval o).run P w=.ok (.value (.int .i64 n)) w:=by
  intro n hl;unfold execOp;rw[ho];simp only[resolve,hc,invoke,builtin,Sem.run_bind,Sem.run_pure,Result.andThen_ok,hl]
 unfold Ao4 at hk;split at hk
 ·rename_i e hu;obtain⟨z,n,cc,hk,hp⟩:=Iy hk;obtain⟨hz,hk⟩:=Az hk;refine⟨_,hk,Ek (Eg _ ?_)⟩;rcases slice_form hp hx with⟨Ez,rfl,_⟩|⟨ad,cap,Ez,UV,_⟩|⟨ad,cap,Ez,UV,_,_⟩
  ·simp[Builtin.cap_,Fz,RN,run_underlying hu,Ez,goInt]
  ·rw[hz] at UV;cases UV
  ·rw[hz] at UV;cases UV
 ·cases hk
theorem Apd(h:Cj N w0 X0 Y β s a w){c:Call}(ho:o.op=.call c)(hc:c.callee=.builtin .min){K:PV->Option R}(hk:(Av c.args.toList fun x r=>Av r fun y r'=>Aq r' (Ax6 (Db s.tm x) (Db s.tm y) K))=some r):∃v,K v=some r/\G4 P a w o Y β s v [] []:=by
 obtain⟨x,xs,XI,hk⟩:=Br hk;obtain⟨y,ys,rfl,hk⟩:=Br hk;obtain⟨rfl,hk⟩:=Fg hk;obtain⟨k,n,hx,hk⟩:=Fa hk;obtain⟨m,hy,hk⟩:=G0 hk
 have Fz:c.args = #[x,y]:=by
  have:c.args=([x,y]:List Operand).toArray:=by rw[<-XI]
  exact this
 refine⟨_,hk,Ek ?_⟩;unfold execOp;rw[ho];simp[resolve,hc,invoke,builtin,Fz,Builtin.min_,Builtin.min2,D3 h hx,D3 h hy]
theorem Anf(h:Cj N w0 X0 Y β s a w){c:Call}(ho:o.op=.call c)(hc:c.callee=.builtin .max){K:PV->Option R}(hk:(Av c.args.toList fun x r=>Av r fun y r'=>Aq r' (Axi (Db s.tm x) (Db s.tm y) K))=some r):∃v,K v=some r/\G4 P a w o Y β s v [] []:=by
 obtain⟨x,xs,XI,hk⟩:=Br hk;obtain⟨y,ys,rfl,hk⟩:=Br hk;obtain⟨rfl,hk⟩:=Fg hk;obtain⟨k,n,hx,hk⟩:=Fa hk;obtain⟨m,hy,hk⟩:=G0 hk
 have Fz:c.args = #[x,y]:=by
  have:c.args=([x,y]:List Operand).toArray:=by rw[<-XI]
  exact this
 refine⟨_,hk,Ek ?_⟩;unfold execOp;rw[ho];simp[resolve,hc,invoke,builtin,Fz,Builtin.max_,Builtin.max2,D3 h hx,D3 h hy]
theorem Akn(h:Cj N w0 X0 Y β s a w){op:UnOp}{t:TypeId}{x:Operand}(ho:o.op=.unOp op t x){K:PV->Option R}(hk:unK op (Db s.tm x) K=some r):
  ∃v,K v=some r/\G4 P a w o Y β s v [] []:=by
 unfold unK at hk;split at hk
 ·obtain⟨b,hb,hk⟩:=Fq hk;refine⟨_,hk,Ek ?_⟩;unfold execOp;rw[ho];simp[Op.unary,D3 h hb]
 ·obtain⟨k,n,hb,hk⟩:=Fa hk;refine⟨_,hk,Ek ?_⟩;unfold execOp;rw[ho];simp[Op.unary,Op.intArith,D3 h hb]
 ·obtain⟨k,n,hb,hk⟩:=Fa hk;refine⟨_,hk,Ek ?_⟩;unfold execOp;rw[ho];simp[Op.unary,Op.intBits,D3 h hb,A7k]
 ·cases hk
theorem Aol{op:BinOp}{k:IntKind}{m n:Int}{t:TypeId}{x y:Operand}{K:PV->Option R}(PI:op ≠ .shl)(TL:op ≠ .shr)(hk:UL op k m n K=some r):
  ∃v,K (.sc v)=some r/\(do eqGuard op t x y (.int k m) (.int k n);binOp op t (.int k m) (.int k n)).run P w=.ok v w:=by
 cases op<;>first
  |exact absurd rfl PI
  |exact absurd rfl TL
  |(obtain⟨hb,hk⟩:=Az hk;have hb:=of_decide_eq_true hb;exact⟨_,hk,by simp[eqGuard,binOp,Op.intDiv,hb]⟩)
  |exact⟨_,hk,by simp[eqGuard,binOp,-BitVec.toNat_and,-BitVec.toNat_or,-BitVec.toNat_xor,-gt_iff_lt,-ge_iff_le]<;>rfl⟩
theorem An0{op:BinOp}{m n:ByteArray}{t:TypeId}{x y:Operand}{K:PV->Option R}(hk:WU op m n K=some r):
  ∃v,K (.sc v)=some r/\(do eqGuard op t x y (.string m) (.string n);binOp op t (.string m) (.string n)).run P w=.ok v w:=by
 cases op<;>first
  |cases hk
  |(obtain⟨hb,hk⟩:=Az hk;have hb:=of_decide_eq_true hb;exact⟨_,hk,by
    have J8:¬(((m.size+n.size:Nat):Int)>IntKind.i64.max):=by
     have:IntKind.i64.max=9223372036854775807:=rfl;rw[this];omega
    simp only[eqGuard,binOp,Op.stringOp,A5 J8];rfl⟩)
  |exact⟨_,hk,by simp only[eqGuard,binOp,Op.stringOp,ByteArray.toList_eq];rfl⟩
end
open Go.RowKit
section
variable {R:Type}{r:R}{P:Program}{N:Nat}{w0:World}{X0:Gn}{Y:Nat->Prop}{β β':Bt}{s:St}{a:Act}{w w':World}{o:Oper}{A:Nat->Prop}
theorem WR{t:TypeId}(hu:P.underlying t=some .bool)(x y:Bool):(Op.equal t (.bool x) (.bool y)).run P w=.ok (x==y) w:=by
 have h:∀d,(Op.equalIn (d+1) t (.bool x) (.bool y)).run P w=.ok (x==y) w:=fun d=>by simp[Op.equalIn,run_underlying hu]
 exact h 9999
theorem EJ{t e:TypeId}(hu:P.underlying t=some (.slice e))(x:Option Addr)(n c:Nat):(Op.equal t (.slice x n c) (.slice none 0 0)).run P w=.ok x.isNone w:=by
 have h:∀d,(Op.equalIn (d+1) t (.slice x n c) (.slice none 0 0)).run P w=.ok x.isNone w:=fun d=>by
  cases x<;>simp[Op.equalIn,run_underlying hu]
 exact h 9999
theorem N4{t:TypeId}(d:Nat){v u:Value}(hv:(∃k m n,P.underlying t=some (.int k)/\v=.int k m/\u=.int k n)\/(∃m n,P.underlying t=some .bool/\v=.bool m/\u=.bool n)\/∃m n,P.underlying t=some .string/\v=.string m/\u=.string n){b:Bool}(hb:∀k m n,v=.int k m->u=.int k n->b=(m==n))(J8:∀m n,v=.bool m->u=.bool n->b=(m==n))(Bb9:∀m n,v=.string m->u=.string n->b=(m==n)):(Op.equalIn (d+1) t v u).run P w=.ok b w:=by
 rcases hv with⟨k,m,n,hu,rfl,rfl⟩|⟨m,n,hu,rfl,rfl⟩|⟨m,n,hu,rfl,rfl⟩
 ·rw[hb k m n rfl rfl];simp[Op.equalIn,run_underlying hu]
 ·rw[J8 m n rfl rfl];simp[Op.equalIn,run_underlying hu]
 ·rw[Bb9 m n rfl rfl];simp[Op.equalIn,run_underlying hu]
theorem AK{t:TypeId}{dsc:TypeDesc}(hu:P.underlying t=some dsc)(hd:Dd P t=false){xs:Array Value}{i:Nat}{v:Value}(hv:xs[i]?=some v):(part t xs i).run P w=.ok v w:=by simp only[part,Sem.run_bind,Tx hu,hd,Result.andThen_ok];simp[hv]
theorem Abh(k:IntKind)(n:Int)(K:Int->Option R):Be k (.sc (.int k n)) K=K n:=by simp[Be]
theorem Ag4(d : Nat): ∀ (fs : List Field) (i : Nat) (xs ys : Array Value) (ps qs : Ab) (K : Bool -> Option R), Afe P fs i = true -> Rv (fs.map (fty P)) ps qs K = some r ->
    (∀ (j : Nat) p, ps[j]? = some p -> ∃ v, xs[i + j]? = some v /\ Cx w A β p v) -> (∀ (j : Nat) p, qs[j]? = some p -> ∃ v, ys[i + j]? = some v /\ Cx w A β p v) ->
    ∃ b, K b = some r /\ (forIn fs ((none, ()) : Option Bool × Unit) fun (f : Field) (_ : Option Bool × Unit) =>
            if f.name = "_" then pure (ForInStep.yield ((none, ()) : Option Bool × Unit))
            else do
              let x <- part f.type xs f.offset
              let y <- part f.type ys f.offset
              let e <- Op.equalIn (d + 1) f.type x y
              if e = false then pure (ForInStep.done ((some false, ()) : Option Bool × Unit)) else pure (ForInStep.yield ((none, ()) : Option Bool × Unit)) : Sem (Option Bool × Unit)).run P w = .ok (if b then (none, ()) else (some false, ())) w
  | [], i, xs, ys, ps, qs, K, _, hk, _, _ => by
    cases ps with
    | nil => cases qs with
      | nil => exact⟨true, hk, by simp⟩
      | cons q qs => cases hk
    | cons p ps => cases hk
  | f :: fs, i, xs, ys, ps, qs, K, hfl, hk, hp, hq => by
    simp only[Afe, G8] at hfl
    obtain⟨⟨⟨Xe, Ate⟩, hty⟩, GL⟩ := hfl
    have Xe := Et Xe
    have UZ : f.name ≠ "_" := by simpa using Ate
    cases ps with
    | nil =>
      simp only[Sf] at hk
      cases A3g : fty P f <;> rw[A3g] at hk <;> cases hk
    | cons p ps =>
      cases qs with
      | nil =>
        simp only[Sf] at hk
        cases A3g : fty P f <;> rw[A3g] at hk <;> cases hk
      | cons q qs =>
        obtain⟨v, hv, IZ⟩ := hp 0 p rfl
        obtain⟨u, hu, hqu⟩ := hq 0 q rfl
        rw[JF] at hv hu
        have main : ∃ b0 dsc, P.underlying f.type = some dsc /\ Dd P f.type = false /\ (Op.equalIn (d + 1) f.type v u).run P w = .ok b0 w /\ Rv (fs.map (fty P)) ps qs (fun r => K (b0 && r)) = some r := by
          simp only[Sf] at hk
          unfold fty at hk
          split at hk
          · rename_i k Pt
            obtain⟨m, hpm, E9⟩ := G0 (show Be k p _ = some r from hk)
            obtain⟨n, XA, Hl⟩ := G0 E9
            subst hpm XA
            have Wc : v = .int k m := Bd.val (w := w) (A := A) IZ
            have Od : u = .int k n := Bd.val (w := w) (A := A) hqu
            subst Wc Od
            refine⟨m == n, _, Pt, by simp[Dd, Pt], N4 d (.inl ⟨k, m, n, Pt, rfl, rfl⟩) ?_ ?_ ?_, Hl⟩
            · intro k' m' n' h1 h2; injection h1 with _ h1; injection h2 with _ h2; rw[h1, h2]
            · intro m' n' h1; cases h1
            · intro m' n' h1; cases h1
          · rename_i Pt
            obtain⟨m, hpm, E9⟩ := Fq (show Cg p _ = some r from hk)
            obtain⟨n, XA, Hl⟩ := Fq E9
            subst hpm XA
            have Wc : v = .bool m := Bd.val (w := w) (A := A) IZ
            have Od : u = .bool n := Bd.val (w := w) (A := A) hqu
            subst Wc Od
            refine⟨m == n, _, Pt, by simp[Dd, Pt], N4 d (.inr (.inl ⟨m, n, Pt, rfl, rfl⟩)) ?_ ?_ ?_, Hl⟩
            · intro k' m' n' h1; cases h1
            · intro m' n' h1 h2; injection h1 with h1; injection h2 with h2; rw[h1, h2]
            · intro m' n' h1; cases h1
          · rename_i Pt
            obtain⟨m, hpm, E9⟩ := Fp (show D8 p _ = some r from hk)
            obtain⟨n, XA, Hl⟩ := Fp E9
            subst hpm XA
            have Wc : v = .string m := Bd.val (w := w) (A := A) IZ
            have Od : u = .string n := Bd.val (w := w) (A := A) hqu
            subst Wc Od
            refine⟨m == n, _, Pt, by simp[Dd, Pt], N4 d (.inr (.inr ⟨m, n, Pt, rfl, rfl⟩)) ?_ ?_ ?_, Hl⟩
            · intro k' m' n' h1; cases h1
            · intro m' n' h1; cases h1
            · intro m' n' h1 h2; injection h1 with h1; injection h2 with h2; rw[h1, h2]
          · cases hk
        obtain⟨b0, dsc, Pt, Jl, he, hk⟩ := main
        obtain⟨b, hkb, Eg⟩ := Ag4 d fs (i + 1) xs ys ps qs _ GL hk (fun j p' hj => by have := hp (j + 1) p' hj; rwa [Sb, Nat.add_comm 1 j]) (fun j p' hj => by have := hq (j + 1) p' hj; rwa [Sb, Nat.add_comm 1 j])
        refine⟨b0 && b, hkb, ?_⟩
        have hpx : (part f.type xs f.offset).run P w = .ok v w := AK Pt Jl (by rw[Xe]; exact hv)
        have hpy : (part f.type ys f.offset).run P w = .ok u w := AK Pt Jl (by rw[Xe]; exact hu)
        cases b0
        · simp[List.forIn_cons, UZ, hpx, hpy, he]
        · simp only[Zzm]
          rw[<- Eg]
          simp[List.forIn_cons, UZ, hpx, hpy, he]
theorem QW(d:Nat){t:TypeId}{fs:Array Field}(hu:P.underlying t=some (.struct fs))(Hc:P.stoodInHeld t=false)(hfl:Afe P fs.toList 0=true){xs ys:Ab}{vx vy:List Value}(hvx:B9 (Cx w A β) xs vx)(hvy:B9 (Cx w A β) ys vy){K:Bool->Option R}(hk:Rv (fs.toList.map (fty P)) xs ys K=some r):
  ∃b,K b=some r/\(Op.equalIn (d+2) t (.agg ⟨vx⟩) (.agg ⟨vy⟩)).run P w=.ok b w:=by
 obtain⟨b,hkb,Eg⟩:=Ag4 (P:=P) (w:=w) (A:=A) (β:=β) d fs.toList 0 ⟨vx⟩ ⟨vy⟩ xs ys K hfl hk (fun j p hj=>by
   obtain⟨v,hv,hc⟩:=hvx.get hj;exact⟨v,by simpa using hv,hc⟩) (fun j p hj=>by
   obtain⟨v,hv,hc⟩:=hvy.get hj;exact⟨v,by simpa using hv,hc⟩)
 refine⟨b,hkb,?_⟩;rw[Array.forIn_toList] at Eg;rw[Op.equalIn];simp[run_underlying hu,Hc];rw[Eg];cases b<;>simp
theorem JM:∀(ts1:List CT){ts2:List CT}{ps qs:Ab}{K:Bool->Option R},Rv (ts1++ts2) ps qs K=some r ->
  Rv ts1 (ps.take ts1.length) (qs.take ts1.length) (fun b=>Rv ts2 (ps.drop ts1.length) (qs.drop ts1.length) fun r'=>K (b&&r'))=some r
 |[],ts2,ps,qs,K,h=>by
  simp only[Vx,List.take_zero,Es,Rv,Zzm];exact h
 |t::ts1,ts2,ps,qs,K,h=>by
  rw[Zzp] at h;cases ps with
  |nil=>cases t<;>cases h
  |cons p ps=>
   cases qs with
   |nil=>cases t<;>cases h
   |cons q qs=>
    simp only[G7,List.take_succ_cons,List.drop_succ_cons];cases t with
    |int k=>
     obtain⟨m,hpm,h1⟩:=G0 (show Be k p _=some r from h);obtain⟨n,XA,h2⟩:=G0 h1;subst hpm XA;have:=JM ts1 h2;simp only[<-Bool.and_assoc] at this;exact (Abh _ _ _).trans ((Abh _ _ _).trans this)
    |bool=>
     obtain⟨m,hpm,h1⟩:=Fq (show Cg p _=some r from h);obtain⟨n,XA,h2⟩:=Fq h1;subst hpm XA;have:=JM ts1 h2;simp only[<-Bool.and_assoc] at this;exact this
    |str=>
     obtain⟨m,hpm,h1⟩:=Fp (show D8 p _=some r from h);obtain⟨n,XA,h2⟩:=Fp h1;subst hpm XA;have:=JM ts1 h2;simp only[<-Bool.and_assoc] at this;exact this
    |sl es=>cases h
    |any=>cases h
theorem Aex:∀(ts:List CT){ps qs:Ab}{K:Bool->Option R},Rv ts ps qs K=some r->ps.length=ts.length/\qs.length=ts.length
 |[],ps,qs,K,h=>by
  cases ps with
  |nil=>cases qs with
   |nil=>exact⟨rfl,rfl⟩
   |cons q qs=>cases h
  |cons p ps=>cases h
 |t::ts,ps,qs,K,h=>by
  cases ps with
  |nil=>cases t<;>cases h
  |cons p ps=>
   cases qs with
   |nil=>cases t<;>cases h
   |cons q qs=>
    have go:∃K',Rv ts ps qs K'=some r:=by
     cases t with
     |int k=>
      obtain⟨m,hpm,h1⟩:=G0 (show Be k p _=some r from h);obtain⟨n,XA,h2⟩:=G0 h1;exact⟨_,h2⟩
     |bool=>
      obtain⟨m,hpm,h1⟩:=Fq (show Cg p _=some r from h);obtain⟨n,XA,h2⟩:=Fq h1;exact⟨_,h2⟩
     |str=>
      obtain⟨m,hpm,h1⟩:=Fp (show D8 p _=some r from h);obtain⟨n,XA,h2⟩:=Fp h1;exact⟨_,h2⟩
     |sl es=>cases h
     |any=>cases h
    obtain⟨K',h'⟩:=go;have:=Aex ts h';exact⟨by simp[this.1],by simp[this.2]⟩
theorem Agj{t:TypeId}{dsc:TypeDesc}(hu:P.underlying t=some dsc)(hd:Dd P t=true)(hi:(P.info? t).isSome=true)(xs:Array Value)(i:Nat):(part t xs i).run P w=.ok (.agg (xs.extract i (i+Bw P t))) w:=by simp only[part,Sem.run_bind,Tx hu,hd,Result.andThen_ok,if_true,Eh hi];rfl
theorem Aa6{xs:Array Value}{i n:Nat}{ps:Ab}(hn:n<=ps.length)(hp:∀(j:Nat) p,ps[j]?=some p->∃v,xs[i+j]?=some v/\Cx w A β p v):B9 (Cx w A β) (ps.take n) (xs.extract i (i+n)).toList:=by
 rcases Nat.eq_zero_or_pos n with h0|h0
 ·subst h0;simp[B9]
 have hl:n-1<ps.length:=by omega
 obtain⟨v,hv,_⟩:=hp (n-1) _ (List.getElem?_eq_getElem hl);have Kz:=(Array.getElem?_eq_some_iff.1 hv).1;refine B9.of_at (by simp;omega) fun j a b ha hb=>?_
 rw[List.getElem?_take] at ha;split at ha
 ·rename_i hj;obtain⟨v,hv,hc⟩:=hp j a ha;rw[Array.getElem?_toList,Array.getElem?_extract] at hb;split at hb
  ·rw[hv] at hb;cases hb;exact hc
  ·cases hb
 ·cases ha
theorem PE{f:Field}{gs:Array Field}(hu:P.underlying f.type=some (.struct gs)):Ahm P f=gs.toList.map (fty P):=by unfold Ahm;rw[hu]
theorem Aja{f:Field}(h:∀gs,P.underlying f.type≠some (.struct gs)):Ahm P f=[fty P f]:=by
 unfold Ahm;split
 ·rename_i gs hu;exact absurd hu (h gs)
 ·rfl
theorem Ak9(d : Nat): ∀ (fs : List Field) (i : Nat) (xs ys : Array Value) (ps qs : Ab) (K : Bool -> Option R), Vw P fs i = true -> Rv (GD P fs) ps qs K = some r ->
    (∀ (j : Nat) p, ps[j]? = some p -> ∃ v, xs[i + j]? = some v /\ Cx w A β p v) -> (∀ (j : Nat) p, qs[j]? = some p -> ∃ v, ys[i + j]? = some v /\ Cx w A β p v) ->
    ∃ b, K b = some r /\ (forIn fs ((none, ()) : Option Bool × Unit) fun (f : Field) (_ : Option Bool × Unit) =>
            if f.name = "_" then pure (ForInStep.yield ((none, ()) : Option Bool × Unit))
            else do
              let x <- part f.type xs f.offset
              let y <- part f.type ys f.offset
              let e <- Op.equalIn (d + 2) f.type x y
              if e = false then pure (ForInStep.done ((some false, ()) : Option Bool × Unit)) else pure (ForInStep.yield ((none, ()) : Option Bool × Unit)) : Sem (Option Bool × Unit)).run P w = .ok (if b then (none, ()) else (some false, ())) w
  | [], i, xs, ys, ps, qs, K, _, hk, _, _ => by
    cases ps with
    | nil => cases qs with
      | nil => exact⟨true, hk, by simp⟩
      | cons q qs => cases hk
    | cons p ps => cases hk
  | f :: fs, i, xs, ys, ps, qs, K, hfl, hk, hp, hq => by
    simp only[Vw, G8] at hfl
    obtain⟨⟨Xe, Ate⟩, hty⟩ := hfl
    have Xe := Et Xe
    have UZ : f.name ≠ "_" := by simpa using Ate
    have main : ∃ b0 v u n, (part f.type xs f.offset).run P w = .ok v w /\ (part f.type ys f.offset).run P w = .ok u w /\ (Op.equalIn (d + 2) f.type v u).run P w = .ok b0 w /\ Vw P fs (i + n) = true /\ Rv (GD P fs) (ps.drop n) (qs.drop n) (fun r' => K (b0 && r')) = some r := by
      have hk := JM (Ahm P f) (show Rv (Ahm P f ++ GD P fs) ps qs K = some r from hk)
      have Hr := Aex _ hk
      rw[List.length_take, List.length_take] at Hr
      have plain : (∀ gs, P.underlying f.type ≠ some (.struct gs)) -> Vw P fs (i + 1) = true -> (match P.underlying f.type with | some (.int _) => true | some .bool => true | some .string => true | _ => false) = true ->
          ∃ b0 v u n, (part f.type xs f.offset).run P w = .ok v w /\ (part f.type ys f.offset).run P w = .ok u w /\ (Op.equalIn (d + 2) f.type v u).run P w = .ok b0 w /\ Vw P fs (i + n) = true /\ Rv (GD P fs) (ps.drop n) (qs.drop n) (fun r' => K (b0 && r')) = some r := by
        intro hs A3r RE
        rw[Aja hs] at hk Hr
        simp only[List.length_singleton] at hk Hr
        obtain⟨p, ps, rfl⟩ : ∃ p ps', ps = p :: ps' := by
          cases ps with
          | nil => simp at Hr
          | cons p ps => exact⟨p, ps, rfl⟩
        obtain⟨q, qs, rfl⟩ : ∃ q qs', qs = q :: qs' := by
          cases qs with
          | nil => simp at Hr
          | cons q qs => exact⟨q, qs, rfl⟩
        obtain⟨v, hv, IZ⟩ := hp 0 p rfl
        obtain⟨u, hu, hqu⟩ := hq 0 q rfl
        rw[JF] at hv hu
        simp only[List.take_succ_cons, List.take_zero, List.drop_succ_cons, Es] at hk ⊢
        have one : ∃ b0 dsc, P.underlying f.type = some dsc /\ Dd P f.type = false /\ (Op.equalIn (d + 2) f.type v u).run P w = .ok b0 w /\ Rv (GD P fs) ps qs (fun r' => K (b0 && r')) = some r := by
          unfold fty at hk
          split at hk
          · rename_i k Pt
            obtain⟨m, hpm, E9⟩ := G0 (show Be k p _ = some r from hk)
            obtain⟨n, XA, Hl⟩ := G0 E9
            subst hpm XA
            have Wc : v = .int k m := Bd.val (w := w) (A := A) IZ
            have Od : u = .int k n := Bd.val (w := w) (A := A) hqu
            subst Wc Od
            have e : ∀ b : Bool, (b && true) = b := Bool.and_true
            simp only[Rv, e] at Hl
            refine⟨m == n, _, Pt, by simp[Dd, Pt], N4 (d + 1) (.inl ⟨k, m, n, Pt, rfl, rfl⟩) ?_ ?_ ?_, Hl⟩
            · intro k' m' n' h1 h2; injection h1 with _ h1; injection h2 with _ h2; rw[h1, h2]
            · intro m' n' h1; cases h1
            · intro m' n' h1; cases h1
          · rename_i Pt
            obtain⟨m, hpm, E9⟩ := Fq (show Cg p _ = some r from hk)
            obtain⟨n, XA, Hl⟩ := Fq E9
            subst hpm XA
            have Wc : v = .bool m := Bd.val (w := w) (A := A) IZ
            have Od : u = .bool n := Bd.val (w := w) (A := A) hqu
            subst Wc Od
            have e : ∀ b : Bool, (b && true) = b := Bool.and_true
            simp only[Rv, e] at Hl
            refine⟨m == n, _, Pt, by simp[Dd, Pt], N4 (d + 1) (.inr (.inl ⟨m, n, Pt, rfl, rfl⟩)) ?_ ?_ ?_, Hl⟩
            · intro k' m' n' h1; cases h1
            · intro m' n' h1 h2; injection h1 with h1; injection h2 with h2; rw[h1, h2]
            · intro m' n' h1; cases h1
          · rename_i Pt
            obtain⟨m, hpm, E9⟩ := Fp (show D8 p _ = some r from hk)
            obtain⟨n, XA, Hl⟩ := Fp E9
            subst hpm XA
            have Wc : v = .string m := Bd.val (w := w) (A := A) IZ
            have Od : u = .string n := Bd.val (w := w) (A := A) hqu
            subst Wc Od
            have e : ∀ b : Bool, (b && true) = b := Bool.and_true
            simp only[Rv, e] at Hl
            refine⟨m == n, _, Pt, by simp[Dd, Pt], N4 (d + 1) (.inr (.inr ⟨m, n, Pt, rfl, rfl⟩)) ?_ ?_ ?_, Hl⟩
            · intro k' m' n' h1; cases h1
            · intro m' n' h1; cases h1
            · intro m' n' h1 h2; injection h1 with h1; injection h2 with h2; rw[h1, h2]
          · cases hk
        obtain⟨b0, dsc, Pt, Jl, he, hk⟩ := one
        exact⟨b0, v, u, 1, AK Pt Jl (by rw[Xe]; exact hv), AK Pt Jl (by rw[Xe]; exact hu), he, A3r, by simpa using hk⟩
      split at hty
      · rename_i k Pt
        exact plain (fun gs e => by rw[Pt] at e; cases e) hty (by rw[Pt])
      · rename_i Pt
        exact plain (fun gs e => by rw[Pt] at e; cases e) hty (by rw[Pt])
      · rename_i Pt
        exact plain (fun gs e => by rw[Pt] at e; cases e) hty (by rw[Pt])
      · rename_i gs Pt
        simp only[G8, Bool.not_eq_true'] at hty
        obtain⟨⟨⟨⟨hfp, Hc⟩, hi⟩, Kz⟩, GL⟩ := hty
        have Kz := Et Kz
        have BW : (Ahm P f).length = gs.size := by rw[PE Pt, List.length_map, Array.length_toList]
        rw[BW] at hk Hr
        rw[PE Pt] at hk
        have hx := Aa6 (n := gs.size) (by omega) hp
        have hy := Aa6 (n := gs.size) (by omega) hq
        obtain⟨b0, hkb, he⟩ := QW d Pt Hc hfp hx hy hk
        have ha : Dd P f.type = true := by simp[Dd, Pt]
        exact⟨b0, _, _, gs.size, by rw[Agj Pt ha hi, Xe, Kz], by rw[Agj Pt ha hi, Xe, Kz], he, GL, hkb⟩
      · cases hty
    obtain⟨b0, v, u, n, hpx, hpy, he, A3r, hk⟩ := main
    obtain⟨b, hkb, Eg⟩ := Ak9 d fs (i + n) xs ys (ps.drop n) (qs.drop n) _ A3r hk (fun j p' hj => by rw[List.getElem?_drop] at hj; have := hp (n + j) p' hj; rwa [<- Sb] at this) (fun j p' hj => by rw[List.getElem?_drop] at hj; have := hq (n + j) p' hj; rwa [<- Sb] at this)
    refine⟨b0 && b, hkb, ?_⟩
    cases b0
    · simp[List.forIn_cons, UZ, hpx, hpy, he]
    · simp only[Zzm]
      rw[<- Eg]
      simp[List.forIn_cons, UZ, hpx, hpy, he]
theorem UQ(d:Nat){t:TypeId}{fs:Array Field}(hu:P.underlying t=some (.struct fs))(Hc:P.stoodInHeld t=false)(hfl:Vw P fs.toList 0=true){xs ys:Ab}{vx vy:List Value}(hvx:B9 (Cx w A β) xs vx)(hvy:B9 (Cx w A β) ys vy){K:Bool->Option R}(hk:Rv (GD P fs.toList) xs ys K=some r):
  ∃b,K b=some r/\(Op.equalIn (d+3) t (.agg ⟨vx⟩) (.agg ⟨vy⟩)).run P w=.ok b w:=by
 obtain⟨b,hkb,Eg⟩:=Ak9 (P:=P) (w:=w) (A:=A) (β:=β) d fs.toList 0 ⟨vx⟩ ⟨vy⟩ xs ys K hfl hk (fun j p hj=>by
   obtain⟨v,hv,hc⟩:=hvx.get hj;exact⟨v,by simpa using hv,hc⟩) (fun j p hj=>by
   obtain⟨v,hv,hc⟩:=hvy.get hj;exact⟨v,by simpa using hv,hc⟩)
 refine⟨b,hkb,?_⟩;rw[Array.forIn_toList] at Eg;rw[Op.equalIn];simp[run_underlying hu,Hc];rw[Eg];cases b<;>simp
theorem ZV(h:Cj N w0 X0 Y β s a w){t:TypeId}{fs:Array Field}{x y:Operand}{op:BinOp}(hop:op=.eql\/op=.neq)(hu:P.underlying t=some (.struct fs))(hfl:Adq P t fs=true){xs ys:Ab}(hx:Db s.tm x=.agg xs)(hy:Db s.tm y=.agg ys){K:Bool->Option R}(hk:Rv (GD P fs.toList) xs ys K=some r):
  ∃b,K b=some r/\(do eqGuard op t x y (a.eval x) (a.eval y);binOp op t (a.eval x) (a.eval y)).run P w=.ok (.bool (if op=.eql then b else !b)) w:=by
 have hxv:=Er h x;have hyv:=Er h y;rw[hx] at hxv;rw[hy] at hyv;obtain⟨vx,Ez,hvx⟩:=hxv;obtain⟨vy,hay,hvy⟩:=hyv;simp only[Adq,G8,Bool.not_eq_true'] at hfl;obtain⟨⟨hfl,Hc⟩,heg⟩:=hfl;obtain⟨b,hkb,heq⟩:=UQ 9997 hu Hc hfl hvx hvy hk;have heq:(Op.equal t (.agg ⟨vx⟩) (.agg ⟨vy⟩)).run P w=.ok b w:=heq;refine⟨b,hkb,?_⟩;rw[Ez,hay];rcases hop with rfl|rfl
 ·simp[eqGuard,binOp,heq,heg]
 ·simp[eqGuard,binOp,heq,heg]
theorem Aev(h:Cj N w0 X0 Y β s a w){op:BinOp}{t ty:TypeId}{x y:Operand}(ho:o.op=.binOp op t x y ty){K:PV->Option R}(hk:EM P op t (Db s.tm x) (Db s.tm y) K=some r):∃v,K v=some r/\G4 P a w o Y β s v [] []:=by
 have Eg:∀v,(do eqGuard op t x y (a.eval x) (a.eval y);binOp op t (a.eval x) (a.eval y)).run P w=.ok v w->(execOp a.eval o).run P w=.ok (.value v) w:=by
  intro v hv;unfold execOp;rw[ho];simp only[Sem.run_bind] at hv ⊢;rw[hv];rfl
 unfold EM at hk;split at hk
 ·rename_i fs hu;split at hk
  ·obtain⟨hfl,hk⟩:=Az hk;obtain⟨xs,hx,hk⟩:=Le hk;obtain⟨ys,hy,hk⟩:=Le hk;obtain⟨b,hk,hr⟩:=ZV h (.inl rfl) hu hfl hx hy hk;exact⟨_,hk,Ek (Eg _ (by rw[hr];rfl))⟩
  ·obtain⟨hfl,hk⟩:=Az hk;obtain⟨xs,hx,hk⟩:=Le hk;obtain⟨ys,hy,hk⟩:=Le hk;obtain⟨b,hk,hr⟩:=ZV h (.inr rfl) hu hfl hx hy hk;exact⟨_,hk,Ek (Eg _ (by rw[hr];rfl))⟩
  ·cases hk
 ·unfold Asj at hk;split at hk
  ·rename_i k hu;split at hk
   ·obtain⟨m,hx,hk⟩:=G0 hk;obtain⟨k2,n,hy,hk⟩:=Fa hk;obtain⟨hb,hk⟩:=Az hk;have hb:=of_decide_eq_true hb;refine⟨_,hk,Ek (Eg _ ?_)⟩;have:¬n<0:=by omega
    simp[eqGuard,binOp,Op.shift,D3 h hx,D3 h hy,this]
   ·obtain⟨m,hx,hk⟩:=G0 hk;obtain⟨k2,n,hy,hk⟩:=Fa hk;obtain⟨hb,hk⟩:=Az hk;have hb:=of_decide_eq_true hb;refine⟨_,hk,Ek (Eg _ ?_)⟩;have:¬n<0:=by omega
    simp[eqGuard,binOp,Op.shift,D3 h hx,D3 h hy,this]
   ·rename_i PI TL;obtain⟨m,hx,hk⟩:=G0 hk;obtain⟨n,hy,hk⟩:=G0 hk;obtain⟨v,hk,hr⟩:=Aol (P:=P) (w:=w) (t:=t) (x:=x) (y:=y) PI TL hk;exact⟨_,hk,Ek (Eg _ (by rw[D3 h hx,D3 h hy];exact hr))⟩
  ·rename_i hu;obtain⟨m,hx,hk⟩:=Fp hk;obtain⟨n,hy,hk⟩:=Fp hk;obtain⟨v,hk,hr⟩:=An0 (P:=P) (w:=w) (t:=t) (x:=x) (y:=y) hk;exact⟨_,hk,Ek (Eg _ (by rw[D3 h hx,D3 h hy];exact hr))⟩
  ·rename_i hu;split at hk
   ·obtain⟨m,hx,hk⟩:=Fq hk;obtain⟨n,hy,hk⟩:=Fq hk;refine⟨_,hk,Ek (Eg _ ?_)⟩;simp[eqGuard,binOp,D3 h hx,D3 h hy,WR hu]
   ·obtain⟨m,hx,hk⟩:=Fq hk;obtain⟨n,hy,hk⟩:=Fq hk;refine⟨_,hk,Ek (Eg _ ?_)⟩;simp[eqGuard,binOp,D3 h hx,D3 h hy,WR hu]
   ·cases hk
  ·rename_i e hu;have hx:=Er h x
   have nilQ:∀{e:Bool} {K':PV->Option R},VC e (Db s.tm x) K'=some r->∃q ad n c,K' q=some r/\a.eval x=.slice ad n c/\(q=.sc (.bool (if ad.isNone then e else !e))\/q=.ub):=by
    intro e K' hq;unfold VC at hq;split at hq
    ·rename_i e';exact⟨_,none,0,0,hq,D3 h e',.inl rfl⟩
    ·rename_i z es n c e';rcases slice_form (.inl e') hx with⟨Ez,rfl,_⟩|⟨ad,cap,Ez,rfl,_⟩|⟨ad,cap,Ez,rfl,rfl,_⟩
     ·rcases Tp hq with⟨_,hq⟩|⟨_,hq⟩
      ·exact⟨_,none,0,0,hq,Ez,.inl rfl⟩
      ·rcases Tp hq with⟨hb,_⟩|⟨_,hq⟩
       ·exact absurd (of_decide_eq_true hb) (by omega)
       ·exact⟨_,none,0,0,hq,Ez,.inr rfl⟩
     ·rcases Tp hq with⟨hz,_⟩|⟨_,hq⟩
      ·cases hz
      ·rcases Tp hq with⟨_,hq⟩|⟨_,hq⟩
       ·exact⟨_,some ad,n,cap,hq,Ez,.inl rfl⟩
       ·exact⟨_,some ad,n,cap,hq,Ez,.inr rfl⟩
     ·rcases Tp hq with⟨hz,_⟩|⟨_,hq⟩
      ·cases hz
      ·rcases Tp hq with⟨hb,_⟩|⟨_,hq⟩
       ·exact absurd (of_decide_eq_true hb) (by omega)
       ·exact⟨_,some ad,0,cap,hq,Ez,.inr rfl⟩
    ·rename_i id es off n e';rw[e'] at hx;rcases hx with⟨_,_,rfl,ad,Ez⟩|⟨b,ob,y',cap,_,Ez,_⟩
     ·rcases Tp hq with⟨hb,_⟩|⟨_,hq⟩
      ·exact absurd (of_decide_eq_true hb) (by omega)
      ·exact⟨_,ad,0,0,hq,Ez,.inr rfl⟩
     ·rcases Tp hq with⟨_,hq⟩|⟨_,hq⟩
      ·exact⟨_,_,n,cap,hq,Ez,.inl rfl⟩
      ·exact⟨_,_,n,cap,hq,Ez,.inr rfl⟩
    ·cases hq
   split at hk
   ·rename_i hy;obtain⟨q,ad,n,c,hk,Ez,hb⟩:=nilQ hk;rcases hb with rfl|rfl
    ·refine⟨_,hk,Ek (Eg _ ?_)⟩;cases ad<;>simp[eqGuard,binOp,Ez,D3 h hy,EJ hu]
    ·refine⟨_,hk,De (val:=.bool ad.isNone) (Eg _ ?_) (Bd.ub _) (by intro i hi;cases hi)⟩
     simp[eqGuard,binOp,Ez,D3 h hy,EJ hu]
   ·rename_i hy;obtain⟨q,ad,n,c,hk,Ez,hb⟩:=nilQ hk;rcases hb with rfl|rfl
    ·refine⟨_,hk,Ek (Eg _ ?_)⟩;cases ad<;>simp[eqGuard,binOp,Ez,D3 h hy,EJ hu]
    ·refine⟨_,hk,De (val:=.bool !ad.isNone) (Eg _ ?_) (Bd.ub _) (by intro i hi;cases hi)⟩
     simp[eqGuard,binOp,Ez,D3 h hy,EJ hu]
   ·cases hk
  ·cases hk
end
open Go.RowKit
section
variable {R:Type}{r:R}{P:Program}{N:Nat}{w0:World}{X0:Gn}{Y:Nat->Prop}{β β':Bt}{s:St}{a:Act}{w w':World}{o:Oper}{A:Nat->Prop}
theorem DZ:∀{c:Ab}{l:List UInt8},bytesOf c=some l->∃ns:Ca,c=ns.map (fun n=>.sc (.int .u8 n))/\l=ns.map fun n=>n.toNat.toUInt8
 |[],l,h=>⟨[],rfl,by simp[bytesOf] at h;subst h;rfl⟩
 |p::c,l,h=>by
  unfold bytesOf at h;split at h
  ·rename_i e;cases e
  ·rename_i n r e;cases e;cases hr:bytesOf c with
   |none=>rw[hr] at h;cases h
   |some l'=>
    rw[hr] at h;simp at h;obtain⟨ns,rfl,rfl⟩:=DZ hr;exact⟨n::ns,rfl,h.symm⟩
  ·cases h
theorem BE:∀(ns:Ca)(b:ByteArray),ns.foldl (fun r n=>r.push (UInt8.ofNat n.toNat)) b=⟨b.data++(ns.map fun n=>n.toNat.toUInt8).toArray⟩
 |[],b=>by simp
 |n::ns,b=>by
  simp only[List.foldl_cons];rw[BE ns];simp[ByteArray.push]
theorem Af0(h:Cj N w0 X0 Y β s a w){es:Nat}{x:Operand}{K:Nat->Ab->Option R}(hk:Ai0 (Pw s.hp) es (Db s.tm x) K=some r):
  ∃n c,K n c=some r/\(((∃ad,a.eval x=.slice ad 0 0)/\n=0/\c=[])\/∃ad cap,a.eval x=.slice (some ad) n cap/\n<=cap/\(c=[]\/ad.block<w.heap.size)/\YO w (D2 s.hp β Y) ad c):=by
 have hx:=Er h x;have XF:=Hz h x;unfold Ai0 at hk;split at hk
 ·rename_i id es' off n e;rw[e] at hx XF;cases hb:Nat.beq es' es
  ·rw[hb] at hk;cases hk
  ·rw[hb] at hk;obtain⟨c,hc,hk⟩:=Ed (show F3 _ _=some r from hk);obtain⟨hl,hk⟩:=Az hk;have hl:=of_decide_eq_true hl;obtain⟨f,Am9⟩:=Acc hc;refine⟨_,_,hk,?_⟩;rcases hx with⟨_,rfl,rfl,ad,Ez⟩|⟨b,ob,y,cap,hβ,Ez,hy,hn,_,Cq⟩
   ·exact .inl ⟨⟨ad,Ez⟩,rfl,by simp⟩
   ·refine .inr ⟨_,cap,Ez,hn,.inr Cq,fun j p hj=>?_⟩
    have Ayp:0<n*es:=by
     rcases Nat.eq_zero_or_pos (n*es) with h0|h0
     ·rw[h0] at hj;simp at hj
     ·exact h0
    have SE:n≠0:=by rintro rfl;simp at Ayp
    have hy:y=ob+off:=by rcases hy with hy|⟨h0,_⟩<;>omega
    subst hy;rw[List.getElem?_take] at hj;split at hj
    ·rw[List.getElem?_drop] at hj;rcases h.box id _ Am9 with⟨h1,_⟩|⟨b',o',h1,h2,_⟩
     ·rw[hβ] at h1;cases h1
     ·rw[hβ] at h1;simp at h1;obtain⟨rfl,rfl⟩:=h1
      obtain⟨v,hv,h3,ht⟩:=h2 (off+j) p hj;rw[Fy] at hv;exact⟨v,by rw[Fy,Sb];exact hv,h3,ht⟩
    ·cases hj
 ·obtain⟨z,n,c,hk,hp⟩:=Iy hk;refine⟨n,c,hk,?_⟩;rcases slice_form hp hx with h1|⟨ad,cap,Ez,_,hn,h1,h2,_,h4⟩|⟨ad,cap,Ez,_,rfl,rfl⟩
  ·exact .inl ⟨⟨none,h1.1⟩,h1.2⟩
  ·exact .inr ⟨ad,cap,Ez,hn,.inr h2,h4⟩
  ·exact .inr ⟨ad,cap,Ez,Nat.zero_le _,.inl rfl,fun j c hj=>by simp at hj⟩
theorem Am8(b:ByteArray)(j:Nat)(p:PV)(h:(El b)[j]?=some p):∃x,b.data[j]?=some x/\p=.sc (.int .u8 x.toNat):=by
 unfold El at h;rw[List.getElem?_map] at h;cases hx:b.data.toList[j]? with
 |none=>rw[hx] at h;cases h
 |some x=>
  rw[hx] at h;simp at h;exact⟨x,by simpa using hx,h.symm⟩
theorem Aig(h:Cj N w0 X0 Y β s a w){src dst:TypeId}{x:Operand}(ho:o.op=.convert src dst x){d:Nat}{K:PV->List (Nat × Cb)->Option R}(hk:TB P (Pw s.hp) d src dst (Db s.tm x) K=some r):∃v nw,K v nw=some r/\G4 P a w o Y β s v [] nw:=by
 have Eg:∀v w',(convert src dst (a.eval x)).run P w=.ok v w'->(execOp a.eval o).run P w=.ok (.value v) w':=by
  intro v w' hv;unfold execOp;rw[ho];simp[hv]
 unfold TB at hk;split at hk
 ·rename_i k hu;obtain⟨hs,hk⟩:=Az hk;obtain⟨k',n,hx,hk⟩:=Fa hk;exact⟨_,_,hk,Ek (Eg _ _ (by rw[D3 h hx];obtain⟨ds,hds⟩:=Option.isSome_iff_exists.1 hs;cases ds<;>simp[convert,run_underlying hds,run_underlying hu,Conv.intToInt]))⟩
 ·rename_i hu;split at hk
  ·rename_i hs;obtain⟨b,hx,hk⟩:=Fp hk;exact⟨_,_,hk,Ek (Eg _ _ (by rw[D3 h hx];simp[convert,run_underlying hs,run_underlying hu]))⟩
  ·rename_i e hs;split at hk
   ·rename_i he;obtain⟨n,c,hk,hc⟩:=Af0 h hk;obtain⟨hl,hk⟩:=Az hk;have hl:=of_decide_eq_true hl;obtain⟨l,hb,hk⟩:=Ed hk;obtain⟨ns,rfl,rfl⟩:=DZ hb;refine⟨_,_,hk,Ek (Eg _ _ ?_)⟩;rcases hc with⟨⟨ad,Ez⟩,rfl,hn⟩|⟨ad,cap,Ez,_,_,hrd⟩
    ·have:ns=[]:=by simpa using hn
     subst this;rw[Ez,run_convert_bytes_string w src dst e ad 0 0 hs he hu];cases ad<;>rfl
    ·rw[Ez,run_convert_bytes_string w src dst e _ _ _ hs he hu]
     have hld:(loadCells ad n).run P w=.ok (ns.map (Value.int .u8)).toArray w:=by
      have:=run_loadCells_list (P:=P) w ad (ns.map (Value.int .u8)) (fun j v hj=>by
       rw[List.getElem?_map] at hj;cases hn:ns[j]? with
       |none=>rw[hn] at hj;cases hj
       |some m=>
        rw[hn] at hj;simp at hj;subst hj;obtain⟨v,hv,_,ht⟩:=hrd j (.sc (.int .u8 m)) (by rw[List.getElem?_map,hn];rfl)
        rw[ht.val] at hv;exact hv)
      simp only[List.length_map] at this hl;rw[hl] at this;exact this
     rw[run_bytesToString w ad n cap ns hld,BE];simp
   ·cases hk
  ·cases hk
 ·rename_i e hu;split at hk
  ·rename_i he hs;obtain⟨b,hx,hk⟩:=Fp hk;obtain⟨Kz,hk⟩:=Az hk;have hr:=run_bytes_of_string (P:=P) w src dst e b hs hu he;rw[<-D3 h hx] at hr
   have RH:b.size<=grownCap w b.size 0 e:=by
    unfold grownCap;simp[Question.cut]
   have Ago:(bytesRow b (grownCap w b.size 0 e)).size=grownCap w b.size 0 e:=by
    simp only[bytesRow,Array.size_append,Array.size_map,Array.size_replicate];have:b.data.size=b.size:=rfl;omega
   refine⟨_,_,hk,X7 (c:=bytesRow b (grownCap w b.size 0 e)) (e:=e) (by simp) (Eg _ _ hr) ?_ (fun j p hj=>?_) (.inr ⟨1,b.size,grownCap w b.size 0 e,rfl,rfl,RH,by rw[Ago];omega⟩)⟩
   ·exact⟨rfl,rfl,rfl,fun i hi=>Below.heap_alloc w.drew _ i hi,by show (w.heap.push _).size=_;simp,_,by show (w.heap.push _)[w.heap.size]?=_;simp;rfl,.inr (C9 _)⟩
   ·obtain⟨y,hy,rfl⟩:=Am8 b j p hj;refine⟨.int .u8 y.toNat,?_,rfl,Bd.sc _⟩
    have Cq:j<b.data.size:=by
     rcases Mi j b.data.size with h|h
     ·exact h
     ·rw[Array.getElem?_eq_none h] at hy;cases hy
    simp only[bytesRow];rw[Array.getElem?_append_left (by simpa using Cq),Array.getElem?_map,hy];rfl
  ·cases hk
 ·cases hk
end
open Go.RowKit
section
variable {R:Type}{r:R}{P:Program}{N:Nat}{w0:World}{X0:Gn}{Y:Nat->Prop}{β β':Bt}{s:St}{a:Act}{w w':World}{o:Oper}{A:Nat->Prop}
theorem JI:∀{n:Nat}{l:Ab}{j:Nat}{c:PV},(Yg n l)[j]?=some c->j<n*l.length/\l[j % l.length]?=some c
 |0,l,j,c,h=>by simp[Yg] at h
 |n+1,l,j,c,h=>by
  have e:Yg (n+1) l=l++Yg n l:=by simp[Yg,List.replicate_succ]
  rw[e] at h;by_cases hj:j<l.length
  ·rw[List.getElem?_append_left hj] at h;refine⟨by rw[Nat.add_mul];omega,?_⟩
   rw[Nat.mod_eq_of_lt hj];exact h
  ·rw[List.getElem?_append_right (by omega)] at h;obtain⟨h1,h2⟩:=JI h;refine⟨by rw[Nat.add_mul];omega,?_⟩
   rw[Nat.mod_eq_sub_mod (by omega)];exact h2
theorem Aeu(n:Nat)(l:Ab):(Yg n l).length=n*l.length:=by
 induction n with
 |zero=>simp[Yg]
 |succ n ih=>
  have e:Yg (n+1) l=l++Yg n l:=by simp[Yg,List.replicate_succ]
  rw[e,Fw,ih,Nat.add_mul];omega
theorem Ahb{z:Array Value}{n j:Nat}(hj:j<n){v:Value}(hv:z[j % z.size]?=some v):(madeCells z n)[j]?=some v:=by unfold madeCells;rw[Array.getElem?_map,Array.getElem?_range,Bq hj];simp only[Option.map_some];rw[getElem!_def,hv]
theorem Ail(h:Cj N w0 X0 Y β s a w){t:TypeId}{x y:Operand}(ho:o.op=.makeSlice t x y){d:Nat}{K:PV->Cc->List (Nat × Cb)->Option R}(hk:(match P.underlying t with
   |some (.slice e)=>Fk (Db s.tm x) fun _ n=>Fk (Db s.tm y) fun _ m=>
     As (decide (0<=n)&&decide (n<=m)&&decide (m*((P.info? e).map (·.bytes)).getD 0<=1099511627776)&&decide (m<=1099511627776))
      (Kv P e fun z=>K (.view d (Bw P e) 0 n.toNat) [] [(d,.ar false (Yg n.toNat z))])
   |_=>none)=some r):∃v fz nw,K v fz nw=some r/\G4 P a w o Y β s v fz nw:=by
 split at hk
 ·rename_i e hu;obtain⟨k1,n,hx,hk⟩:=Fa hk;obtain⟨k2,m,hy,hk⟩:=Fa hk;obtain⟨hb,hk⟩:=Az hk;simp only[G8,MR] at hb;obtain⟨⟨⟨h0,hnm⟩,BZ⟩,hm⟩:=hb;obtain⟨z,cs,hk,hz,hct,hl,Kz,hc⟩:=Xa hk
  have hzc:∃i,P.info? e=some i/\i.zero=some z:=by
   unfold HN at hz;cases hi:P.info? e with
   |none=>rw[hi] at hz;cases hz
   |some i=>rw[hi] at hz;exact⟨i,rfl,hz⟩
  obtain⟨i,hi,hzi⟩:=hzc;have A5s:Bw P e=i.size:=by simp[Bw,hi]
  simp only[hi,Option.map_some,Option.getD_some] at BZ;have hr:=run_make (P:=P) w t e i z hu hi hzi k1 k2 n m h0 hnm (by rw[Int.mul_comm];omega) (by omega)
  have Eg:(execOp a.eval o).run P w=.ok (.value (.slice (some ⟨w.heap.size,0,none⟩) n.toNat m.toNat)) (w.alloc (.cells (madeCells z.cells (m.toNat*i.size)) e)):=by
   unfold execOp;rw[ho];simp[D3 h hx,D3 h hy,hr]
  have hzl:z.cells.size=Bw P e:=by
   have:z.cells.toList.length=z.cells.size:=by simp
   omega
  refine⟨_,_,_,hk,X7 (c:=madeCells z.cells (m.toNat*i.size)) (e:=e) (by simp) Eg (Jw.alloc w _ e) (fun j p hj=>?_) (.inr ⟨Bw P e,n.toNat,m.toNat,rfl,rfl,by omega,by rw[size_madeCells,A5s];exact C9 _⟩)⟩
  obtain⟨h1,h2⟩:=JI hj;obtain⟨hT,u,Od,ZY,hv⟩:=hc _ p h2;refine⟨u,Ahb ?_ ?_,ZY,hv _ _⟩
  ·have:n.toNat*cs.length<=m.toNat*i.size:=by
    rw[Kz,A5s];exact Nat.mul_le_mul_right _ (by omega)
   omega
  ·rw[hzl,<-Kz]
   simpa using Od
 ·cases hk
theorem An6{p:PV}{v:Value}(hp:okP p=true)(hv:Fc w A β p v):B9 (Cx w A β) (cellsOf p) v.cells.toList:=by
 have one:v.oneCell'=true->Cx w A β p v->(∀x,p ≠ .agg x)->B9 (Cx w A β) (cellsOf p) v.cells.toList:=by
  intro h1 h2 h3;have:cellsOf p=[p]:=by cases p<;>first|rfl|exact absurd rfl (h3 _)
  rw[this,Tw h1];exact⟨h2,trivial⟩
 unfold okP at hp;split at hp
 ·obtain⟨vs,rfl,h2⟩:=hv;exact h2
 ·refine one ?_ hv (by simp);have Wc:Bd w A _ v:=hv;cases Wc<;>rfl
 ·refine one ?_ hv (by simp);rcases hv with⟨_,_,_,_,rfl⟩|⟨_,_,_,_,_,rfl,_⟩<;>rfl
 ·have:=Ni hv;subst this;exact one rfl hv (by simp)
 ·have:=Ni hv;subst this;exact one rfl hv (by simp)
 ·have:=Ni hv;subst this;exact one rfl hv (by simp)
 ·have:=Ni hv;subst this;exact one rfl hv (by simp)
 ·cases hp
theorem Ak6:∀(vs:List Value)(k off:Nat)(cells:Array Value),off+k+vs.length<=cells.size ->
  ((vs.zipIdx k).foldl (fun cs (q:Value × Nat)=>cs.setIfInBounds (off+q.2) q.1) cells).toList=cells.toList.take (off+k)++vs++cells.toList.drop (off+k+vs.length)
 |[],k,off,cells,_=>by simp
 |v::vs,k,off,cells,h=>by
  simp only[List.zipIdx_cons,List.foldl_cons,G7] at h ⊢;rw[Ak6 vs (k+1) off _ (by simp;omega)]
  have Cq:off+k<cells.toList.length:=by simp;omega
  simp only[Array.toList_setIfInBounds];rw[show off+(k+1)=off+k+1 from by omega,List.take_succ_eq_append_getElem (by simpa using Cq)];rw[List.getElem_set_self,List.take_set_of_le (C9 _),List.drop_set_of_lt (by omega)];simp only[FC,Zzp,SR];rw[show off+k+1+vs.length=off+k+(vs.length+1) from by omega]
theorem VK(h:Cj N w0 X0 Y β s a w){Kr:Nat->Option (Nat × Nat)}:∀{parts:List (Nat × Operand)} {pc:Ab}{vc:Array Value}{K:Ab->Option R},
  CH Kr (parts.map fun q=>(q.1,Db s.tm q.2)) pc K=some r->B9 (Cx w (D2 s.hp β Y) β) pc vc.toList->(∀c∈pc,∀id∈A9 c,s.hp id≠none) ->
  ∃pc' vc',K pc'=some r/\Instr.fill Kr vc (parts.map fun q=>(q.1,a.eval q.2))=some vc'/\B9 (Cx w (D2 s.hp β Y) β) pc' vc'.toList/\pc'.length=pc.length/\∀c∈pc',∀id∈A9 c,s.hp id≠none
 |[],pc,vc,K,hk,hv,hr=>⟨pc,vc,hk,rfl,hv,rfl,hr⟩
 |(i,x)::parts,pc,vc,K,hk,hv,hr=>by
  simp only[Sf] at hk;unfold CH at hk;obtain⟨⟨off,size⟩,RE,hk⟩:=Ed hk;obtain⟨hb,hk⟩:=Az hk;simp only[G8] at hb;obtain⟨⟨hok,Kz⟩,ET⟩:=hb;have Kz:(cellsOf (Db s.tm x)).length=size:=Et Kz;have ET:off+size<=pc.length:=Xx ET;have hxc:=An6 hok (Er h x);have hxl:=hxc.len;have hvl:=hv.len;have Xl:vc.toList.length=vc.size:=by simp
  have hcs:(a.eval x).cells.toList.length=(a.eval x).cells.size:=by simp
  have FG:=Ak6 (a.eval x).cells.toList 0 off vc (by omega);simp only[JF] at FG
  have A5x:((a.eval x).cells.zipIdx.foldl (fun cs (q:Value × Nat)=>cs.setIfInBounds (off+q.2) q.1) vc).toList=vc.toList.take off++(a.eval x).cells.toList++vc.toList.drop (off+(a.eval x).cells.toList.length):=by
   rw[<-FG,<-Array.foldl_toList];simp
  obtain⟨pc',vc',hk,hf,h2,hl,hr'⟩:=VK h (pc:=Bx pc (cellsOf (Db s.tm x)) off) (vc:=(a.eval x).cells.zipIdx.foldl (fun cs (q:Value × Nat)=>cs.setIfInBounds (off+q.2) q.1) vc) hk (by
    rw[A5x,<-hxl];exact (((hv.take off).app hxc).app (hv.drop _))) (by
    intro c hc id B5;unfold Bx at hc;rcases Bz.1 hc with hc|hc
    ·rcases Bz.1 hc with hc|hc
     ·exact hr c (List.mem_of_mem_take hc) id B5
     ·refine Hz h x id ?_;cases hp:Db s.tm x with
      |agg cs=>rw[hp] at hc;exact List.mem_flatMap.2 ⟨c,hc,B5⟩
      |tup cs=>rw[hp] at hc;simp[cellsOf] at hc;subst hc;cases B5
      |_=>rw[hp] at hc;simp[cellsOf] at hc;subst hc;exact B5
    ·exact hr c (List.mem_of_mem_drop hc) id B5)
  refine⟨pc',vc',hk,?_,h2,?_,hr'⟩
  ·simp only[Sf,Instr.fill,RE];rw[A5 (by simp;omega)]
   exact hf
  ·rw[hl];simp[Bx];omega
theorem Aga{t:TypeId}{z:Value}{cs:Ab}(hl:cs.length=z.cells.toList.length)(hc:∀(j:Nat) c,cs[j]?=some c->GS c/\∃u,z.cells.toList[j]?=some u/\u.oneCell'=true/\∀(w:World)(A:Nat->Prop),Bd w A c u)(_ht:HN P t=some z):
  B9 (Cx w A β) cs z.cells.toList/\∀c∈cs,A9 c=[]:=by
 refine⟨B9.of_at hl fun i c u hci hu=>?_,fun c hcm=>?_⟩
 ·obtain⟨hT,u',Od,_,hv⟩:=hc i c hci;rw[hu] at Od;cases Od;exact (Q8 hT).2 (hv _ _)
 ·obtain⟨j,hj⟩:=List.mem_iff_getElem?.1 hcm;exact Mc (hc j c hj).1
theorem WN:∀{fs:List Field},(fs.all fun f=>UI P f.type)=true->fs.mapM (fun f=>(P.info? f.type).map fun i=>(f.offset,i.size))=some (fs.map fun f=>(f.offset,Bw P f.type))
 |[],_=>rfl
 |f::fs,h=>by
  simp only[List.all_cons,G8] at h;obtain⟨i,hi⟩:=Option.isSome_iff_exists.1 h.1;simp[List.mapM_cons,hi,WN h.2,Bw]
theorem IW{p q:Nat->Option (Nat × Nat)}(h:∀i,p i=q i)(cells:Array Value)(parts:List (Nat × Value)):Instr.fill p cells parts=Instr.fill q cells parts:=by have:p=q:=funext h;rw[this]
theorem Ae1(h:Cj N w0 X0 Y β s a w){t:TypeId}{ps:Array (Nat × Operand)}(ho:o.op=.build t ps){K:PV->Option R}(hk:(As (Y0 P t&&Dd P t)<|Kv P t fun z=>CH (Zo P t) (ps.toList.map fun q=>(q.1,Db s.tm q.2)) z fun cs=>Xj (M0 P t) cs 0 fun cs'=>K (.agg cs'))=some r):∃v,K v=some r/\G4 P a w o Y β s v [] []:=by
 obtain⟨RE,hk⟩:=Az hk;simp only[G8] at RE;obtain⟨RE,Jl⟩:=RE;obtain⟨z,cs,hk,hz,hct,hl,Kz,hc⟩:=Xa hk;obtain⟨hzr,UV⟩:=Aga (w:=w) (A:=D2 s.hp β Y) (β:=β) hl hc hz;obtain⟨pc',vc',hk,hf,h2,Q2,hr'⟩:=VK h hk hzr (fun c hcm id B5=>by rw[UV c hcm] at B5;cases B5)
 obtain⟨qs,hk,hql,OA,hq⟩:=EC hk
 have A1v:P.built t (ps.toList.map fun q=>(q.1,a.eval q.2))=some vc':=by
  have hzi:∃i,P.info? t=some i/\i.zero=some z:=by
   unfold HN at hz;cases hi:P.info? t with
   |none=>rw[hi] at hz;cases hz
   |some i=>rw[hi] at hz;exact⟨i,rfl,hz⟩
  obtain⟨i,hi,hzi⟩:=hzi;unfold Y0 at RE;unfold Program.built;split at RE
  ·rename_i fs hu
   have hf':Instr.fill (((fs.toList.map fun f=>(f.offset,Bw P f.type)).toArray)[·]?) z.cells (ps.toList.map fun q=>(q.1,a.eval q.2))=some vc':=by
    rw[<-hf];refine IW (fun j=>?_) _ _;simp[Zo,hu]
   simp only[hi,hu,hzi,WN RE];exact hf'
  ·rename_i n e hu;obtain⟨ie,hie⟩:=Option.isSome_iff_exists.1 RE
   have hf':Instr.fill (fun j=>some (j*ie.size,ie.size)) z.cells (ps.toList.map fun q=>(q.1,a.eval q.2))=some vc':=by
    rw[<-hf];refine IW (fun j=>?_) _ _;simp[Zo,hu,Bw,hie]
   simp only[hi,hu,hzi,hie];exact hf'
  ·rename_i e hu;simp[Dd,hu] at Jl
  ·cases RE
 refine⟨_,hk,De (val:=.agg vc') ?_ ⟨vc'.toList,rfl,?_⟩ ?_⟩
 ·unfold execOp;rw[ho];have:=run_build (P:=P) w t (ps.map fun q=>(q.1,a.eval q.2)) vc' (by simpa using A1v);simp[this]
 ·refine B9.of_at (by have:=h2.len;omega) fun j c u hcj hu=>?_
  obtain⟨p,hp,_,_,IZ⟩:=hq j c hcj;rw[Cm] at hp;exact (IZ _ _ _ _ (h2.at_ hp hu)).1
 ·intro id B5;obtain⟨c,hcm,B5⟩:=List.mem_flatMap.1 (show id∈qs.flatMap A9 from B5);obtain⟨j,hj⟩:=List.mem_iff_getElem?.1 hcm;obtain⟨p,hp,_,hpr,_⟩:=hq j c hj;rw[Cm] at hp;exact hr' p (List.mem_of_getElem? hp) id (hpr id B5)
end
open Go.RowKit
section
variable {R:Type}{r:R}{P:Program}{N:Nat}{w0:World}{X0:Gn}{Y:Nat->Prop}{β β':Bt}{s:St}{a:Act}{w w':World}{o:Oper}{A:Nat->Prop}
theorem Ah9(h:Cj N w0 X0 Y β s a w){fz:Cc}(OQ:∀id∈fz,∃f c,s.hp id=some (.ar f c)){id:Nat}(hm:id∈fz){f:Bool}{c:Ab}(hb:s.hp id=some (.ar f c)){b ob:Nat}(hβ:β id=some (b,ob)):
  ¬D2 (Al s.hp fz) β Y b/\YO w (D2 (Al s.hp fz) β Y) ⟨b,ob,none⟩ c/\b<w.heap.size:=by
 have hf:=h.freeze OQ;have he:Al s.hp fz id=some (.ar true c):=by rw[C5,Bq hm,hb];rfl
 rcases hf.box id _ he with⟨h1,_⟩|⟨b',o',h1,h2,_,h4⟩
 ·rw[hβ] at h1;cases h1
 ·rw[hβ] at h1;simp at h1;obtain⟨rfl,rfl⟩:=h1;exact⟨h4 rfl,h2,h.blt id b ob (by rw[hb];simp) hβ⟩
theorem Aov(h:Cj N w0 X0 Y β s a w){fz:Cc}(OQ:∀id∈fz,∃f c,s.hp id=some (.ar f c)){id es off n:Nat}(hm:id∈fz){f:Bool}{c:Ab}(hb:s.hp id=some (.ar f c)){v:Value}(hv:Cx w (D2 s.hp β Y) β (.view id es off n) v):Bd w (D2 (Al s.hp fz) β Y) (.lst false es n ((c.drop off).take (n*es))) v:=by
 rcases hv with⟨_,rfl,rfl,ad,rfl⟩|⟨b,ob,y,cap,hβ,rfl,hy,hn,_,Cq⟩
 ·simp only[Nat.zero_mul,List.take_zero];cases ad with
  |none=>exact Bd.lnil false es
  |some p=>exact Bd.lemp es p 0
 ·obtain⟨h1,h2,_⟩:=Ah9 h OQ hm hb hβ;by_cases SE:n*es=0
  ·rw[SE,List.take_zero];exact Bd.lst es n [] ⟨b,y,none⟩ cap (fun _=>undef) rfl Cq h1 hn (by simp) (by simp) (by simp)
  ·have hy:y=ob+off:=by
    rcases hy with hy|⟨h0,_⟩
    ·exact hy
    ·rw[h0] at SE;simp at SE
   subst hy
   have hcell:∀(j:Nat) q,((c.drop off).take (n*es))[j]?=some q->c[off+j]?=some q:=by
    intro j q hq;rw[List.getElem?_take] at hq;split at hq
    ·rw[List.getElem?_drop] at hq;exact hq
    ·cases hq
   refine Bd.lst es n _ ⟨b,ob+off,none⟩ cap (fun j=>(w.cell? ⟨b,ob+off+j,none⟩).getD undef) rfl Cq h1 hn (fun j q hq=>?_) (fun j q hq=>?_) (fun j q hq=>?_)
   ·obtain⟨v,hv,_⟩:=h2 _ q (hcell j q hq);rw[Fy,<-Sb] at hv;rw[Fy,hv];rfl
   ·obtain⟨v,hv,h3,_⟩:=h2 _ q (hcell j q hq);rw[Fy,<-Sb] at hv;rw[hv];exact h3
   ·obtain⟨v,hv,_,ht⟩:=h2 _ q (hcell j q hq);rw[Fy,<-Sb] at hv;rw[hv];exact ht
theorem Bd.zf{A:Nat->Prop}{z:Bool}{es n:Nat}{c:Ab}{v:Value}(h:Bd w A (.lst z es n c) v):Bd w A (.lst false es n c) v:=by
 cases h with
 |lnil=>exact .lnil _ _
 |lemp=>exact .lemp _ _ _
 |lst _ _ _ a cap f hs hb hA hn hc h1 hr=>exact .lst _ _ _ a cap f hs hb hA hn hc h1 hr
theorem UO(h:Cj N w0 X0 Y β s a w){t:CT}{p:PV}{K:PV->Cc->Option R}(hk:V0 (Pw s.hp) t p K=some r):
  ∃c m,K c m=some r/\GS c/\XU p/\(∀id∈m,∃f cc,s.hp id=some (.ar f cc))/\∀fz:Cc,(∀id∈m,id∈fz)->(∀id∈fz,∃f cc,s.hp id=some (.ar f cc))->∀v,Cx w (D2 s.hp β Y) β p v->Bd w (D2 (Al s.hp fz) β Y) c v/\v.oneCell'=true:=by
 have tree:∀t',(NM t' p fun c=>K c [])=some r->∃c m,K c m=some r/\GS c/\XU p/\(∀id∈m,∃f cc,s.hp id=some (.ar f cc))/\∀fz:Cc,(∀id∈m,id∈fz)->(∀id∈fz,∃f cc,s.hp id=some (.ar f cc))->∀v,Cx w (D2 s.hp β Y) β p v->Bd w (D2 (Al s.hp fz) β Y) c v/\v.oneCell'=true:=by
  intro t' hk;obtain⟨c,hk,hT,WL,hv⟩:=Tj hk;refine⟨c,[],hk,hT,AX WL,by simp,fun fz _ OQ v IZ=>?_⟩;obtain⟨h1,h2⟩:=hv _ _ _ _ IZ;exact⟨h1.step (C6.refl _ _) (fun b _ hb=>hb.imp Yr id),h2⟩
 cases t with
 |sl es=>
  unfold V0 at hk;dsimp only at hk;split at hk
  ·rename_i id es' off n;cases hb:Nat.beq es' es
   ·rw[hb] at hk;cases hk
   ·rw[hb] at hk;have:=Et hb;subst this;obtain⟨c,hc,hk⟩:=Ed (show F3 _ _=some r from hk);obtain⟨_,hk⟩:=Az hk;obtain⟨f,Pr⟩:=Acc hc;refine⟨_,[id],hk,trivial,trivial,?_,fun fz hm OQ v hv=>⟨Aov h OQ (hm id (by simp)) Pr hv,?_⟩⟩
    ·intro i hi;simp at hi;subst hi;exact⟨f,c,Pr⟩
    ·rcases hv with⟨_,_,_,_,rfl⟩|⟨_,_,_,_,_,rfl,_⟩<;>rfl
  ·obtain⟨z,n,c,hk,hp⟩:=Iy hk;refine⟨_,[],hk,trivial,?_,by simp,fun fz _ OQ v IZ=>?_⟩
   ·rcases hp with rfl|⟨rfl,_⟩<;>trivial
   ·have ht:=IH hp IZ;refine⟨Bd.zf (ht.step (C6.refl _ _) (fun b _ hb=>hb.imp Yr id)),?_⟩;cases ht<;>rfl
 |int k=>exact tree (.int k) hk
 |bool=>exact tree .bool hk
 |str=>exact tree .str hk
 |any=>exact tree .any hk
theorem Zc(h:Cj N w0 X0 Y β s a w):∀{ts:List CT}{ps:Ab}{K:Ab->Cc->Option R},Vv (Pw s.hp) ts ps K=some r ->
  ∃cs m,K cs m=some r/\cs.length=ts.length/\ps.length=ts.length/\(∀c∈cs,GS c)/\(∀p∈ps,XU p)/\(∀id∈m,∃f cc,s.hp id=some (.ar f cc)) /\
   ∀fz:Cc,(∀id∈m,id∈fz)->(∀id∈fz,∃f cc,s.hp id=some (.ar f cc))->∀vs,B9 (Cx w (D2 s.hp β Y) β) ps vs->B9 (Bd w (D2 (Al s.hp fz) β Y)) cs vs/\∀v∈vs,v.oneCell'=true
 |[],[],K,hk=>⟨[],[],hk,rfl,rfl,by simp,by simp,by simp,fun fz _ _ vs hv=>by
   cases vs with
   |nil=>exact⟨trivial,by simp⟩
   |cons v vs=>exact hv.elim⟩
 |[],_::_,K,hk=>by cases hk
 |_::_,[],K,hk=>by cases hk
 |t::ts,p::ps,K,hk=>by
  unfold Vv at hk;obtain⟨c,m,hk,hT,hF,hm,hv⟩:=UO h hk;obtain⟨cs,ms,hk,hl,Q2,hTs,hFs,SW,Xl⟩:=Zc h hk;refine⟨c::cs,m++ms,hk,by simp[hl],by simp[Q2],?_,?_,?_,fun fz hfm OQ vs h2=>?_⟩
  ·intro x hx;rcases B6.1 hx with rfl|hx
   ·exact hT
   ·exact hTs x hx
  ·intro x hx;rcases B6.1 hx with rfl|hx
   ·exact hF
   ·exact hFs x hx
  ·intro x hx;rcases Bz.1 hx with hx|hx
   ·exact hm x hx
   ·exact SW x hx
  ·cases vs with
   |nil=>exact h2.elim
   |cons v vs=>
    obtain⟨h3,h4⟩:=hv fz (fun i hi=>hfm i (by simp[hi])) OQ v h2.1;obtain⟨h5,h6⟩:=Xl fz (fun i hi=>hfm i (by simp[hi])) OQ vs h2.2;refine⟨⟨h3,h5⟩,?_⟩;intro x hx;rcases B6.1 hx with rfl|hx
    ·exact h4
    ·exact h6 x hx
theorem Aos{R':PV->Value->Prop}{cs:Ab}{z:Array Value}(h:B9 R' cs z.toList)(n:Nat):B9 R' (Yg n cs) (madeCells z (n*cs.length)).toList:=by
 have hzl:z.size=cs.length:=by have:=h.len;simp at this;exact this.symm
 refine B9.of_at ?_ fun j c v hc hv=>?_
 ·rw[Aeu];simp[size_madeCells]
 ·obtain⟨h1,h2⟩:=JI hc
  have Cq:j % cs.length<cs.length:=by
   rcases Mi (j % cs.length) cs.length with h|h
   ·exact h
   ·rw[List.getElem?_eq_none h] at h2;cases h2
  obtain⟨u,hu,hcu⟩:=h.get h2;have:(madeCells z (n*cs.length))[j]?=some u:=Ahb h1 (by rw[hzl];simpa using hu)
  have Wc:(madeCells z (n*cs.length))[j]?=some v:=by simpa using hv
  rw[this] at Wc;cases Wc;exact hcu
theorem OK(h:Cj N w0 X0 Y β s a w){t:TypeId}{n:Nat}{ps:Array (Nat × Operand)}(ho:o.op=.buildSlice t n ps){d:Nat}{K:PV->Cc->List (Nat × Cb)->Option R}(hk:(match P.underlying t with
   |some (.slice e)=>As (Y0 P t&&Nat.ble (n*Bw P e) 16777216) (Kv P e fun z=>CH (Zo P t) (ps.toList.map fun q=>(q.1,Db s.tm q.2)) (Yg n z) fun cs=>
     Vv (Pw s.hp) (List.replicate n (M0 P e)).flatten cs fun cs' m=>K (.view d (Bw P e) 0 n) m [(d,.ar false cs')])
   |_=>none)=some r):∃v fz nw,K v fz nw=some r/\G4 P a w o Y β s v fz nw:=by
 split at hk
 ·rename_i e hu;obtain⟨hb,hk⟩:=Az hk;simp only[G8] at hb;have ET:n*Bw P e<=16777216:=Xx hb.2;have Xo:(P.info? e).isSome=true:=by have:=hb.1;unfold Y0 at this;rw[hu] at this;exact this
  obtain⟨z,cs,hk,hz,hct,hl,Kz,hc⟩:=Xa hk;obtain⟨hzr,UV⟩:=Aga (w:=w) (A:=D2 s.hp β Y) (β:=β) hl hc hz;have Bbi:=Aos hzr n
  obtain⟨pc',vc',hk,hf,h2,Q2,hr'⟩:=VK h hk Bbi (fun c hcm id B5=>by
   obtain⟨j,hj⟩:=List.mem_iff_getElem?.1 hcm;obtain⟨_,hg⟩:=JI hj;rw[UV c (List.mem_of_getElem? hg)] at B5;cases B5)
  obtain⟨qs,m,hk,hql,RE,hqT,_,hm,hqv⟩:=Zc h hk;obtain⟨h3,h3'⟩:=hqv m (fun _ hi=>hi) hm _ h2
  have hf':Instr.fill (fun i=>some (i*Bw P e,Bw P e)) (madeCells z.cells (n*cs.length)) (ps.toList.map fun q=>(q.1,a.eval q.2))=some vc':=by
   rw[<-hf];refine IW (fun i=>?_) _ _;simp[Zo,hu]
  have hvl:vc'.size=n*Bw P e:=by
   have h4:=h2.len;rw[Q2,Aeu] at h4;simp at h4;rw[<-h4,Kz]
  have Eg:(execOp a.eval o).run P w=.ok (.value (.slice (some ⟨w.heap.size,0,none⟩) n n)) (w.alloc (.cells vc' e)):=by
   unfold execOp;rw[ho];have A5d:¬(n*Bw P e>2 ^ 24):=by omega
   rw[Kz] at hf';by_cases SE:n*Bw P e=0
   ·simp only[Instr.buildSlice,Sem.run_bind,run_underlying hu,Result.andThen_ok,Eh Xo,A5 A5d,SE];rw[SE] at hf';have e0:madeCells z.cells 0=(Array.range 0).map (fun _=>default):=by simp[madeCells]
    rw[e0] at hf';simp[hf',newRow]
   ·simp only[Instr.buildSlice,Sem.run_bind,run_underlying hu,Result.andThen_ok,Eh Xo,A5 A5d,A5 SE,GP hz];unfold madeCells at hf';simp[hf',newRow]
  refine⟨_,_,_,hk,X7 (c:=vc') (e:=e) hm Eg (Jw.alloc w vc' e) (fun j p hj=>?_) (.inr ⟨Bw P e,n,n,rfl,rfl,C9 _,by rw[hvl];exact C9 _⟩)⟩
  obtain⟨u,Od,hp⟩:=h3.get hj;exact⟨u,by simpa using Od,h3' u (List.mem_of_getElem? Od),hp⟩
 ·cases hk
end
end
end
end Go.Proofs.YtpogefhpiaaliaaGreatDoor.Pv
