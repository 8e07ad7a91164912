/-
  The proof of MetadataSigns, part 1.
-/
import Derived.Orders
import Derived.LoopN
import Derived.Below
import Derived.Lib.ValidU
import Derived.Lib.Bytealg
import Derived.IntWalk
import Derived.WalkKit
import Derived.WalkLawsBesides
import Derived.Laws.IdiomStrings
import Derived.Laws.MakeOwn
import Derived.Laws.Tables
set_option linter.unusedSimpArgs false
set_option linter.unusedVariables false
namespace Go.Proofs.YtpogefhpiaaliaaGreatDoor.Pv
set_option maxRecDepth 1000000
noncomputable section
theorem Dx:type_of% @Bool.not_true:=@Bool.not_true
theorem Ll:type_of% @Bool.not_false:=@Bool.not_false
theorem Ec:type_of% @Nat.mul_one:=@Nat.mul_one
theorem Cu:type_of% @Nat.zero_add:=@Nat.zero_add
theorem Fi:type_of% @List.drop_zero.{0}:=@List.drop_zero
theorem I9:type_of% @List.take_of_length_le.{0}:=@List.take_of_length_le
theorem G8:type_of% @List.length_append.{0}:=@List.length_append
theorem Vl:type_of% @List.length_nil.{0}:=@List.length_nil
theorem G9:type_of% @List.length_cons.{0}:=@List.length_cons
theorem Ij:type_of% @Int.toNat_natCast:=@Int.toNat_natCast
theorem Ba:type_of% @if_neg.{1}:=@if_neg
theorem B7:type_of% @if_pos.{1}:=@if_pos
theorem Zzm:type_of% @Bool.true_and:=@Bool.true_and
theorem Zzp:type_of% @List.cons_append.{0}:=@List.cons_append
theorem PT:type_of% @List.nil_append.{0}:=@List.nil_append
theorem GD:type_of% @Nat.add_zero:=@Nat.add_zero
theorem Zzs:type_of% @Bool.false_and:=@Bool.false_and
theorem IU:type_of% @List.append_assoc.{0}:=@List.append_assoc
theorem Rz:type_of% @List.map_cons.{0,0}:=@List.map_cons
theorem Gl:type_of% @Bool.and_eq_true:=@Bool.and_eq_true
theorem IR:type_of% @decide_eq_true_eq:=@decide_eq_true_eq
theorem D4:type_of% @Nat.eq_of_beq_eq_true:=@Nat.eq_of_beq_eq_true
theorem Bx:type_of% @List.mem_cons.{0}:=@List.mem_cons
theorem Bu:type_of% @List.mem_append.{0}:=@List.mem_append
theorem J7:type_of% @List.flatMap_cons.{0,0}:=@List.flatMap_cons
theorem Vi:type_of% @List.mem_singleton_self.{0}:=@List.mem_singleton_self
theorem Io:type_of% @Nat.lt_of_lt_of_le:=@Nat.lt_of_lt_of_le
theorem Rw:type_of% @List.mem_cons_of_mem.{0}:=@List.mem_cons_of_mem
theorem Wu:type_of% @Nat.le_of_ble_eq_true:=@Nat.le_of_ble_eq_true
theorem K6:type_of% @Nat.lt_or_ge:=@Nat.lt_or_ge
theorem Lo:type_of% @List.mem_singleton.{0}:=@List.mem_singleton
theorem Dn:type_of% @Nat.le_refl:=@Nat.le_refl
theorem Qp:type_of% @Nat.add_assoc:=@Nat.add_assoc
theorem Of:type_of% @Nat.beq_refl:=@Nat.beq_refl
theorem GF:type_of% @List.mem_cons_self.{0}:=@List.mem_cons_self
theorem PA:type_of% @decide_eq_false_iff_not:=@decide_eq_false_iff_not
theorem Ig:type_of% @List.not_mem_nil.{0}:=@List.not_mem_nil
inductive PV where
 |sc (v:Value)
 |lst (z:Bool) (es n:Nat) (cells:List PV)
 |own (es n:Nat) (cells:List PV)
 |view (id es off n:Nat)
 |ptr (id off:Nat)
 |iptr (cells:List PV) (off:Nat)
 |pbox (cells:List PV)
 |agg (cells:List PV)
 |tup (vs:List PV)
 |top
 |ub
abbrev Ab:=List PV
abbrev Cg:=List Int
abbrev B5:=List Nat
inductive Bz where
 |st (cells:Ab)
 |ar (fz:Bool) (cells:Ab)
 |mv
structure St where
 tm:Nat->PV
 hp:Nat->Option Bz
structure Dl where
 vals:Ab
 outs:List Ab
structure Jm where
 shr:FuncId->Bool
 mvd:FuncId->Nat->Bool
 lnd:FuncId->Nat->Bool
 kz:FuncId->Bool
 ext:FuncId->Option (Ab->Option Dl)
def Jm.core(C:Jm):Jm:={ C with ext:=fun _=>none }
def Db{α:Type}(f:Nat->α)(i:Nat)(v:α):Nat->α:=fun j=>bif Nat.beq j i then v else f j
def rd(hp:Nat->Option Bz)(id:Nat):Option Ab:=
 match hp id with
 |some (.st c)=>some c
 |some (.ar _ c)=>some c
 |_=>none
def Od(hp:Nat->Option Bz)(id:Nat):Option Ab:=
 match hp id with
 |some (.ar _ c)=>some c
 |_=>none
inductive CT where
 |int (k:IntKind)
 |bool
 |str
 |sl (es:Nat)
 |any
def Bm(P:Program)(t:TypeId):Nat:=((P.info? t).map (·.size)).getD 0
def Cr(P:Program)(t:TypeId):Bool:=
 match P.underlying t with
 |some (.struct _)=>true
 |some (.array _ _)=>true
 |_=>false
def Ays(P:Program):Nat->TypeId->List CT
 |0,_=>[]
 |d+1,t=>
  match P.underlying t with
  |some (.int k)=>[.int k]
  |some .bool=>[.bool]
  |some .string=>[.str]
  |some (.slice e)=>[.sl (Bm P e)]
  |some (.struct fs)=>fs.toList.flatMap fun f=>Ays P d f.type
  |some (.array n e)=>(List.replicate n (Ays P d e)).flatten
  |_=>[.any]
abbrev Lm(P:Program)(t:TypeId):List CT:=Ays P 9 t
def M2(P:Program)(t:TypeId):Bool:=(P.underlying t).isSome&&Nat.beq (Lm P t).length (Bm P t)
abbrev Tp(k:IntKind)(a b:Int):Int:=k.wrap (BitVec.ofInt k.bits a &&& BitVec.ofInt k.bits b).toNat
abbrev VB(k:IntKind)(a b:Int):Int:=k.wrap (BitVec.ofInt k.bits a ||| BitVec.ofInt k.bits b).toNat
abbrev E6(k:IntKind)(a b:Int):Int:=k.wrap (BitVec.ofInt k.bits a ^^^ BitVec.ofInt k.bits b).toNat
abbrev Auf(k:IntKind)(a b:Int):Int:=k.wrap (BitVec.ofInt k.bits a &&& ~~~BitVec.ofInt k.bits b).toNat
abbrev Iy(k:IntKind)(a b:Int):Int:=k.wrap (a*2 ^ (min b.toNat k.bits))
abbrev Ff(k:IntKind)(a b:Int):Int:=a.fdiv (2 ^ (min b.toNat k.bits))
abbrev A3n(k:IntKind)(n:Int):Int:=k.wrap (BitVec.ofInt k.bits (if k.signed then -1 else k.max) ^^^ BitVec.ofInt k.bits n).toNat
section
variable {R:Type}
def A8(k:IntKind)(p:PV)(K:Int->Option R):Option R:=
 match p with
 |.sc (.int k' n)=>if k'=k then K n else none
 |_=>none
def Co(p:PV)(K:Bool->Option R):Option R:=
 match p with
 |.sc (.bool b)=>K b
 |_=>none
def Ez(p:PV)(K:ByteArray->Option R):Option R:=
 match p with
 |.sc (.string s)=>K s
 |_=>none
def M0(es:Nat)(p:PV)(K:Bool->Nat->Ab->Option R):Option R:=
 match p with
 |.lst z es' n c=>bif Nat.beq es' es then K z n c else none
 |.sc (.slice none 0 0)=>K true 0 []
 |_=>none
def fsK(es:Nat)(p:PV)(K:PV->Option R):Option R:=
 match p with
 |.view id es' off n=>bif Nat.beq es' es then K (.view id es off n) else none
 |p=>M0 es p fun z n c=>K (.lst z es n c)
def Kn(es:Nat)(p:PV)(K:Nat->Ab->Option R):Option R:=
 match p with
 |.own es' n c=>bif Nat.beq es' es then K n c else none
 |_=>none
def At(b:Bool)(K:Option R):Option R:=bif b then K else none
abbrev Aa{α:Type}(x:α)(K:α->Option R):Option R:=K x
def UM(b:Bool)(x y:Option R):Option R:=bif b then x else y
abbrev A64(x:Nat)(K:Nat->Option R):Option R:=K x
def Ar2(x:List B5)(K:List B5->Option R):Option R:=K x
def Bd(b:Bool)(x y:Option R):Option R:=bif b then x else y
def Gi{α:Type}(o:Option α)(K:α->Option R):Option R:=
 match o with
 |some a=>K a
 |none=>none
def Av{α:Type}(l:List α)(K:α->List α->Option R):Option R:=
 match l with
 |a::r=>K a r
 |[]=>none
def Aq{α:Type}(l:List α)(K:Option R):Option R:=
 match l with
 |[]=>K
 |_::_=>none
def D3(p:PV)(K:Ab->Option R):Option R:=
 match p with
 |.agg c=>K c
 |_=>none
def DB(p:PV)(K:Ab->Option R):Option R:=
 match p with
 |.pbox c=>K c
 |_=>none
def Bk(r:Option Dl)(K:Ab->List Ab->Option R):Option R:=
 match r with
 |some ⟨v,o⟩=>K v o
 |none=>none
def fnK(p:PV)(K:Value->Option R):Option R:=
 match p with
 |.sc (.func f a b)=>K (.func f a b)
 |_=>none
def fvK(p:PV)(K:FuncId->Option R):Option R:=
 match p with
 |.sc (.func (.func f) a b)=>bif a.isEmpty&&b.isEmpty then K f else none
 |_=>none
def KH(t:CT)(p:PV)(K:PV->Option R):Option R:=
 match t with
 |.int k=>A8 k p fun n=>K (.sc (.int k n))
 |.bool=>Co p fun b=>K (.sc (.bool b))
 |.str=>Ez p fun s=>K (.sc (.string s))
 |.sl es=>M0 es p fun z n c=>K (.lst z es n c)
 |.any=>fnK p fun v=>K (.sc v)
def fcK(t:CT)(p:PV)(K:PV->Option R):Option R:=
 match t with
 |.sl es=>fsK es p K
 |t=>KH t p K
def Zi:List CT->Ab->Nat->(Ab->Option R)->Option R
 |[],_,_,K=>K []
 |t::ts,cells,off,K=>KH t (cells.getD off .top) fun c=>Zi ts cells (off+1) fun r=>K (c::r)
def Vd:List CT->Ab->Nat->(Ab->Option R)->Option R
 |[],_,_,K=>K []
 |t::ts,cells,off,K=>fcK t (cells.getD off .top) fun c=>Vd ts cells (off+1) fun r=>K (c::r)
def mkV(agg:Bool)(cells:Ab)(K:PV->Option R):Option R:=
 bif agg then K (.agg cells) else Av cells fun c r=>Aq r (K c)
def cellsOf:PV->Ab
 |.agg c=>c
 |p=>[p]
def cvK(P:Program)(t:TypeId)(v:Value)(K:PV->Option R):Option R:=
 match v with
 |.agg cs=>At (Nat.beq cs.toList.length (Lm P t).length) (Zi (Lm P t) (cs.toList.map .sc) 0 fun c=>K (.agg c))
 |.slice none 0 0=>
  match P.underlying t with
  |some (.slice e)=>K (.lst true (Bm P e) 0 [])
  |_=>none
 |v=>K (.sc v)
end
def Cv(tm:Nat->PV):Operand->PV
 |.tmp t=>tm t
 |.const (.agg cs)=>.agg (cs.toList.map .sc)
 |.const v=>.sc v
 |.func f=>.sc (.func (.func f) #[] #[])
 |.global g=>.sc (.pointer (some ⟨g,0,none⟩))
section
variable {R:Type}
def Et(p:PV)(K:IntKind->Int->Option R):Option R:=
 match p with
 |.sc (.int k n)=>K k n
 |_=>none
def Afp(rdf:Nat->Option Ab)(es:Nat)(p:PV)(K:Nat->Ab->Option R):Option R:=
 match p with
 |.view id es' off n=>bif Nat.beq es' es then Gi (rdf id) fun c=>At (decide (off+n*es<=c.length)) (K n ((c.drop off).take (n*es))) else none
 |p=>M0 es p fun _ n c=>K n c
def Tq(rdf:Nat->Option Ab)(t:CT)(p:PV)(K:PV->B5->Option R):Option R:=
 match t with
 |.sl es=>
  match p with
  |.view id es' off n=>bif Nat.beq es' es then Gi (rdf id) fun c=>At (decide (off+n*es<=c.length)) (K (.lst false es n ((c.drop off).take (n*es))) [id]) else none
  |p=>M0 es p fun _ n c=>K (.lst false es n c) []
 |t=>KH t p fun c=>K c []
def Sv(rdf:Nat->Option Ab):List CT->Ab->(Ab->B5->Option R)->Option R
 |[],[],K=>K [] []
 |t::ts,p::ps,K=>Tq rdf t p fun c m=>Sv rdf ts ps fun cs ms=>K (c::cs) (m++ms)
 |_,_,_=>none
def Ago(P:Program)(rdf:Nat->Option Ab)(t:TypeId)(p:PV)(K:PV->B5->Option R):Option R:=
 bif Cr P t then D3 p fun ps=>Sv rdf (Lm P t) ps fun cs m=>K (.agg cs) m
 else Sv rdf (Lm P t) [p] fun cs m=>Av cs fun c r=>Aq r (K c m)
def QX(P:Program)(rdf:Nat->Option Ab):List TypeId->Ab->(Ab->B5->Option R)->Option R
 |[],[],K=>K [] []
 |t::ts,p::ps,K=>Ago P rdf t p fun v m=>QX P rdf ts ps fun vs ms=>K (v::vs) (m++ms)
 |_,_,_=>none
def Art(shr:Bool)(id:Nat)(t:CT)(p:PV)(K:PV->List (Nat × Bz)->Option R):Option R:=
 match t with
 |.sl es=>bif shr then M0 es p fun _ n c=>K (.lst false es n c) [] else Kn es p fun n c=>K (.view id es 0 n) [(id,.ar false c)]
 |t=>KH t p fun c=>K c []
def Ww(shr:Bool)(N:Nat):Nat->List CT->Ab->(Ab->List (Nat × Bz)->Option R)->Option R
 |_,[],ps,K=>Aq ps (K [] [])
 |id,t::ts,ps,K=>Av ps fun p ps=>Art shr id t p fun c b=>Ww shr N (id+N) ts ps fun cs bs=>K (c::cs) (b++bs)
def GB(P:Program)(t:TypeId):Option TypeId:=
 match P.underlying t with
 |some (.pointer e)=>some e
 |_=>none
def Aep(P:Program)(t:TypeId):Nat:=
 match GB P t with
 |some e=>1+(Lm P e).length
 |none=>(Lm P t).length
def Alo(P:Program)(shr:Bool)(N:Nat)(id:Nat)(t:TypeId)(p:PV)(K:PV->List (Nat × Bz)->Option R):Option R:=
 match GB P t with
 |some e=>DB p fun ps=>Ww shr N (id+N) (Lm P e) ps fun cs bs=>K (.ptr id 0) ((id,.st cs)::bs)
 |none=>
 bif Cr P t then D3 p fun ps=>Ww shr N id (Lm P t) ps fun cs bs=>K (.agg cs) bs
 else Ww shr N id (Lm P t) [p] fun cs bs=>Av cs fun c r=>Aq r (K c bs)
def LX(P:Program)(shr:Bool)(N:Nat):Nat->List TypeId->Ab->(Ab->List (Nat × Bz)->Option R)->Option R
 |_,[],ps,K=>Aq ps (K [] [])
 |id,t::ts,ps,K=>Av ps fun p ps=>Alo P shr N id t p fun v bs=>LX P shr N (id+N*Aep P t) ts ps fun vs bs'=>K (v::vs) (bs++bs')
def S9(P:Program)(t:TypeId):List TypeId:=
 match P.underlying t with
 |some (.tuple ts)=>ts.toList
 |_=>[t]
def Tb(vs:Ab)(t:Bool):PV:=bif t then .tup vs else vs.headD .top
def Us(P:Program)(t:TypeId):Bool:=
 match P.underlying t with
 |some (.tuple _)=>true
 |_=>false
def Avn(op:BinOp)(a b:Int)(K:Bool->Option R):Option R:=
 match op with
 |.eql=>K (a==b)
 |.neq=>K (a != b)
 |.lss=>K (decide (a<b))
 |.leq=>K (decide (a<=b))
 |.gtr=>K (decide (a>b))
 |.geq=>K (decide (a>=b))
 |_=>none
def RO(op:BinOp)(k:IntKind)(a b:Int)(K:PV->Option R):Option R:=
 match op with
 |.add=>Aa ((k.wrap (a+b))) fun n=>K (.sc (.int k n))
 |.sub=>Aa ((k.wrap (a-b))) fun n=>K (.sc (.int k n))
 |.mul=>Aa ((k.wrap (a*b))) fun n=>K (.sc (.int k n))
 |.quo=>At (decide (b≠0)) (Aa ((k.wrap (a.tdiv b))) fun n=>K (.sc (.int k n)))
 |.rem=>At (decide (b≠0)) (Aa ((a.tmod b)) fun n=>K (.sc (.int k n)))
 |.and=>Aa (Tp k a b) fun n=>K (.sc (.int k n))
 |.or=>Aa (VB k a b) fun n=>K (.sc (.int k n))
 |.xor=>Aa (E6 k a b) fun n=>K (.sc (.int k n))
 |.andNot=>Aa (Auf k a b) fun n=>K (.sc (.int k n))
 |op=>Avn op a b fun r=>K (.sc (.bool r))
def SL(op:BinOp)(x y:ByteArray)(K:PV->Option R):Option R:=
 match op with
 |.add=>At (decide (x.size+y.size<=9223372036854775807)) (Aa (x++y) fun s=>K (.sc (.string s)))
 |.eql=>K (.sc (.bool (x.data.toList==y.data.toList)))
 |.neq=>K (.sc (.bool !(x.data.toList==y.data.toList)))
 |.lss=>K (.sc (.bool (Op.bytesLess x.data.toList y.data.toList)))
 |.leq=>K (.sc (.bool (Op.bytesLess x.data.toList y.data.toList||x.data.toList==y.data.toList)))
 |.gtr=>K (.sc (.bool !(Op.bytesLess x.data.toList y.data.toList||x.data.toList==y.data.toList)))
 |.geq=>K (.sc (.bool !(Op.bytesLess x.data.toList y.data.toList)))
 |_=>none
def SA(e:Bool)(p:PV)(K:PV->Option R):Option R:=
 match p with
 |.sc (.slice none 0 0)=>K (.sc (.bool e))
 |.lst z _ n _=>Bd z (K (.sc (.bool e))) (Bd (decide (0<n)) (K (.sc (.bool !e))) (K .ub))
 |.view _ _ _ n=>Bd (decide (0<n)) (K (.sc (.bool !e))) (K .ub)
 |_=>none
def Abi(P:Program):List Field->Nat->Bool
 |[],_=>true
 |f::r,i=>Nat.beq f.offset i&&(f.name != "_")&&(match P.underlying f.type with|some (.int _)=>true|some .bool=>true|some .string=>true|_=>false)&&Abi P r (i+1)
def Th(P:Program):List Field->Nat->Bool
  |[],_=>true
  |f::r,i=>Nat.beq f.offset i&&(f.name != "_") &&
    (match P.underlying f.type with
     |some (.int _)=>Th P r (i+1)
     |some .bool=>Th P r (i+1)
     |some .string=>Th P r (i+1)
     |some (.struct gs)=>Abi P gs.toList 0 && !P.stoodInHeld f.type&&(P.info? f.type).isSome&&Nat.beq (Bm P f.type) gs.size&&Th P r (i+gs.size)
     |_=>false)
def YP(P:Program)(t:TypeId)(fs:Array Field):Bool:=Th P fs.toList 0 && !P.stoodInHeld t && !P.eqGuardType P.depth t
def fty(P:Program)(f:Field):CT:=
 match P.underlying f.type with
 |some (.int k)=>.int k
 |some .bool=>.bool
 |some .string=>.str
 |_=>.any
def Ac7(P:Program)(f:Field):List CT:=
 match P.underlying f.type with
 |some (.struct gs)=>gs.toList.map (fty P)
 |_=>[fty P f]
def DC(P:Program):List Field->List CT
 |[]=>[]
 |f::r=>Ac7 P f++DC P r
def Pt:List CT->Ab->Ab->(Bool->Option R)->Option R
 |[],[],[],K=>K true
 |.int k::ts,p::ps,q::qs,K=>A8 k p fun a=>A8 k q fun b=>Pt ts ps qs fun r=>K ((a==b)&&r)
 |.bool::ts,p::ps,q::qs,K=>Co p fun a=>Co q fun b=>Pt ts ps qs fun r=>K ((a==b)&&r)
 |.str::ts,p::ps,q::qs,K=>Ez p fun a=>Ez q fun b=>Pt ts ps qs fun r=>K ((a==b)&&r)
 |_,_,_,_=>none
def Apv(P:Program)(op:BinOp)(t:TypeId)(x y:PV)(K:PV->Option R):Option R:=
 match P.underlying t with
 |some (.int k)=>
  match op with
  |.shl=>A8 k x fun a=>Et y fun _ b=>At (decide (0<=b)) (Aa (Iy k a b) fun n=>K (.sc (.int k n)))
  |.shr=>A8 k x fun a=>Et y fun _ b=>At (decide (0<=b)) (Aa (Ff k a b) fun n=>K (.sc (.int k n)))
  |op=>A8 k x fun a=>A8 k y fun b=>RO op k a b K
 |some .string=>Ez x fun a=>Ez y fun b=>SL op a b K
 |some .bool=>
  match op with
  |.eql=>Co x fun a=>Co y fun b=>K (.sc (.bool (a==b)))
  |.neq=>Co x fun a=>Co y fun b=>K (.sc (.bool !(a==b)))
  |_=>none
 |some (.slice _)=>
  match op,y with
  |.eql,.sc (.slice none 0 0)=>SA true x K
  |.neq,.sc (.slice none 0 0)=>SA false x K
  |_,_=>none
 |_=>none
def AQ(P:Program)(op:BinOp)(t:TypeId)(x y:PV)(K:PV->Option R):Option R:=
 match P.underlying t with
 |some (.struct fs)=>
  match op with
  |.eql=>At (YP P t fs) (D3 x fun xs=>D3 y fun ys=>Pt (DC P fs.toList) xs ys fun b=>K (.sc (.bool b)))
  |.neq=>At (YP P t fs) (D3 x fun xs=>D3 y fun ys=>Pt (DC P fs.toList) xs ys fun b=>K (.sc (.bool !b)))
  |_=>none
 |_=>Apv P op t x y K
def unK(op:UnOp)(x:PV)(K:PV->Option R):Option R:=
 match op with
 |.not=>Co x fun b=>K (.sc (.bool !b))
 |.neg=>Et x fun k n=>Aa (k.wrap (0-n)) fun n=>K (.sc (.int k n))
 |.xor=>Et x fun k n=>Aa (A3n k n) fun n=>K (.sc (.int k n))
 |_=>none
def bytesOf:Ab->Option (List UInt8)
 |[]=>some []
 |.sc (.int .u8 n)::r=>(bytesOf r).map (n.toNat.toUInt8 :: ·)
 |_::_=>none
def Ej(s:ByteArray):Ab:=s.data.toList.map fun b=>.sc (.int .u8 b.toNat)
def PS(P:Program)(rdf:Nat->Option Ab)(d:Nat)(src dst:TypeId)(x:PV)(K:PV->List (Nat × Bz)->Option R):Option R:=
 match P.underlying dst with
 |some (.int k)=>At (P.underlying src).isSome (Et x fun _ n=>Aa (k.wrap n) fun n=>K (.sc (.int k n)) [])
 |some .string=>
  match P.underlying src with
  |some .string=>Ez x fun s=>K (.sc (.string s)) []
  |some (.slice e)=>
   match P.underlying e with
   |some (.int .u8)=>Afp rdf 1 x fun n c=>At (decide (c.length=n)) (Gi (bytesOf c) fun b=>K (.sc (.string ⟨b.toArray⟩)) [])
   |_=>none
  |_=>none
 |some (.slice e)=>
  match P.underlying e,P.underlying src with
  |some (.int .u8),some .string=>Ez x fun s=>At (decide (s.size<=1099511627776)) (K (.view d 1 0 s.size) [(d,.ar false (Ej s))])
  |_,_=>none
 |_=>none
def Jq(p:Option PV)(dflt:Nat)(K:Nat->Option R):Option R:=
 match p with
 |none=>K dflt
 |some p=>Et p fun _ i=>At (decide (0<=i)) (K i.toNat)
def JM(P:Program)(rdf:Nat->Option Ab)(t:TypeId)(x:PV)(lo hi:Option PV)(K:PV->Option R):Option R:=
 match P.underlying t with
 |some .string=>Ez x fun s=>Jq lo 0 fun l=>Jq hi s.size fun h=>At (decide (l<=h)&&decide (h<=s.size)) (Aa (s.extract l h) fun s=>K (.sc (.string s)))
 |some (.slice e)=>At (P.info? e).isSome (
  match x with
  |.view id es off n=>At (Nat.beq es (Bm P e)) (Jq lo 0 fun l=>Jq hi n fun h=>At (decide (l<=h)&&decide (h<=n)) (Aa (off+l*es) fun o=>Aa (h-l) fun n=>K (.view id es o n)))
  |x=>M0 (Bm P e) x fun z n c=>Jq lo 0 fun l=>Jq hi n fun h=>At (decide (l<=h)&&decide (h<=n)) (Aa (h-l) fun n=>Aa ((c.drop (l*Bm P e)).take (n*Bm P e)) fun c=>K (.lst z (Bm P e) n c)))
 |some (.array n e)=>At (P.info? e).isSome (
  match x with
  |.ptr id off=>Gi (rdf id) fun c=>At (decide (1<=n*Bm P e)&&decide (off+n*Bm P e<=c.length))<|Jq lo 0 fun l=>Jq hi n fun h=>At (decide (l<=h)&&decide (h<=n)) (Aa (off+l*Bm P e) fun o=>Aa (h-l) fun n=>K (.view id (Bm P e) o n))
  |_=>none)
 |_=>none
def AV(P:Program)(d:Nat)(t:TypeId)(x:PV)(lo hi mx:Option PV)(K:PV->List (Nat × Bz)->Option R):Option R:=
 match P.underlying t with
 |some (.slice e)=>At ((P.info? e).isSome&&hi.isSome) (
  match x with
  |.view _ es _ n=>At (Nat.beq es (Bm P e)) (Jq lo 0 fun l=>Jq hi n fun h=>Jq mx n fun m=>At (Nat.beq l m&&Nat.beq h m&&decide (m<=n)) (K (.view d (Bm P e) 0 0) [(d,.ar false [])]))
  |x=>M0 (Bm P e) x fun _ n _=>Jq lo 0 fun l=>Jq hi n fun h=>Jq mx n fun m=>At (Nat.beq l m&&Nat.beq h m&&decide (m<=n)) (K (.view d (Bm P e) 0 0) [(d,.ar false [])]))
 |_=>none
def Zz(x:PV)(d:Nat)(K:PV->Option R):Option R:=
 match x with
 |.ptr id off=>K (.ptr id (off+d))
 |.iptr c off=>K (.iptr c (off+d))
 |_=>none
def RJ(P:Program)(e:TypeId):Bool:=(P.info? e).isSome
def V4(P:Program)(t:TypeId)(f:Nat):Option (Nat × TypeId):=
 match P.underlying t with
 |some (.struct fs)=>(fs[f]?).map fun g=>(g.offset,g.type)
 |_=>none
def Pa(P:Program)(t:TypeId)(x:PV)(i:Int)(K:PV->Option R):Option R:=
 match P.underlying t with
 |some (.array n e)=>At (RJ P e) (At (decide (0<=i)&&decide (i<n)) (Zz x (i.toNat*Bm P e) K))
 |some (.slice e)=>At (RJ P e) (
  match x with
  |.view id es off n=>At (Nat.beq es (Bm P e)) (At (decide (0<=i)&&decide (i<n)) (K (.ptr id (off+i.toNat*es))))
  |x=>M0 (Bm P e) x fun _ n c=>At (decide (0<=i)&&decide (i<n)) (K (.iptr c (i.toNat*Bm P e))))
 |_=>none
def RR(P:Program)(rdf:Nat->Option Ab)(t:TypeId)(x:PV)(K:PV->Option R):Option R:=
 match x with
 |.ptr id off=>At (M2 P t) (Gi (rdf id) fun c=>Vd (Lm P t) c off fun cs=>mkV (Cr P t) cs K)
 |.iptr c off=>At (M2 P t) (Zi (Lm P t) c off fun cs=>mkV (Cr P t) cs K)
 |_=>none
def YR:PV->PV
 |.lst _ es n c=>.lst false es n c
 |p=>p
def Aj8:PV->PV
 |.agg cs=>.agg (cs.map YR)
 |p=>YR p
def HR(P:Program)(rdf rdaf:Nat->Option Ab)(t:TypeId)(x:PV)(K:PV->Option R):Option R:=
 match x with
 |.ptr id off=>At (M2 P t) (
  match rdaf id with
  |some c=>Zi (Lm P t) c off fun cs=>mkV (Cr P t) cs fun v=>K (Aj8 v)
  |none=>Gi (rdf id) fun c=>Vd (Lm P t) c off fun cs=>mkV (Cr P t) cs K)
 |.iptr c off=>At (M2 P t) (Zi (Lm P t) c off fun cs=>mkV (Cr P t) cs fun v=>K (Aj8 v))
 |_=>none
def Bp(cells new:Ab)(off:Nat):Ab:=cells.take off++new++cells.drop (off+new.length)
def okP:PV->Bool
 |.agg _=>true
 |.lst _ _ _ _=>true
 |.view _ _ _ _=>true
 |.sc (.int _ _)=>true
 |.sc (.bool _)=>true
 |.sc (.string _)=>true
 |.sc (.slice none 0 0)=>true
 |_=>false
def AJ(J2:Nat->Option (Nat × Nat)):List (Nat × PV)->Ab->(Ab->Option R)->Option R
 |[],cells,K=>K cells
 |(i,p)::r,cells,K=>Gi (J2 i) fun q=>At (okP p&&Nat.beq (cellsOf p).length q.2&&Nat.ble (q.1+q.2) cells.length) (Aa (Bp cells (cellsOf p) q.1) fun cells=>AJ J2 r cells K)
def Xy(P:Program)(t:TypeId)(i:Nat):Option (Nat × Nat):=
 match P.underlying t with
 |some (.struct fs)=>(fs[i]?).map fun f=>(f.offset,Bm P f.type)
 |some (.array _ e)=>some (i*Bm P e,Bm P e)
 |some (.slice e)=>some (i*Bm P e,Bm P e)
 |_=>none
def V1(P:Program)(t:TypeId):Bool:=
 match P.underlying t with
 |some (.struct fs)=>fs.toList.all fun f=>RJ P f.type
 |some (.array _ e)=>RJ P e
 |some (.slice e)=>RJ P e
 |_=>false
def EJ(P:Program)(t:TypeId):Option Value:=(P.info? t).bind (·.zero)
def Jw(P:Program)(t:TypeId)(K:Ab->Option R):Option R:=
 Gi (EJ P t) fun v=>At (Nat.beq v.cells.toList.length (Lm P t).length&&M2 P t) (Zi (Lm P t) (v.cells.toList.map .sc) 0 K)
def Zm(P:Program)(t:TypeId):Bool:=
 match P.underlying t with
 |some (.array _ _)=>true
 |_=>false
def Aqz(P:Program)(t:TypeId)(cells:Ab):Bz:=bif Zm P t then .ar false cells else .st cells
def V5(n:Nat)(l:Ab):Ab:=(List.replicate n l).flatten
def Aso(a b:PV)(K:PV->Option R):Option R:=Et a fun k x=>A8 k b fun y=>Aa (if y<x then y else x) fun n=>K (.sc (.int k n))
def Att(a b:PV)(K:PV->Option R):Option R:=Et a fun k x=>A8 k b fun y=>Aa (if x<y then y else x) fun n=>K (.sc (.int k n))
def Alu(P:Program)(t:TypeId)(x:PV)(K:Nat->Option R):Option R:=
 match P.underlying t with
 |some .string=>Ez x fun s=>K s.size
 |some (.array n _)=>K n
 |some (.slice e)=>
  match x with
  |.view _ es _ n=>At (Nat.beq es (Bm P e)) (K n)
  |x=>M0 (Bm P e) x fun _ n _=>K n
 |_=>none
end
abbrev Bi:=FuncId->Ab->Option Dl
section
variable {R:Type}
def Nj(P:Program)(ts:List TypeId):Bool:=ts.any fun t=>(GB P t).isSome||(Lm P t).any fun c=>match c with | .sl _=>true|_=>false
def IW(P:Program)(t:TypeId)(tm:Nat->PV)(x:Operand)(K:PV->Option R):Option R:=
 match x with
 |.const v=>cvK P t v K
 |x=>K (Cv tm x)
def YO(P:Program)(e:TypeId):Bool:=
 match P.info? e with
 |some i=>(match i.zero with|some z=>Nat.beq z.cells.size i.size|none=>false)
 |none=>false
def Agp(P:Program)(rdaf:Nat->Option Ab)(es:Nat)(t:TypeId)(x:PV)(K:Nat->Ab->Option R):Option R:=
 match P.underlying t with
 |some .string=>At (Nat.beq es 1) (Ez x fun b=>K b.size (Ej b))
 |some (.slice _)=>Afp rdaf es x K
 |_=>none
abbrev Agy(P:Program)(s:St)(es:Nat)(t:TypeId)(x:PV)(K:Nat->Ab->Option R):Option R:=Agp P (Od s.hp) es t x K
def GU(c:Call):Bool:=
 match c.args.toList with
 |.const (.slice none 0 0)::_=>true
 |_=>false
def AW(P:Program)(rdaf:Nat->Option Ab)(d:Nat)(t tx:TypeId)(x:PV)(K:PV->List (Nat × Bz)->Option R):Option R:=
 match P.underlying t with
 |some (.slice e)=>At (YO P e) <|
  Agp P rdaf (Bm P e) tx x fun m new=>
   At (decide (new.length=m*Bm P e)&&decide (m*((P.info? e).map (·.bytes)).getD 0<=1099511627776)&&decide (m<=1099511627776)) (K (.view d (Bm P e) 0 m) [(d,.ar false new)])
 |_=>none
def Nq(k:Bool):List Operand->Ab->Ab
  |x::xs,p::ps=>
    (match x,p with
     |.const (.slice none 0 0),.lst z es 0 []=>.lst (k||z) es 0 []
     |_,p=>p)::Nq k xs ps
  |_,ps=>ps
def Alr(P:Program)(t:TypeId)(x:PV)(K:Nat->Option R):Option R:=
 match P.underlying t with
 |some (.slice e)=>M0 (Bm P e) x fun z _ _=>At z (K 0)
 |_=>none
def PH(P:Program)(f:FuncId)(c:Call):List TypeId:=
 match P.funcs[f]? with
 |some fn=>fn.params.toList
 |none=>c.argTypes.toList
def SQ(C:Jm)(P:Program)(N:Nat)(call:Bi)(tm:Nat->PV)(rdaf:Nat->Option Ab)(o:Oper)(c:Call)(f:FuncId)(K:PV->B5->List (Nat × Bz)->Option R):Option R:=
 QX P rdaf (PH P f c) (c.args.toList.map (Cv tm)) fun vs m=>
  Bk (call f (Nq (C.kz f) c.args.toList vs)) fun rv ro=>Aq ro (At (Nat.blt 0 N)<|LX P (C.shr f) N (o.dst.getD 0) (S9 P o.type) rv fun ws bs=>
   At (bif Us P o.type then !Nat.beq ws.length 1 else Nat.beq ws.length 1)<|K (Tb ws (Us P o.type)) (bif Nj P (S9 P o.type) then m else []) bs)
def RM(C:Jm)(P:Program)(N:Nat)(call:Bi)(tm:Nat->PV)(rdf rdaf:Nat->Option Ab)(o:Oper)(K:PV->B5->List (Nat × Bz)->Option R):Option R:=
  match o.op with
  |.move x=>IW P o.type tm x fun p=>K p [] []
  |.assign x=>IW P o.type tm x fun p=>K p [] []
  |.pick c a b=>Co (Cv tm c) fun t=>Bd t (K (Cv tm a) [] []) (K (Cv tm b) [] [])
  |.alloc t=>Gi o.dst fun d=>Jw P t fun cs=>K (.ptr d 0) [] [(d,Aqz P t cs)]
  |.box t x=>Gi o.dst fun d=>At (M2 P t&&Nat.beq (cellsOf (Cv tm x)).length (Lm P t).length)
      (bif Zm P t then Zi (Lm P t) (cellsOf (Cv tm x)) 0 fun cs=>K (.ptr d 0) [] [(d,.ar false cs)]
       else Vd (Lm P t) (cellsOf (Cv tm x)) 0 fun cs=>K (.ptr d 0) [] [(d,.st cs)])
  |.build t ps=>At (V1 P t&&Cr P t)<|Jw P t fun z=>AJ (Xy P t) (ps.toList.map fun q=>(q.1,Cv tm q.2)) z fun cs=>Vd (Lm P t) cs 0 fun cs'=>K (.agg cs') [] []
  |.buildSlice t n ps=>Gi o.dst fun d=>
      match P.underlying t with
      |some (.slice e)=>At (V1 P t&&Nat.ble (n*Bm P e) 16777216) (Jw P e fun z=>AJ (Xy P t) (ps.toList.map fun q=>(q.1,Cv tm q.2)) (V5 n z) fun cs=>
          Sv rdaf (List.replicate n (Lm P e)).flatten cs fun cs' m=>K (.view d (Bm P e) 0 n) m [(d,.ar false cs')])
      |_=>none
  |.load t a=>HR P rdf rdaf t (Cv tm a) fun v=>K v [] []
  |.nilCheck x=>Zz (Cv tm x) 0 fun p=>K p [] []
  |.binOp op t x y _=>
      AQ P op t (Cv tm x) (Cv tm y) fun v=>K v [] []
  |.unOp op _ x=>unK op (Cv tm x) fun v=>K v [] []
  |.convert src dst x=>PS P rdaf (o.dst.getD 0) src dst (Cv tm x) fun v b=>Gi o.dst fun _=>K v [] b
  |.makeSlice t l c=>Gi o.dst fun d=>
      match P.underlying t with
      |some (.slice e)=>Et (Cv tm l) fun _ n=>Et (Cv tm c) fun _ m=>
          At (decide (0<=n)&&decide (n<=m)&&decide (m*((P.info? e).map (·.bytes)).getD 0<=1099511627776)&&decide (m<=1099511627776))
            (Jw P e fun z=>K (.view d (Bm P e) 0 n.toNat) [] [(d,.ar false (V5 n.toNat z))])
      |_=>none
  |.slice t x lo hi mx=>
      match mx with
      |none=>JM P rdf t (Cv tm x) (lo.map (Cv tm)) (hi.map (Cv tm)) fun v=>K v [] []
      |some m=>Gi o.dst fun d=>AV P d t (Cv tm x) (lo.map (Cv tm)) (hi.map (Cv tm)) (some (Cv tm m)) fun v nw=>K v [] nw
  |.fieldAddr t x f=>Gi (V4 P t f) fun q=>At (Nat.ble 1 (Bm P q.2)) (Zz (Cv tm x) q.1 fun p=>K p [] [])
  |.field t x f=>Gi (V4 P t f) fun q=>At (M2 P q.2)<|D3 (Cv tm x) fun cs=>Vd (Lm P q.2) cs q.1 fun c=>mkV (Cr P q.2) c fun v=>K v [] []
  |.indexAddr t x i=>Et (Cv tm i) fun _ n=>Pa P t (Cv tm x) n fun p=>K p [] []
  |.index t x i=>Et (Cv tm i) fun _ n=>
      match P.underlying t with
      |some .string=>Ez (Cv tm x) fun s=>At (decide (0<=n)) (Gi (s.data.toList[n.toNat]?) fun b=>K (.sc (.int .u8 b.toNat)) [] [])
      |some (.array len e)=>D3 (Cv tm x) fun cs=>At (decide (0<=n)&&decide (n<len)&&M2 P e) (Vd (Lm P e) cs (n.toNat*Bm P e) fun c=>mkV (Cr P e) c fun v=>K v [] [])
      |_=>none
  |.extract x i=>
      match Cv tm x with
      |.tup vs=>Gi vs[i]? fun p=>K p [] []
      |_=>none
  |.call c=>
      match c.callee with
      |.builtin .len=>Av c.args.toList fun x _=>Av c.argTypes.toList fun t _=>Alu P t (Cv tm x) fun n=>K (.sc (.int .i64 n)) [] []
      |.builtin .cap=>Av c.args.toList fun x _=>Av c.argTypes.toList fun t _=>Alr P t (Cv tm x) fun n=>K (.sc (.int .i64 n)) [] []
      |.builtin .min=>Av c.args.toList fun x r=>Av r fun y r'=>Aq r' (Aso (Cv tm x) (Cv tm y) fun v=>K v [] [])
      |.builtin .max=>Av c.args.toList fun x r=>Av r fun y r'=>Aq r' (Att (Cv tm x) (Cv tm y) fun v=>K v [] [])
      |.builtin .append=>At (GU c) (Gi o.dst fun d=>Av c.args.toList fun _ r=>Av r fun x r'=>Aq r' (Av c.argTypes.toList fun t u=>Av u fun tx _=>AW P rdaf d t tx (Cv tm x) fun v nw=>K v [] nw))
      |.value (.func f)=>SQ C P N call tm rdaf o c f K
      |.value (.tmp t)=>fvK (tm t) fun f=>SQ C P N call tm rdaf o c f K
      |_=>none
  |_=>none
def Xx(C:Jm)(P:Program)(o:Op):Bool:=
 match o with
 |.store .. =>true
 |.call c=>
  match c.callee with
  |.builtin .append=> !GU c
  |.builtin .copy=>true
  |.builtin _=>false
  |.value (.func f)=>((PH P f c).any fun t=>(GB P t).isSome)||((PH P f c).zipIdx.any fun q=>C.mvd f q.2||C.lnd f q.2)
  |_=>false
 |_=>false
def Zy(b:Bz):Bz:=
 match b with
 |.ar _ c=>.ar true c
 |b=>b
def Ae(hp:Nat->Option Bz)(ids:B5):Nat->Option Bz:=fun i=>bif ids.any (Nat.beq i) then (hp i).map Zy else hp i
def A5(hp:Nat->Option Bz):List (Nat × Bz)->Nat->Option Bz
 |[]=>hp
 |(i,b)::r=>A5 (Db hp i (some b)) r
def Cl(hp:Nat->Option Bz):List (Nat × Bz)->Bool
 |[]=>true
 |(i,_)::r=>(hp i).isNone && !(r.any fun q=>Nat.beq q.1 i)&&Cl hp r
def Cd(tm:Nat->PV)(d:Option Tmp)(v:PV):Nat->PV:=
 match d with
 |some i=>Db tm i v
 |none=>tm
def I2(N:Nat)(d:Option Tmp):Bool:=
 match d with
 |some i=>Nat.blt i N
 |none=>true
def JN(N:Nat)(s:St)(d:Option Tmp)(v:PV)(fz:B5)(nw:List (Nat × Bz))(K:St->Option R):Option R:=
 At (I2 N d&&Cl s.hp nw) (K ⟨Cd s.tm d v,A5 (Ae s.hp fz) nw⟩)
def IZ(P:Program)(s:St)(t:TypeId)(a x:PV)(K:St->Option R):Option R:=
 match a with
 |.ptr id off=>
  match s.hp id with
  |some (.st c)=>At (M2 P t&&Nat.beq (cellsOf x).length (Lm P t).length&&decide (off+(Lm P t).length<=c.length)) (Vd (Lm P t) (cellsOf x) 0 fun cs=>Aa (Bp c cs off) fun c=>K ⟨s.tm,Db s.hp id (some (.st c))⟩)
  |some (.ar false c)=>At (M2 P t&&decide (off+(Lm P t).length<=c.length)) (Sv (Od s.hp) (Lm P t) (cellsOf x) fun cs m=>At (!m.any (Nat.beq id)) (Aa (Bp c cs off) fun c=>K ⟨s.tm,Db (Ae s.hp m) id (some (.ar false c))⟩))
  |_=>none
 |_=>none
def GP(P:Program)(t:TypeId):Bool:=
 match P.underlying t with
 |some (.int _)=>true
 |_=>false
def Y7(P:Program)(N:Nat)(s:St)(d:Nat)(e:TypeId)(b x:PV)(K:St->Option R):Option R:=
 Et x fun _ n=>M0 (Bm P e) b fun z _ _=>
  At (z&&Nat.blt d N&&(s.hp d).isNone&&decide (0<=n)&&decide (n.toNat*((P.info? e).map (·.bytes)).getD 0<=1099511627776)&&decide (n<=1099511627776))
   (K ⟨Db s.tm d (.view d (Bm P e) 0 n.toNat),Db s.hp d (some (.ar false []))⟩)
def Ty(P:Program)(N:Nat)(s:St)(d:Nat)(t tx:TypeId)(b x:PV)(K:St->Option R):Option R:=
 match P.underlying t with
 |some (.slice e)=>At (YO P e) <|
  bif GP P tx then Y7 P N s d e b x K else
  Agy P s (Bm P e) tx x fun m new=>
  match b with
  |.view id es off n=>
   match s.hp id with
   |some (.ar false c)=>
    At (Nat.beq es (Bm P e)&&Nat.beq off 0&&Nat.blt d N&&(s.hp d).isNone&&decide (n*es<=c.length)&&decide (new.length=m*es)
     && decide ((n+m)*((P.info? e).map (·.bytes)).getD 0<=1099511627776)&&decide (n+m<=1099511627776))
     (Aa (n+m) fun n'=>Aa (c.take (n*es)++new) fun c=>K ⟨Db s.tm d (.view d es 0 n'),Db (Db s.hp id (some .mv)) d (some (.ar false c))⟩)
   |_=>none
  |b=>M0 (Bm P e) b fun z _ _=>
    At (z&&Nat.blt d N&&(s.hp d).isNone&&decide (new.length=m*Bm P e)&&decide (m*((P.info? e).map (·.bytes)).getD 0<=1099511627776)&&decide (m<=1099511627776))
     (K ⟨Db s.tm d (.view d (Bm P e) 0 m),Db s.hp d (some (.ar false new))⟩)
 |_=>none
def XU(P:Program)(N:Nat)(s:St)(d:Option Tmp)(t tx:TypeId)(b x:PV)(K:St->Option R):Option R:=
 match P.underlying t with
 |some (.slice e)=>At (RJ P e&&I2 N d) <|
  Agy P s (Bm P e) tx x fun m new=>
  match b with
  |.view id es off n=>
   match s.hp id with
   |some (.ar false c)=>At (Nat.beq es (Bm P e)&&decide (off+n*es<=c.length)&&decide (new.length=m*es))
     (Aa (min m n) fun k=>Aa (Bp c (new.take (k*es)) off) fun c=>K ⟨Cd s.tm d (.sc (.int .i64 k)),Db s.hp id (some (.ar false c))⟩)
   |_=>none
  |_=>none
 |_=>none
def Aj4(mv:Bool)(hp:Nat->Option Bz)(t:CT)(p:PV)(K:PV->B5->B5->Option R):Option R:=
 match t with
 |.sl es=>
  bif mv then
   match p with
   |.view id es' off n=>
    match hp id with
    |some (.ar false c)=>
     bif Nat.beq es' es&&Nat.beq off 0 then At (decide (n*es<=c.length)) (K (.own es n (c.take (n*es))) [] [id])
     else Tq (Od hp) (.sl es) (.view id es' off n) fun c m=>K c m []
    |_=>Tq (Od hp) (.sl es) (.view id es' off n) fun c m=>K c m []
   |p=>M0 es p fun z n c=>bif z then K (.own es 0 []) [] [] else K (.lst false es n c) [] []
  else Tq (Od hp) (.sl es) p fun c m=>K c m []
 |t=>KH t p fun c=>K c [] []
def MF(mv:Bool)(hp:Nat->Option Bz):List CT->Ab->(Ab->B5->B5->Option R)->Option R
 |[],[],K=>K [] [] []
 |t::ts,p::ps,K=>Aj4 mv hp t p fun c m x=>MF mv hp ts ps fun cs ms xs=>K (c::cs) (m++ms) (x++xs)
 |_,_,_=>none
inductive Jp where
 |var (id off:Nat) (cts:List CT) (ws:Ab)
 |row (id:Nat)
 |none
def Jp.ids:Jp->B5
 |.var id _ _ _=>[id]
 |.row id=>[id]
 |.none=>[]
def A4a(P:Program)(t:TypeId):Option TypeId:=
 match P.underlying t with
 |some (.slice e)=>some e
 |_=>none
def Apm(hp:Nat->Option Bz)(es:Nat)(p:PV)(K:PV->List Jp->Option R):Option R:=
 match p with
 |.view id es' off n=>
  match hp id with
  |some (.ar false c)=>At (Nat.beq es' es&&Nat.beq off 0) (K (.tup [.own es n c]) [.row id])
  |_=>none
 |p=>M0 es p fun z _ _=>At z (K (.tup [.own es 0 []]) [.none])
def KK(C:Jm)(P:Program)(f:FuncId)(hp:Nat->Option Bz)(i:Nat)(t:TypeId)(p:PV)(K:PV->B5->B5->List Jp->Option R):Option R:=
 match GB P t with
 |some e=>
  match p with
  |.ptr id off=>
   match hp id with
   |some (.st c)=>At (M2 P e&&decide (off+(Lm P e).length<=c.length)) (MF (C.mvd f i) hp (Lm P e) ((c.drop off).take (Lm P e).length) fun cs m x=>K (.pbox cs) m x [.var id off (Lm P e) cs])
   |_=>none
  |_=>none
 |none=>
  bif C.lnd f i then Gi (A4a P t) fun e=>Apm hp (Bm P e) p fun v l=>K v [] [] l
  else bif Cr P t then D3 p fun ps=>MF (C.mvd f i) hp (Lm P t) ps fun cs m x=>K (.agg cs) m x []
  else MF (C.mvd f i) hp (Lm P t) [p] fun cs m x=>Av cs fun c r=>Aq r (K c m x [])
def XI(C:Jm)(P:Program)(f:FuncId)(hp:Nat->Option Bz):Nat->List TypeId->Ab->(Ab->B5->B5->List Jp->Option R)->Option R
 |_,[],[],K=>K [] [] [] []
 |i,t::ts,p::ps,K=>KK C P f hp i t p fun v m x l=>XI C P f hp (i+1) ts ps fun vs ms xs ls=>K (v::vs) (m++ms) (x++xs) (l++ls)
 |_,_,_,_=>none
def AH(hp:Nat->Option Bz)(ids:B5):Nat->Option Bz:=fun i=>bif ids.any (Nat.beq i) then (hp i).map (fun _=>Bz.mv) else hp i
def nid(N t:Nat):Nat:=N*(1000+t)
def Adk(N:Nat)(hp:Nat->Option Bz):Nat->Nat->Nat
 |0,t=>t
 |k+1,t=>bif (hp (nid N t)).isNone then t else Adk N hp k (t+1)
def Amp(N t:Nat)(ct:CT)(was p:PV)(K:Nat->PV->List (Nat × Bz)->Option R):Option R:=
 match ct with
 |.sl es=>
  match was with
  |.own _ _ _=>Kn es p fun n c=>K (t+1) (.view (nid N t) es 0 n) [(nid N t,.ar false c)]
  |_=>M0 es p fun _ n c=>K t (.lst false es n c) []
 |ct=>KH ct p fun c=>K t c []
def VR(N:Nat):Nat->List CT->Ab->Ab->(Nat->Ab->List (Nat × Bz)->Option R)->Option R
 |t,[],[],ps,K=>Aq ps (K t [] [])
 |t,ct::cts,w::ws,ps,K=>Av ps fun p ps=>Amp N t ct w p fun t' c b=>VR N t' cts ws ps fun t'' cs bs=>K t'' (c::cs) (b++bs)
 |_,_,_,_,_=>none
def FF(N:Nat):Nat->List Jp->List Ab->(Nat->Option Bz)->((Nat->Option Bz)->List (Nat × Bz)->Option R)->Option R
 |_,[],ro,hp,K=>Aq ro (K hp [])
 |t,.var id off cts ws::l,ro,hp,K=>Av ro fun cs ro=>VR N t cts ws cs fun t' cs' bs=>
   match hp id with
   |some (.st c)=>Aa (Bp c cs' off) fun c=>FF N t' l ro (Db hp id (some (.st c))) fun C5 bs'=>K C5 (bs++bs')
   |_=>none
 |t,.row id::l,ro,hp,K=>Av ro fun cs ro=>FF N t l ro (Db hp id (some (.ar false cs))) K
 |t,.none::l,ro,hp,K=>Av ro fun _ ro=>FF N t l ro hp K
def Ft:B5->Bool
 |[]=>true
 |a::r=> !(r.any (Nat.beq a))&&Ft r
def JX(C:Jm)(P:Program)(N:Nat)(call:Bi)(s:St)(o:Oper)(f:FuncId)(c:Call)(K:St->Option R):Option R:=
 XI C P f s.hp 0 (PH P f c) (c.args.toList.map (Cv s.tm)) fun vs m x l=>
  At (Ft (l.flatMap Jp.ids++x)&&m.all (fun i=> !((l.flatMap Jp.ids++x).any (Nat.beq i)))&&Nat.blt 0 N&&I2 N o.dst) <|
  Bk (call f (Nq (C.kz f) c.args.toList vs)) fun rv ro=>
   LX P (C.shr f) N (o.dst.getD N) (S9 P o.type) rv fun ws bs=>
    At (bif Us P o.type then !Nat.beq ws.length 1 else Nat.beq ws.length 1) <|
    A64 (Adk N s.hp 100 0) fun t0=>FF N t0 l ro (AH (Ae s.hp m) x) fun C5 bs'=>
     At (Cl C5 (bs++bs')) (K ⟨Cd s.tm o.dst (Tb ws (Us P o.type)),A5 C5 (bs++bs')⟩)
def CJ(C:Jm)(P:Program)(N:Nat)(call:Bi)(s:St)(o:Oper)(K:St->Option R):Option R:=
 match o.op with
 |.store t a x=>At (o.dst.isNone) (IZ P s t (Cv s.tm a) (Cv s.tm x) K)
 |.call c=>
  match c.callee with
  |.builtin .append=>Gi o.dst fun d=>Av c.args.toList fun b r=>Av r fun x r'=>Aq r' (Av c.argTypes.toList fun t u=>Av u fun tx _=>Ty P N s d t tx (Cv s.tm b) (Cv s.tm x) K)
  |.builtin .copy=>Av c.args.toList fun b r=>Av r fun x r'=>Aq r' (Av c.argTypes.toList fun t u=>Av u fun tx _=>XU P N s o.dst t tx (Cv s.tm b) (Cv s.tm x) K)
  |.value (.func f)=>JX C P N call s o f c K
  |_=>none
 |_=>none
def Ad0(C:Jm)(P:Program)(N:Nat)(call:Bi)(o:Oper)(s:St)(K:St->Option R):Option R:=
 bif Xx C P o.op then CJ C P N call s o K
 else RM C P N call s.tm (rd s.hp) (Od s.hp) o fun v fz nw=>JN N s o.dst v fz nw K
def Em(C:Jm)(P:Program)(N:Nat)(call:Bi)(ops:Array Oper)(o:Oper)(s:St)(K:St->Option R):Option R:=
 match o.guard with
 |none=>Ad0 C P N call o s K
 |some (j,want)=>
  match (ops[j]?).bind (·.dst) with
  |none=>none
  |some d=>
   match s.tm d with
   |.sc (.bool b)=>
    Bd b (bif want then Ad0 C P N call o ⟨Db s.tm d (.sc (.bool true)),s.hp⟩ K else At (I2 N o.dst) (K ⟨Cd (Db s.tm d (.sc (.bool true))) o.dst (.sc undef),s.hp⟩))
     (bif want then At (I2 N o.dst) (K ⟨Cd (Db s.tm d (.sc (.bool false))) o.dst (.sc undef),s.hp⟩) else Ad0 C P N call o ⟨Db s.tm d (.sc (.bool false)),s.hp⟩ K)
   |.sc (.tuple _)=>At (I2 N o.dst) (K ⟨Cd s.tm o.dst (.sc undef),s.hp⟩)
   |_=>none
def Tj(C:Jm)(P:Program)(N:Nat)(call:Bi)(ops:Array Oper):List Oper->St->(St->Option R)->Option R
 |[],s,K=>K s
 |o::r,s,K=>Em C P N call ops o s fun s'=>Tj C P N call ops r s' K
def Ym(x y:Option R):Option R:=open Classical in if x=y then x else none
def Agv(ops:Array Oper)(o:Oper)(s:St)(F:St->Option R):Option R:=
 match o.guard with
 |none=>F s
 |some (j,_)=>
  match (ops[j]?).bind (·.dst) with
  |none=>F s
  |some d=>
   match s.tm d with
   |.ub=>Ym (F ⟨Db s.tm d (.sc (.bool true)),s.hp⟩) (F ⟨Db s.tm d (.sc (.bool false)),s.hp⟩)
   |_=>F s
def Lj(C:Jm)(P:Program)(N:Nat)(call:Bi)(ops:Array Oper):List Oper->St->(St->Option R)->Option R
 |[],s,K=>K s
 |o::r,s,K=>Agv ops o s fun s1=>Em C P N call ops o s1 fun s'=>Lj C P N call ops r s' K
end
def Aq9(o:Oper):B5:=o.op.operands.toList.filterMap fun x=>match x with | .tmp t=>some t|_=>none
def looks(ops:Array Oper)(o:Oper):B5:=
 Aq9 o++(match o.guard with|some (g,_)=>((ops[g]?).bind (·.dst)).toList|none=>[])
def K0(P:Program)(o:Op):Bool:=
 match o with
 |.slice t .. =>match P.underlying t with|some (.array _ _)=>true|_=>false
 |.buildSlice t _ _=>match P.underlying t with|some (.slice e)=>Nj P [e]|_=>true
 |.convert _ dst _=>match P.underlying dst with|some .string=>true|_=>false
 |.alloc _ | .box .. | .makeSlice .. =>false
 |.move _ | .assign _ | .pick .. | .build .. | .binOp .. | .unOp .. | .fieldAddr .. | .field .. | .index .. | .indexAddr .. | .extract .. | .nilCheck _=>false
 |.call c=>match c.callee with | .builtin .len=>false | .builtin .min=>false | .builtin .max=>false|_=>true
 |_=>true
def OU(C:Jm)(P:Program)(ops:Array Oper)(x y:Oper):Bool:=
 (match x.dst with|some d=>(looks ops y).any (Nat.beq d)||(match y.dst with|some e=>Nat.beq d e|none=>false)|none=>false) ||
 (match y.dst with|some e=>(looks ops x).any (Nat.beq e)|none=>false) ||
 (Xx C P x.op&&K0 P y.op)||(Xx C P y.op&&K0 P x.op)
def Lz(ops:List Oper):B5->B5
 |acc=>match ops with
  |[]=>acc
  |o::r=>Lz r (acc++[o.after.toList.foldl (fun s e=>bif Region.binds .any e then s ||| 2 ^ e.on ||| acc.getD e.on 0 else s) 0])
def OO(C:Jm)(P:Program)(ops:Array Oper)(bs:B5):List Oper->Nat->Bool
 |[],_=>true
 |o::r,i=>(ops.toList.zipIdx.all fun q=> !Nat.blt q.2 i || !OU C P ops q.1 o||(bs.getD i 0).testBit q.2)&&OO C P ops bs r (i+1)
def QY(C:Jm)(P:Program)(ops:Array Oper):Bool:=
 ops.toList.zipIdx.all (fun q=>q.1.after.toList.all fun e=> !Region.binds .any e||Nat.blt e.on q.2)&&OO C P ops (Lz ops.toList []) ops.toList 0
def Aw:PV->B5
 |.view id _ _ _=>[id]
 |.ptr id _=>[id]
 |_=>[]
def Cn:PV->B5
 |.agg cs=>cs.flatMap Aw
 |p=>Aw p
def Cc:PV->B5
 |.tup ps=>ps.flatMap Cn
 |p=>Cn p
def Zl(P:Program)(o:Op):Bool:=
 match o with
 |.load .. =>true
 |.convert _ dst _=>(match P.underlying dst with|some .string=>true|_=>false)
 |_=>false
def S6(o:Op):Bool:=
 match o with
 |.call c=>(match c.callee with | .builtin .append=> !GU c|_=>false)
 |_=>false
def Ap2(ops:Array Oper)(x y:Oper):Bool:=
 (match x.dst with|some d=>(looks ops y).any (Nat.beq d)||(match y.dst with|some e=>Nat.beq d e|none=>false)|none=>false) ||
 (match y.dst with|some e=>(looks ops x).any (Nat.beq e)|none=>false)
def Xk(C:Jm)(P:Program)(x y:Oper):Bool:=(Xx C P x.op&&K0 P y.op)||(Xx C P y.op&&K0 P x.op)
def Oj(C:Jm)(P:Program)(x y:Oper):Bool:=(Xx C P x.op&&Zl P y.op)||(Xx C P y.op&&Zl P x.op)||(S6 x.op&&S6 y.op)
def Aqh(C:Jm)(P:Program)(ops:Array Oper)(x y:Oper):Bool:=Ap2 ops x y||(Xk C P x y && !Oj C P x y)
def GE(C:Jm)(P:Program)(ops:Array Oper)(bs:B5):List Oper->Nat->Bool
 |[],_=>true
 |o::r,i=>(ops.toList.zipIdx.all fun q=> !Nat.blt q.2 i || !Aqh C P ops q.1 o||(bs.getD i 0).testBit q.2)&&GE C P ops bs r (i+1)
def SG(C:Jm)(P:Program)(ops:Array Oper):Bool:=
 ops.toList.zipIdx.all (fun q=>q.1.after.toList.all fun e=> !Region.binds .any e||Nat.blt e.on q.2)&&GE C P ops (Lz ops.toList []) ops.toList 0
def Qy(C:Jm)(P:Program)(s:St)(o:Oper):B5:=
 let l:=o.op.operands.toList.flatMap fun y=>Cc (Cv s.tm y)
 bif Xx C P o.op && !S6 o.op then l++l.flatMap (fun i=>match s.hp i with|some (.st c)=>c.flatMap Aw|_=>[])
 else bif Zl P o.op||S6 o.op then l else []
def Akb(a b:B5):Bool:=a.all fun i=> !b.any (Nat.beq i)
def GC(C:Jm)(P:Program)(ops:Array Oper)(bs:B5)(i:Nat)(o:Oper):B5:=
 (ops.toList.zipIdx.filter fun q=>Oj C P q.1 o && !(Nat.blt q.2 i&&(bs.getD i 0).testBit q.2) && !(Nat.blt i q.2&&(bs.getD q.2 0).testBit i)).map (·.2)
def KW(C:Jm)(P:Program)(ops:Array Oper)(bs:B5):List B5:=ops.toList.zipIdx.map fun q=>GC C P ops bs q.2 q.1
def NP(C:Jm)(P:Program)(sm:List B5)(s:St)(i:Nat)(o:Oper):B5:=
 match sm.getD i [] with
 |[]=>[]
 |_::_=>Qy C P s o
def UV(C:Jm)(P:Program)(sm:List B5)(s:St)(i:Nat)(o:Oper)(q:Nat × Oper × B5):Bool:=
 !((sm.getD i []).any (Nat.beq q.1))||Akb q.2.2 (NP C P sm s i o)
def Lh{R:Type}(C:Jm)(P:Program)(N:Nat)(call:Bi)(ops:Array Oper)(sm:List B5):List (Nat × Oper × B5)->B5->St->(St->Option R)->Option R
 |_,[],s,K=>K s
 |dn,i::l,s,K=>Gi ops[i]? fun o=>At (dn.all (UV C P sm s i o)&&(NP C P sm s i o).all (fun k=>(s.hp k).isSome)) (Em C P N call ops o s fun s'=>Lh C P N call ops sm ((i,o,NP C P sm s i o)::dn) l s' K)
def Ar4(m i:Nat):Nat:=m ||| 2 ^ i
def A6j(m i:Nat):Nat:=bif m.testBit i then m ^^^ 2 ^ i else m
def Aid(ops:Array Oper):List Oper->Nat->Nat
 |[],m=>m
 |o::r,m=>
  let m1:=Aid ops r m
  let m2:=match o.dst with|some d=>A6j m1 d|none=>m1
  (looks ops o).foldl Ar4 m2
def To:Code->Nat->(Nat->Nat)->Nat->Nat
 |.skip,ln,_,_=>ln
 |.region _ ops _,ln,_,_=>Aid ops ops.toList ln
 |.seq a b,ln,lx,lr=>To a (To b ln lx lr) lx lr
 |.cond c a b,ln,lx,lr=>let m:=To a ln lx lr ||| To b ln lx lr;match c with | .tmp d=>Ar4 m d|_=>m
 |.block id c,ln,lx,lr=>To c ln (fun j=>bif Nat.beq j id then ln else lx j) lr
 |.loop c,_,lx,lr=>To c (To c 0 lx lr) lx lr
 |.exit id,_,lx,_=>lx id
 |.ret,_,_,lr=>lr
 |_,_,_,_=>0
def Arz(ops:List Oper):B5:=(ops.filterMap fun o=>o.guard.map (·.1)).eraseDups
def R8:Code->Nat
 |.region _ _ _=>1
 |.seq a b=>R8 a+R8 b
 |.cond _ a b=>R8 a+R8 b
 |.block _ c=>R8 c
 |.loop c=>R8 c
 |_=>0
def NE:Code->Nat
 |.skip=>1
 |.region _ ops _=>2 ^ min 6 (Arz ops.toList).length
 |.seq a b=>bif (Nat.ble 7 (NE a)&&Nat.ble 6 (R8 b))||(Nat.ble 5 (NE a)&&Nat.ble 9 (R8 b)) then NE b else min 1000 (NE a*NE b)
 |.cond _ a b=>NE a+NE b
 |.block _ c=>NE c
 |.loop _=>1
 |.exit _=>1
 |_=>0
def Axb(P:Program)(o:Oper):Bool:=
 match o.op with
 |.load t _=>Zm P t&&Nat.ble 8 (Bm P t)
 |.store t _ _=>Zm P t&&Nat.ble 8 (Bm P t)
 |_=>false
def Acc(P:Program):Code->Bool
 |.region _ ops _=>ops.toList.any (Axb P)
 |.seq a _=>Acc P a
 |_=>false
def Ahv(P:Program):Code->Bool
 |.region _ ops _=>ops.toList.any (Axb P)
 |.seq _ b=>Ahv P b
 |_=>false
def Ani(x y:Code):Bool:=(Nat.beq (NE x) 4&&Nat.beq (R8 x) 7&&(Nat.beq (R8 y) 3||Nat.beq (R8 y) 1))||(Nat.beq (NE x) 9&&Nat.beq (R8 x) 5&&Nat.beq (R8 y) 5)
def GR(a b:Code):Bool:=Ani a b||(match b with | .seq x y=>Ani x y|_=>false)
def Ah8(P:Program)(a b:Code):Bool:=(Nat.ble 7 (NE a)&&Nat.ble 6 (R8 b))||(Nat.ble 5 (NE a)&&Nat.ble 9 (R8 b))||GR a b||Acc P b||Ahv P a
def Qo(m:Nat):Nat->B5
 |0=>[]
 |n+1=>Qo m n++(bif m.testBit n then [n] else [])
def lk(l:List (Nat × PV))(i:Nat):PV:=
 match l with
 |[]=>.top
 |(j,p)::r=>bif Nat.beq i j then p else lk r i
def Bq(l:List (Nat × Bz))(i:Nat):Option Bz:=
 match l with
 |[]=>none
 |(j,b)::r=>bif Nat.beq i j then some b else Bq r i
def BP(l:List (Nat × Nat))(i:Nat):Option Nat:=
 match l with
 |[]=>none
 |(j,b)::r=>bif Nat.beq i j then some b else BP r i
def OL(N:Nat)(s:St)(i:Nat):St:=
 match s.tm i with
 |.lst true es 0 []=>
  bif (s.hp i).isNone then ⟨Db s.tm i (.view i es 0 0),Db s.hp i (some (.ar false []))⟩
  else bif (s.hp (i+N*3000)).isNone then ⟨Db s.tm i (.view (i+N*3000) es 0 0),Db s.hp (i+N*3000) (some (.ar false []))⟩
  else s
 |_=>s
def Aag(N:Nat)(id:Nat)(s:St)(j:Nat):St:=
 match s.hp id with
 |some (.st c)=>
  match c[j]? with
  |some (.lst true es 0 [])=>bif (s.hp (id+N*(j+1))).isNone then ⟨s.tm,Db (Db s.hp id (some (.st (c.set j (.view (id+N*(j+1)) es 0 0))))) (id+N*(j+1)) (some (.ar false []))⟩ else s
  |_=>s
 |_=>s
def YV(N:Nat)(s:St)(i:Nat):St:=
 match s.tm i with
 |.ptr id _=>
  match s.hp id with
  |some (.st c)=>(List.range c.length).foldl (Aag N id) s
  |_=>s
 |_=>s
def WO(m:List (Nat × Nat))(old new:Nat):List (Nat × Nat):=
 match BP m old with
 |some _=>m
 |none=>m++[(old,new)]
def Xw(N new:Nat):Ab->Nat->List (Nat × Nat)->List (Nat × Nat)
 |[],_,m=>m
 |.view id _ _ _::r,j,m=>Xw N new r (j+1) (WO m id (new+N*(j+1)))
 |_::r,j,m=>Xw N new r (j+1) m
def OE(N:Nat)(s:St)(m:List (Nat × Nat))(i:Nat):List (Nat × Nat):=
 match s.tm i with
 |.view id _ _ _=>WO m id i
 |.ptr id _=>
  match BP m id with
  |some _=>m
  |none=>
   match s.hp id with
   |some (.st c)=>Xw N i c 0 (WO m id i)
   |_=>WO m id i
 |.agg c=>Xw N i c 0 m
 |_=>m
def Ahe(m:List (Nat × Nat)):PV->PV
 |.view id es off n=>match BP m id with|some j=>.view j es off n|none=>.top
 |.ptr id off=>match BP m id with|some j=>.ptr j off|none=>.top
 |.sc v=>.sc v
 |.lst z es n c=>.lst z es n c
 |.iptr c off=>.iptr c off
 |_=>.top
def Amn(m:List (Nat × Nat)):PV->PV
 |.agg c=>.agg (c.map (Ahe m))
 |p=>Ahe m p
def Au4(m:List (Nat × Nat)):Bz->Bz
 |.st c=>.st (c.map (Ahe m))
 |b=>b
def Dm(N i:Nat):Nat:=i+N*2000
def Ady(N:Nat)(hp:Nat->Option Bz):Nat->List (Nat × Nat)
 |0=>[]
 |i+1=>bif (hp (Dm N i)).isSome then Ady N hp i++[(Dm N i,Dm N i)] else Ady N hp i
def Z6(N:Nat)(hp:Nat->Option Bz):Nat->List (Nat × Nat)->List (Nat × Nat)
 |0,m=>m
 |i+1,m=>
  match hp (Dm N i) with
  |some (.st c)=>Xw N (Dm N i) c 0 (Z6 N hp i m)
  |_=>Z6 N hp i m
def A6u(N:Nat)(hp:Nat->Option Bz)(k:Nat):List (Nat × Nat):=Z6 N hp k (Ady N hp k)
def Q4(m:List (Nat × Nat))(hp:Nat->Option Bz):List (Nat × Nat)->List (Nat × Bz)
 |[]=>[]
 |(old,new)::r=>match hp old with
  |some b=>(new,Au4 m b)::Q4 m hp r
  |none=>Q4 m hp r
section
variable {R:Type}
def Ajd(N:Nat)(ls:B5)(q:Bool)(s:St)(K:St->Option R):Option R:=
 let s2:=bif q then s else ls.foldl (YV N) (ls.foldl (OL N) s)
 let m:=ls.foldl (OE N s2) (A6u N s2.hp 8)
 At (Ft (m.map (·.1))&&Ft (m.map (·.2))) (K ⟨lk (ls.map fun i=>(i,Amn m (s2.tm i))),Bq (Q4 m s2.hp m)⟩)
def Jg(N L:Nat)(s:St)(K:St->Option R):Option R:=Ajd N (Qo L N) false s K
def Ad5(N L:Nat)(s:St)(K:St->Option R):Option R:=Ajd N (Qo L N) true s K
def UI(F:(St->Option R)->St->Option R)(nm:St->(St->Option R)->Option R):Nat->St->Option R
 |0,_=>none
 |n+1,s=>F (fun s'=>nm s' (UI F nm n)) s
def SV(n:Nat)(F:St->Option R)(s:St):Option R:=
 match n with
 |0=>none
 |_+1=>F s
def Aqp(s:St)(c:Operand)(kt kf:St->Option R):Option R:=
 match c with
 |.tmp d=>
  match s.tm d with
  |.sc (.bool b)=>Bd b (kt ⟨Db s.tm d (.sc (.bool true)),s.hp⟩) (kf ⟨Db s.tm d (.sc (.bool false)),s.hp⟩)
  |.ub=>Ym (kt s) (kf s)
  |_=>none
 |.const (.bool true)=>kt s
 |.const (.bool false)=>kf s
 |_=>none
def Nf(C:Jm)(P:Program)(fu N:Nat)(call:Bi):Code->Nat->(Nat->Nat)->Nat->(St->Option R)->(Nat->St->Option R)->(St->Option R)->St->Option R
 |.skip,_,_,_,kn,_,_,s=>kn s
 |.region _ ops draw,_,_,_,kn,_,_,s=>UM (draw && !QY C P ops) (At (SG C P ops) (Ar2 (KW C P ops (Lz ops.toList [])) fun sm=>Lh C P N call ops sm [] (List.range ops.size) s kn)) (UM draw (Tj C P N call ops ops.toList s kn) (Lj C P N call ops ops.toList s kn))
 |.seq a b,ln,lx,lr,kn,kx,kr,s=>Nf C P fu N call a (To b ln lx lr) lx lr (fun s'=>UM (Ah8 P a b) (UM (GR a b) (Ad5 N (To b ln lx lr) s' (SV fu fun s''=>Nf C P fu N call b ln lx lr kn kx kr s'')) (Jg N (To b ln lx lr) s' (SV fu fun s''=>Nf C P fu N call b ln lx lr kn kx kr s''))) (Nf C P fu N call b ln lx lr kn kx kr s')) kx kr s
 |.cond c a b,ln,lx,lr,kn,kx,kr,s=>Aqp s c (Nf C P fu N call a ln lx lr kn kx kr) (Nf C P fu N call b ln lx lr kn kx kr)
 |.block id c,ln,lx,lr,kn,kx,kr,s=>Nf C P fu N call c ln (fun j=>bif Nat.beq j id then ln else lx j) lr kn (fun j s'=>bif Nat.beq j id then kn s' else kx j s') kr s
 |.loop c,ln,lx,lr,_,kx,kr,s=>
  Jg N (To (.loop c) ln lx lr) s (UI (fun k s'=>Nf C P fu N call c (To (.loop c) ln lx lr) lx lr k kx kr s') (Jg N (To (.loop c) ln lx lr)) fu)
 |.exit id,_,_,_,_,kx,_,s=>kx id s
 |.ret,_,_,_,_,_,kr,s=>kr s
 |_,_,_,_,_,_,_,_=>none
def An5(id:Nat)(t:CT)(p:PV)(K:PV->List (Nat × Bz)->Option R):Option R:=
 match t with
 |.sl es=>
  match p with
  |.own es' n c=>bif Nat.beq es' es then K (.view id es 0 n) [(id,.ar false c)] else none
  |p=>M0 es p fun z n c=>K (.lst z es n c) []
 |t=>KH t p fun c=>K c []
def KU(N:Nat):Nat->List CT->Ab->(Ab->List (Nat × Bz)->Option R)->Option R
 |_,[],ps,K=>Aq ps (K [] [])
 |id,t::ts,ps,K=>Av ps fun p ps=>An5 id t p fun c b=>KU N (id+N) ts ps fun cs bs=>K (c::cs) (b++bs)
def inK(P:Program)(N i:Nat)(t:TypeId)(p:PV)(K:PV->List (Nat × Bz)->Option R):Option R:=
 match GB P t with
 |some e=>DB p fun ps=>At (Nat.blt i 8) (KU N (Dm N i+N) (Lm P e) ps fun cs bs=>K (.ptr (Dm N i) 0) ((Dm N i,.st cs)::bs))
 |none=>
  match p with
  |.tup ps=>Gi (A4a P t) fun e=>At (Nat.blt i 8) (Av ps fun q r=>Aq r (Kn (Bm P e) q fun n c=>K (.view (Dm N i) (Bm P e) 0 n) [(Dm N i,.ar false c)]))
  |p=>
   bif Cr P t then D3 p fun ps=>KU N (i+N) (Lm P t) ps fun cs bs=>K (.agg cs) bs
   else KU N (i+N) (Lm P t) [p] fun cs bs=>Av cs fun c r=>Aq r (K c bs)
def Afx(P:Program)(N:Nat):Nat->List TypeId->Ab->(List (Nat × PV)->List (Nat × Bz)->Option R)->Option R
 |_,[],ps,K=>Aq ps (K [] [])
 |i,t::ts,ps,K=>Av ps fun p ps=>inK P N i t p fun v bs=>Afx P N (i+1) ts ps fun vs bs'=>K ((i,v)::vs) (bs++bs')
def Av3(hp:Nat->Option Bz)(t:CT)(p:PV)(K:PV->B5->B5->Option R):Option R:=
  match t with
  |.sl es=>
    match p with
    |.view id es' off n=>bif Nat.beq es' es&&Nat.beq off 0 then
        (match hp id with
         |some (.ar false c)=>At (decide (n*es<=c.length)) (K (.own es n (c.take (n*es))) [id] [])
         |_=>none) else none
    |p=>M0 es p fun z _ _=>At z (K (.own es 0 []) [] [])
  |t=>KH t p fun c=>K c [] []
def Aim(shr:Bool)(hp:Nat->Option Bz)(t:CT)(p:PV)(K:PV->B5->B5->Option R):Option R:=
 bif shr then Tq (Od hp) t p fun c m=>K c [] m else Av3 hp t p K
def KO(shr:Bool)(hp:Nat->Option Bz):List CT->Ab->(Ab->B5->B5->Option R)->Option R
 |[],[],K=>K [] [] []
 |t::ts,p::ps,K=>Aim shr hp t p fun c m z=>KO shr hp ts ps fun cs ms zs=>K (c::cs) (m++ms) (z++zs)
 |_,_,_=>none
def Arp(P:Program)(shr:Bool)(hp:Nat->Option Bz)(t:TypeId)(p:PV)(K:PV->B5->B5->Option R):Option R:=
 match GB P t with
 |some e=>
  match p with
  |.ptr id off=>
   match hp id with
   |some (.st c)=>At (Nat.beq off 0) (KO shr hp (Lm P e) c fun cs m z=>K (.pbox cs) (id::m) z)
   |_=>none
  |_=>none
 |none=>
  bif Cr P t then D3 p fun ps=>KO shr hp (Lm P t) ps fun cs m z=>K (.agg cs) m z
  else KO shr hp (Lm P t) [p] fun cs m z=>Av cs fun c r=>Aq r (K c m z)
def Apk(P:Program)(s:St)(r:ResultVar)(K:PV->Option R):Option R:=
 match r with
 |.tmp t=>K (s.tm t)
 |.cell a t=>HR P (rd s.hp) (Od s.hp) t (s.tm a) K
def ZN(P:Program)(shr:Bool)(s:St):List ResultVar->List TypeId->(Ab->B5->B5->Option R)->Option R
 |[],[],K=>K [] [] []
 |r::rs,t::ts,K=>Apk P s r fun p=>Arp P shr s.hp t p fun v m z=>ZN P shr s rs ts fun vs ms zs=>K (v::vs) (m++ms) (z++zs)
 |_,_,_=>none
def OS(hp:Nat->Option Bz):List CT->Ab->Ab->(Ab->B5->B5->Option R)->Option R
 |[],[],[],K=>K [] [] []
 |t::ts,w::ws,p::ps,K=>Aim (match w with | .own _ _ _=>false|_=>true) hp t p fun c m z=>OS hp ts ws ps fun cs ms zs=>K (c::cs) (m++ms) (z++zs)
 |_,_,_,_=>none
def JJ(P:Program)(N:Nat)(hp:Nat->Option Bz):Nat->List TypeId->Ab->(List Ab->B5->B5->B5->Option R)->Option R
 |_,[],ps,K=>Aq ps (K [] [] [] [])
 |i,t::ts,ps,K=>Av ps fun p ps=>
  match p with
  |.pbox ws=>Gi (GB P t) fun e=>
    match hp (Dm N i) with
    |some (.st c)=>OS hp (Lm P e) ws c fun cs m z=>JJ P N hp (i+1) ts ps fun r m' z' q=>K (cs::r) (m++m') (z++z') (Dm N i::q)
    |_=>none
  |.tup _=>
    match hp (Dm N i) with
    |some (.ar false c)=>JJ P N hp (i+1) ts ps fun r m' z' q=>K (c::r) m' z' (Dm N i::q)
    |_=>none
  |_=>JJ P N hp (i+1) ts ps K
def Aiz(rs:List ResultVar):Nat:=rs.foldl (fun m r=>match r with | .tmp t=>Ar4 m t | .cell a _=>Ar4 m a) 0
end
def PR(P:Program):Nat->List TypeId->Nat->Nat
 |_,[],m=>m
 |i,t::ts,m=>PR P (i+1) ts (match P.underlying t with|some (.pointer _)=>Ar4 m i|_=>m)
def Ad1(C:Jm)(P:Program)(f:FuncId)(fn:Func)(args:Ab)(s:St):Option Dl:=
 ZN P (C.shr f) s fn.results.toList fn.resultTypes.toList fun vs m z=>JJ P fn.ntmps s.hp 0 fn.params.toList args fun os m' z' q=>
  At (Ft ((m++m')++q)&&(z++z').all (fun i=> !(((m++m')++q).any (Nat.beq i)))) (some ⟨vs,os⟩)
def Auy(C:Jm)(P:Program)(fu:Nat)(call:Bi)(f:FuncId)(fn:Func)(c:Code)(args:Ab):Option Dl:=
  Afx P fn.ntmps 0 fn.params.toList args fun tms bs=>At (Nat.ble args.length fn.ntmps&&Cl (fun _=>none) bs)
    (let lr:=PR P 0 fn.params.toList (Aiz fn.results.toList)
     Nf C P fu fn.ntmps call c lr (fun _=>0) lr (Ad1 C P f fn args) (fun _ _=>none) (Ad1 C P f fn args) ⟨lk tms,Bq bs⟩)
def Ap(C:Jm)(P:Program)(fu:Nat):Nat->FuncId->Ab->Option Dl
 |0,_,_=>none
 |d+1,f,args=>
  match C.ext f with
  |some g=>g args
  |none=>
   match P.funcs[f]? with
   |none=>none
   |some fn=>match fn.body with
    |none=>none
    |some c=>Auy C.core P fu (Ap C P fu d) f fn c args
inductive Dir where
 |l
 |r
 |i (m:Nat)
section
variable {R:Type}
def FA(C:Jm)(P:Program)(fu N:Nat)(call:Bi):List Dir->Code->Nat->(Nat->Nat)->Nat->(St->Option R)->(Nat->St->Option R)->(St->Option R)->Nat->St->Option R
 |[],.seq _ b,ln,lx,lr,kn,kx,kr,n,s=>SV n (fun s''=>Nf C P fu N call b ln lx lr kn kx kr s'') s
 |[],.loop c,ln,lx,lr,_,kx,kr,n,s=>UI (fun k s'=>Nf C P fu N call c (To (.loop c) ln lx lr) lx lr k kx kr s') (Jg N (To (.loop c) ln lx lr)) n s
 |.l::p,.seq a b,ln,lx,lr,kn,kx,kr,n,s=>FA C P fu N call p a (To b ln lx lr) lx lr (fun s'=>UM (Ah8 P a b) (UM (GR a b) (Ad5 N (To b ln lx lr) s' (SV fu fun s''=>Nf C P fu N call b ln lx lr kn kx kr s'')) (Jg N (To b ln lx lr) s' (SV fu fun s''=>Nf C P fu N call b ln lx lr kn kx kr s''))) (Nf C P fu N call b ln lx lr kn kx kr s')) kx kr n s
 |.r::p,.seq _ b,ln,lx,lr,kn,kx,kr,n,s=>FA C P fu N call p b ln lx lr kn kx kr n s
 |.l::p,.cond _ a _,ln,lx,lr,kn,kx,kr,n,s=>FA C P fu N call p a ln lx lr kn kx kr n s
 |.r::p,.cond _ _ b,ln,lx,lr,kn,kx,kr,n,s=>FA C P fu N call p b ln lx lr kn kx kr n s
 |.l::p,.block id c,ln,lx,lr,kn,kx,kr,n,s=>FA C P fu N call p c ln (fun j=>bif Nat.beq j id then ln else lx j) lr kn (fun j s'=>bif Nat.beq j id then kn s' else kx j s') kr n s
 |.i m::p,.loop c,ln,lx,lr,_,kx,kr,n,s=>
  FA C P fu N call p c (To (.loop c) ln lx lr) lx lr
   (fun s'=>Jg N (To (.loop c) ln lx lr) s' (UI (fun k s'=>Nf C P fu N call c (To (.loop c) ln lx lr) lx lr k kx kr s') (Jg N (To (.loop c) ln lx lr)) m)) kx kr n s
 |_,_,_,_,_,_,_,_,_,_=>none
end
def A2i(C:Jm)(P:Program)(fu:Nat)(call:Bi)(f:FuncId)(fn:Func)(c:Code)(args:Ab)(p:List Dir)(n:Nat)(s:St):Option Dl:=
 let lr:=PR P 0 fn.params.toList (Aiz fn.results.toList)
 FA C P fu fn.ntmps call p c lr (fun _=>0) lr (Ad1 C P f fn args) (fun _ _=>none) (Ad1 C P f fn args) n s
def Auw:B5:=[
 1000000]
def Az6:B5:=[
 10,
 36,
 11,
 16,
 26,
 48,
 91,
 27,
 52,
 37,
 71,
 72,
 12,
 43,
 83,
 28,
 1000000]
def Ayc:B5:=[
 1000000]
def Atb:B5:=[
 1000000]
def Az4:B5:=[
 108,
 133,
 106,
 87,
 142,
 122,
 123,
 144,
 132,
 88,
 121,
 117,
 138,
 1000000]
def PI(args:Ab):Option Dl:=
 match args with
 |[.sc (.string s)]=>bif decide (s.size<=9223372036854775807) then some ⟨[.sc (.bool (Lib.validD s.data.toList))],[]⟩ else none
 |_=>none
def Za(args:Ab):Option Dl:=
  match args with
  |[.lst _ 1 n c,.lst _ 1 m c']=>bif Nat.beq c.length n&&Nat.beq c'.length m then
      (match bytesOf c,bytesOf c' with
       |some a,some b=>some ⟨[.sc (.int .i64 (Lib.compareBytes a b))],[]⟩
       |_,_=>none) else none
  |_=>none
def GV:B5:=[
 147,
 86,
 135,
 136,
 134,
 109,
 66,
 137,
 128,
 103,
 61,
 33,
 85,
 79,
 120,
 110,
 111,
 115,
 75,
 112,
 114,
 69,
 67,
 68,
 92,
 76,
 129,
 125,
 46,
 49,
 40,
 71,
 72,
 37,
 52,
 1000000]
def CB:Jm:=⟨fun f=>Az6.any (Nat.beq f),fun f i=>Nat.beq i 0&&Az4.any (Nat.beq f),fun f i=>(Nat.beq i 0&&Ayc.any (Nat.beq f))||(Nat.beq i 2&&Atb.any (Nat.beq f)),fun f=>Auw.any (Nat.beq f),fun _=>none⟩
def CX(xs:FuncId->Option (Ab->Option Dl)):Jm:={ CB with ext:=fun f=>bif GV.any (Nat.beq f) then none else xs f }
def RI(f:Func):Code:=match f.body with|some c=>c|none=>.skip
section
variable {R:Type}{r:Option R}
theorem Ak{k:IntKind}{p:PV}{K:Int->Option R}{n:Int}(h:p=.sc (.int k n))(hk:K n=r):A8 k p K=r:=by subst h;unfold A8;simp[hk]
theorem A63{p:PV}{K:IntKind->Int->Option R}{k:IntKind}{n:Int}(h:p=.sc (.int k n))(hk:K k n=r):Et p K=r:=by subst h;exact hk
theorem As{p:PV}{K:Bool->Option R}{b:Bool}(h:p=.sc (.bool b))(hk:K b=r):Co p K=r:=by subst h;exact hk
theorem Bb{p:PV}{K:ByteArray->Option R}{s:ByteArray}(h:p=.sc (.string s))(hk:K s=r):Ez p K=r:=by subst h;exact hk
theorem A7{es:Nat}{p:PV}{K:Bool->Nat->Ab->Option R}{z:Bool}{n:Nat}{c:Ab}(h:p=.lst z es n c)(hk:K z n c=r):M0 es p K=r:=by subst h;unfold M0;simp[Of,hk]
theorem Bf{es:Nat}{p:PV}{K:Nat->Ab->Option R}{n:Nat}{c:Ab}(h:p=.own es n c)(hk:K n c=r):Kn es p K=r:=by subst h;unfold Kn;simp[Of,hk]
theorem Aj{b:Bool}{K:Option R}(h:b=true)(hk:K=r):At b K=r:=by subst h;exact hk
theorem Aqc{b:Bool}{x y:Option R}(hx:b=true->x=r)(hy:b=false->y=r):Bd b x y=r:=by
 cases b
 ·exact hy rfl
 ·exact hx rfl
theorem Afw{b:Bool}{x y:Option R}(h:b=true)(hx:x=r):Bd b x y=r:=by subst h;exact hx
theorem Ag5{b:Bool}{x y:Option R}(h:b=false)(hx:y=r):Bd b x y=r:=by subst h;exact hx
theorem Ahg{α:Type}{o:Option α}{K:α->Option R}{a:α}(h:o=some a)(hk:K a=r):Gi o K=r:=by subst h;exact hk
theorem Af{α:Type}{l:List α}{K:α->List α->Option R}{a:α}{t:List α}(h:l=a::t)(hk:K a t=r):Av l K=r:=by subst h;exact hk
theorem Al{α:Type}{l:List α}{K:Option R}(h:l=[])(hk:K=r):Aq l K=r:=by subst h;exact hk
theorem Ay{p:PV}{K:Ab->Option R}{c:Ab}(h:p=.agg c)(hk:K c=r):D3 p K=r:=by subst h;exact hk
theorem Kt{p:PV}{K:Ab->Option R}{c:Ab}(h:p=.pbox c)(hk:K c=r):DB p K=r:=by subst h;exact hk
theorem Ag{o:Option Dl}{K:Ab->List Ab->Option R}{v:Ab}{q:List Ab}(h:o=some ⟨v,q⟩)(hk:K v q=r):Bk o K=r:=by subst h;exact hk
theorem ZK{x y:Option R}(hx:x=r)(hy:y=r):Ym x y=r:=by subst hx;subst hy;unfold Ym;simp
end
theorem NN(a b:Int):(a != b)=decide (a≠b):=by by_cases h:a=b<;>simp[h,bne]
theorem Al6(a b:Int):(a==b)=decide (a=b):=by by_cases h:a=b<;>simp[h]
section
variable {R:Type}
theorem Aiy(v:Ab)(o:List Ab)(K:Ab->List Ab->Option R):Bk (some ⟨v,o⟩) K=K v o:=by exact id rfl
theorem Apo{α:Type}(K:Option R):Aq ([]:List α) K=K:=by exact id rfl
theorem Air{α:Type}(a:α)(r:List α)(K:α->List α->Option R):Av (a::r) K=K a r:=by exact id rfl
theorem Ajg(b:Bool)(K:Bool->Option R):Co (.sc (.bool b)) K=K b:=by exact id rfl
theorem Arv(s:ByteArray)(K:ByteArray->Option R):Ez (.sc (.string s)) K=K s:=by exact id rfl
theorem ZV(k:IntKind)(n:Int)(K:Int->Option R):A8 k (.sc (.int k n)) K=K n:=by unfold A8;simp
theorem Apz(k:IntKind)(n:Int)(K:IntKind->Int->Option R):Et (.sc (.int k n)) K=K k n:=by exact id rfl
theorem Awx(z:Bool)(es n:Nat)(c:Ab)(K:Bool->Nat->Ab->Option R):M0 es (.lst z es n c) K=K z n c:=by unfold M0;simp
theorem Av0(es n:Nat)(c:Ab)(K:Nat->Ab->Option R):Kn es (.own es n c) K=K n c:=by unfold Kn;simp
theorem Aq3(c:Ab)(K:Ab->Option R):D3 (.agg c) K=K c:=by exact id rfl
theorem Aip(c:Ab)(K:Ab->Option R):DB (.pbox c) K=K c:=by exact id rfl
theorem Ans{α:Type}(a:α)(K:α->Option R):Gi (some a) K=K a:=by exact id rfl
theorem Je{α:Type}(a:α)(K:α->Option R):Aa a K=K a:=by exact id rfl
theorem Aqu(K:Option R):At true K=K:=by exact id rfl
theorem ZE(p:Prop)[Decidable p](K:Option R)(h:p):At (decide p) K=K:=by simp[At,h]
theorem Ah0(b c:Bool)(K:Option R):At (b&&c) K=At b (At c K):=by cases b<;>rfl
theorem Apj(x y:Option R):Bd true x y=x:=by exact id rfl
theorem Arq(x y:Option R):Bd false x y=y:=by exact id rfl
theorem EZ(p:Prop)[Decidable p](x y:Option R)(h:p):Bd (decide p) x y=x:=by simp[Bd,h]
theorem D0(p:Prop)[Decidable p](x y:Option R)(h:¬p):Bd (decide p) x y=y:=by simp[Bd,h]
theorem JI(p:Prop)[Decidable p](x y:Option R):Bd (decide p) x y=if p then x else y:=by by_cases h:p<;>simp[Bd,h]
theorem Ga(a b:Int)(x y:Option R):Bd (a==b) x y=if a=b then x else y:=by rw[Al6,JI]
theorem Fb(a b:Int)(x y:Option R):Bd (a != b) x y=if a=b then y else x:=by rw[NN,JI];by_cases h:a=b<;>simp[h]
theorem ON(x:Option R):Ym x x=x:=by unfold Ym;simp
end
theorem Ah{x:Int}(h1: -9223372036854775808<=x)(h2:x<=9223372036854775807):IntKind.wrap .i64 x=x:=by have:=IntWalk.i64_in x (by omega);exact this
theorem Cm{x:Int}(h1:0<=x)(h2:x<=18446744073709551615):IntKind.wrap .u64 x=x:=by simp only[IntKind.wrap,IntKind.signed,IntKind.bits];simp;omega
theorem Hp{x:Int}(h1:0<=x)(h2:x<=255):IntKind.wrap .u8 x=x:=by simp only[IntKind.wrap,IntKind.signed,IntKind.bits];simp;omega
theorem Kh(x:Int):0<=IntKind.wrap .u64 x/\IntKind.wrap .u64 x<=18446744073709551615:=by simp only[IntKind.wrap,IntKind.signed,IntKind.bits];simp;omega
theorem C1{α:Type}{l r:List α}{x:α}{i:Nat}(h:l.drop i=x::r):i<l.length/\l[i]?=some x/\l.drop (i+1)=r:=by
 have h1:i<l.length:=by
  rcases K6 i l.length with h1|h1
  ·exact h1
  ·rw[List.drop_of_length_le h1] at h;cases h
 rw[List.drop_eq_getElem_cons h1] at h;injection h with h2 h3;exact⟨h1,by rw[List.getElem?_eq_getElem h1,h2],h3⟩
theorem drop_nil{α:Type}{l:List α}{i:Nat}(h:l.drop i=[]):l.length<=i:=by have:=congrArg List.length h;simp at this;omega
section
variable {α:Type}{f:α->Ab}{k:Nat}
theorem U6(hf:∀x,(f x).length=k):∀(l:List α),(l.flatMap f).length=l.length*k
 |[]=>by simp
 |x::l=>by simp[hf x,U6 hf l,Nat.succ_mul];omega
theorem ZU(hf:∀x,(f x).length=k):∀(l:List α)(i:Nat),(l.flatMap f).drop (i*k)=(l.drop i).flatMap f
 |l,0=>by simp
 |[],i+1=>by simp
 |x::l,i+1=>by
  rw[J7,Nat.succ_mul,Nat.add_comm,<-List.drop_drop,List.drop_append_of_le_length (by rw[hf x];omega)]
  rw[show (f x).drop k=[] from List.drop_of_length_le (by rw[hf x];omega),PT]
  exact ZU hf l i
theorem Aia(hf:∀x,(f x).length=k):∀(l:List α)(i:Nat),(l.flatMap f).take (i*k)=(l.take i).flatMap f
 |l,0=>by simp
 |[],i+1=>by simp
 |x::l,i+1=>by
  rw[J7,Nat.succ_mul,Nat.add_comm,List.take_succ_cons,J7,<-Aia hf l i];rw[show k+i*k=(f x).length+i*k by rw[hf x],List.take_length_add_append]
theorem H4(hf:∀x,(f x).length=k){l:List α}{i:Nat}{x:α}(h:l[i]?=some x){j:Nat}(hj:j<k):(l.flatMap f).getD (i*k+j) .top=(f x).getD j .top:=by
 have h1:((l.flatMap f).drop (i*k))[j]?=(l.flatMap f)[i*k+j]?:=List.getElem?_drop;rw[ZU hf] at h1
 have h2:i<l.length:=by
  rcases K6 i l.length with h1|h1
  ·exact h1
  ·rw[List.getElem?_eq_none h1] at h;cases h
 rw[List.drop_eq_getElem_cons h2,J7] at h1;have h3:l[i]=x:=by rw[List.getElem?_eq_getElem h2] at h;injection h
 rw[h3,List.getElem?_append_left (by rw[hf x];exact hj)] at h1
 simp only[List.getD_eq_getElem?_getD,<-h1]
theorem Hh{c:Ab}{p:PV}{i:Nat}(h:i<c.length):Bp c [p] i=c.set i p:=by unfold Bp;rw[List.set_eq_take_append_cons_drop,B7 h];simp
end
theorem Aza{α:Type}{l:List α}{i:Nat}{x:α}(h:l[i]?=some x):i<l.length:=by
 rcases K6 i l.length with h1|h1
 ·exact h1
 ·rw[List.getElem?_eq_none h1] at h;cases h
abbrev Azl(k:IntKind)(n:Int):Ab:=[.sc (.int k n)]
abbrev Ad(k:IntKind)(l:Cg):Ab:=l.flatMap (Azl k)
theorem HA(k:IntKind)(n:Int):(Azl k n).length=1:=rfl
theorem Z5{k:IntKind}{l:Cg}{i:Nat}{n:Int}(h:l[i]?=some n):(Ad k l).getD i .top=.sc (.int k n):=by
 have:=H4 (HA k) h (j:=0) (by omega)
 simpa using this
theorem Am(k:IntKind)(l:Cg):(Ad k l).length=l.length:=by rw[U6 (HA k)];omega
theorem Hi(k:IntKind)(l:Cg)(n:Int):Ad k l++[.sc (.int k n)]=Ad k (l++[n]):=by simp
theorem Ob(k:IntKind)(l:Cg):List.take l.length (Ad k l)=Ad k l:=I9 (by rw[Am];omega)
theorem B4:type_of% @Aiy/\type_of% @Apo/\type_of% @Air/\type_of% @Ajg/\type_of% @Arv/\type_of% @ZV/\type_of% @Apz/\type_of% @Awx/\type_of% @Av0/\type_of% @Aq3/\type_of% @Aip/\type_of% @Ans/\type_of% @Je/\type_of% @Aqu/\type_of% @ZE/\type_of% @Ah0/\type_of% @Apj/\type_of% @Arq/\type_of% @EZ/\type_of% @D0/\type_of% @ON/\type_of% @Bool.not_true/\type_of% @Bool.not_false/\type_of% @Bool.false_eq_true/\type_of% @if_true.{1}/\type_of% @if_false.{1}/\type_of% @Bool.true_and/\type_of% @Bool.and_true/\type_of% @Bool.false_and/\type_of% @Bool.and_false/\type_of% @decide_true/\type_of% @decide_false:=
 ⟨@Aiy,@Apo,@Air,@Ajg,@Arv,@ZV,@Apz,@Awx,@Av0,@Aq3,@Aip,@Ans,@Je,@Aqu,@ZE,@Ah0,@Apj,@Arq,@EZ,@D0,@ON,@Bool.not_true,@Bool.not_false,@Bool.false_eq_true,@if_true.{1},@if_false.{1},@Bool.true_and,@Bool.and_true,@Bool.false_and,@Bool.and_false,@decide_true,@decide_false⟩
theorem gT:type_of% @Bool.and_eq_true/\type_of% @decide_eq_true_eq/\type_of% @beq_iff_eq.{0}/\type_of% @bne_iff_ne.{0}/\type_of% @ne_eq.{1}/\type_of% @Bool.not_eq_true'/\type_of% @true_and/\type_of% @and_true:=
 ⟨@Bool.and_eq_true,@decide_eq_true_eq,@beq_iff_eq.{0},@bne_iff_ne.{0},@ne_eq.{1},@Bool.not_eq_true',@true_and,@and_true⟩
theorem gF:type_of% @decide_eq_false_iff_not/\type_of% @beq_eq_false_iff_ne.{0}/\type_of% @bne_eq_false_iff_eq.{0}/\type_of% @ne_eq.{1}/\type_of% @Bool.not_eq_false':=
 ⟨@decide_eq_false_iff_not,@beq_eq_false_iff_ne.{0},@bne_eq_false_iff_eq.{0},@ne_eq.{1},@Bool.not_eq_false'⟩
section
open Go.RowKit
def Bw{α β:Type}(R:α->β->Prop):List α->List β->Prop
 |[],[]=>True
 |a::zs,b::bs=>R a b/\Bw R zs bs
 |_,_=>False
section
variable {α β γ:Type}{R S:α->β->Prop}
theorem Bw.len:∀{zs:List α}{bs:List β},Bw R zs bs->zs.length=bs.length
 |[],[],_=>rfl
 |_::_,_::_,h=>by simp[Bw.len h.2]
 |[],_::_,h=>h.elim
 |_::_,[],h=>h.elim
theorem Bw.at_:∀{zs:List α}{bs:List β},Bw R zs bs->∀{i:Nat} {a b},zs[i]?=some a->bs[i]?=some b->R a b
 |[],[],_,i,a,b,h,_=>by simp at h
 |_::_,_::_,h,0,a,b,ha,hb=>by simp at ha hb;subst ha;subst hb;exact h.1
 |_::_,_::_,h,i+1,a,b,ha,hb=>by simp at ha hb;exact Bw.at_ h.2 ha hb
 |[],_::_,h,_,_,_,_,_=>h.elim
 |_::_,[],h,_,_,_,_,_=>h.elim
theorem Bw.of_at:∀{zs:List α}{bs:List β},zs.length=bs.length->(∀(i:Nat) a b,zs[i]?=some a->bs[i]?=some b->R a b)->Bw R zs bs
 |[],[],_,_=>trivial
 |a::zs,b::bs,hl,h=>⟨h 0 a b rfl rfl,Bw.of_at (by simpa using hl) fun i x y hx hy=>h (i+1) x y hx hy⟩
 |[],_::_,hl,_=>by simp at hl
 |_::_,[],hl,_=>by simp at hl
theorem Bw.mono(hRS:∀a b,R a b->S a b):∀{zs:List α}{bs:List β},Bw R zs bs->Bw S zs bs
 |[],[],_=>trivial
 |_::_,_::_,h=>⟨hRS _ _ h.1,Bw.mono hRS h.2⟩
 |[],_::_,h=>h.elim
 |_::_,[],h=>h.elim
theorem Bw.mono_mem:∀{zs:List α}{bs:List β},(∀a∈zs,∀b,R a b->S a b)->Bw R zs bs->Bw S zs bs
 |[],[],_,_=>trivial
 |a::_,_::_,hRS,h=>⟨hRS a (by simp) _ h.1,Bw.mono_mem (fun x hx=>hRS x (by simp[hx])) h.2⟩
 |[],_::_,_,h=>h.elim
 |_::_,[],_,h=>h.elim
theorem Bw.app:∀{zs:List α}{bs:List β}{as':List α}{bs':List β},Bw R zs bs->Bw R as' bs'->Bw R (zs++as') (bs++bs')
 |[],[],_,_,_,h'=>h'
 |_::_,_::_,_,_,h,h'=>⟨h.1,Bw.app h.2 h'⟩
 |[],_::_,_,_,h,_=>h.elim
 |_::_,[],_,_,h,_=>h.elim
theorem Bw.take:∀(n:Nat){zs:List α}{bs:List β},Bw R zs bs->Bw R (zs.take n) (bs.take n)
 |0,_,_,_=>by simp[Bw]
 |_+1,[],[],_=>trivial
 |n+1,_::_,_::_,h=>⟨h.1,Bw.take n h.2⟩
 |_+1,[],_::_,h=>h.elim
 |_+1,_::_,[],h=>h.elim
theorem Bw.drop:∀(n:Nat){zs:List α}{bs:List β},Bw R zs bs->Bw R (zs.drop n) (bs.drop n)
 |0,_,_,h=>h
 |_+1,[],[],_=>trivial
 |n+1,_::_,_::_,h=>Bw.drop n h.2
 |_+1,[],_::_,h=>h.elim
 |_+1,_::_,[],h=>h.elim
end
inductive Az(w:World)(A:Nat->Prop):PV->Value->Prop where
 |sc (v:Value):Az w A (.sc v) v
 |top (v:Value):Az w A .top v
 |ub (b:Bool):Az w A .ub (.bool b)
 |lnil (z:Bool) (es:Nat):Az w A (.lst z es 0 []) (.slice none 0 0)
 |lemp (es:Nat) (a:Addr) (cap:Nat):Az w A (.lst false es 0 []) (.slice (some a) 0 cap)
 |lst (es n:Nat) (cells:Ab) (a:Addr) (cap:Nat) (f:Nat->Value) (hs:a.spot=none) (hb:a.block<w.heap.size) (hA:¬A a.block) (hn:n<=cap)
   (hc:∀j c,cells[j]?=some c->w.cell? (a.add j)=some (f j)) (h1:∀j c,cells[j]?=some c->(f j).oneCell'=true) (hr:∀j c,cells[j]?=some c->Az w A c (f j)):Az w A (.lst false es n cells) (.slice (some a) n cap)
def bsz(w:World)(b:Nat):Nat:=
 match w.heap[b]? with
 |some (.cells c _ _)=>c.size
 |_=>0
def UQ(w:World)(A:Nat->Prop)(a:Addr)(cells:Ab):Prop:=∀j c,cells[j]?=some c->∃v,w.cell? (a.add j)=some v/\v.oneCell'=true/\Az w A c v
def Ck(w:World)(A:Nat->Prop)(β:Nat->Option (Nat × Nat))(p:PV)(v:Value):Prop:=
 match p with
 |.view id es off n=>(β id=none/\off=0/\n=0/\∃ad,v=.slice ad 0 0) \/
   ∃b o x cap,β id=some (b,o)/\v=.slice (some ⟨b,x,none⟩) n cap/\(x=o+off\/(n=0/\off≠0))/\n<=cap/\x+cap*es<=bsz w b/\b<w.heap.size
 |.ptr id off=>∃b o,β id=some (b,o)/\v=.pointer (some ⟨b,o+off,none⟩)
 |.iptr c off=>∃a:Addr,v=.pointer (some (a.add off))/\a.spot=none/\a.block<w.heap.size/\¬A a.block/\UQ w A a c
 |p=>Az w A p v
def Iw(w:World)(A:Nat->Prop)(β:Nat->Option (Nat × Nat))(p:PV)(v:Value):Prop:=
 match p with
 |.agg cs=>∃vs,v=.agg ⟨vs⟩/\Bw (Ck w A β) cs vs
 |p=>Ck w A β p v
def Eo(w:World)(A:Nat->Prop)(β:Nat->Option (Nat × Nat))(p:PV)(v:Value):Prop:=
 match p with
 |.tup ps=>∃vs,v=.tuple ⟨vs⟩/\Bw (Iw w A β) ps vs
 |p=>Iw w A β p v
structure Cq(A:Nat->Prop)(w w':World):Prop where
 size:w.heap.size<=w'.heap.size
 keep:∀b,b<w.heap.size->¬A b->w'.heap[b]?=w.heap[b]?
 bs:∀b,b<w.heap.size->bsz w b<=bsz w' b
theorem Hu(a:Addr)(j:Nat):(a.add j).block=a.block:=by unfold Addr.add;split<;>rfl
theorem add_add(a:Addr)(i j:Nat):(a.add i).add j=a.add (i+j):=by unfold Addr.add;by_cases hi:i=0<;>by_cases hj:j=0<;>simp[hi,hj,Qp]
theorem Fe(b o j:Nat):(⟨b,o,none⟩:Addr).add j=⟨b,o+j,none⟩:=by unfold Addr.add;by_cases hj:j=0<;>simp[hj]
theorem Apf{a:Addr}(h:a.spot=none)(j:Nat):(a.add j).spot=none:=by unfold Addr.add;split<;>simp[h]
section
variable {w w':World}{A A':Nat->Prop}{β β':Nat->Option (Nat × Nat)}
theorem Cq.cell(h:Cq A w w'){a:Addr}(hb:a.block<w.heap.size)(hA:¬A a.block):w'.cell? a=w.cell? a:=
 World.cell?_of_block (h.keep a.block hb hA)
theorem Az.step(h:Cq A w w')(hA:∀b,b<w.heap.size->A' b->A b){p:PV}{v:Value}(t:Az w A p v):Az w' A' p v:=by
 induction t with
 |sc v=>exact .sc v
 |top v=>exact .top v
 |ub b=>exact .ub b
 |lnil z es=>exact .lnil z es
 |lemp es a cap=>exact .lemp es a cap
 |lst es n cells a cap f hs hb hA1 hn hc h1 hr ih=>
  refine .lst es n cells a cap f hs (Io hb h.size) (fun x=>hA1 (hA _ hb x)) hn (fun j c hj=>?_) h1 (fun j c hj=>ih j c hj);rw[h.cell (by rw[Hu];exact hb) (by rw[Hu];exact hA1)]
  exact hc j c hj
theorem UQ.step(h:Cq A w w')(hA:∀b,b<w.heap.size->A' b->A b){a:Addr}(hb:a.block<w.heap.size)(hn:¬A a.block){cells:Ab}(t:UQ w A a cells):UQ w' A' a cells:=by intro j c hj;obtain⟨v,hv,h1,ht⟩:=t j c hj;exact⟨v,by rw[h.cell (by rw[Hu];exact hb) (by rw[Hu];exact hn)];exact hv,h1,ht.step h hA⟩
theorem Ck.step(h:Cq A w w')(hA:∀b,b<w.heap.size->A' b->A b){p:PV}{v:Value}(hβ:∀id∈Aw p,β' id=β id)(t:Ck w A β p v):Ck w' A' β' p v:=by
 cases p with
 |view id es off n=>
  have e:=hβ id (by simp[Aw]);rcases t with⟨h1,h2,h3,h4⟩|⟨b,o,x,cap,h1,h2,hx,h3,h4,h5⟩
  ·exact .inl ⟨by rw[e];exact h1,h2,h3,h4⟩
  ·exact .inr ⟨b,o,x,cap,by rw[e];exact h1,h2,hx,h3,Nat.le_trans h4 (h.bs b h5),Io h5 h.size⟩
 |ptr id off=>
  have e:=hβ id (by simp[Aw]);obtain⟨b,o,h1,h2⟩:=t;exact⟨b,o,by rw[e];exact h1,h2⟩
 |iptr c off=>
  obtain⟨a,h1,h2,h3,h4,h5⟩:=t;exact⟨a,h1,h2,Io h3 h.size,fun x=>h4 (hA _ h3 x),h5.step h hA h3 h4⟩
 |sc v=>exact Az.step h hA t
 |lst z es n c=>exact Az.step h hA t
 |own es n c=>exact Az.step h hA t
 |pbox c=>exact Az.step h hA t
 |agg c=>exact Az.step h hA t
 |tup c=>exact Az.step h hA t
 |top=>exact Az.step h hA t
 |ub=>exact Az.step h hA t
theorem Iw.step(h:Cq A w w')(hA:∀b,b<w.heap.size->A' b->A b){p:PV}{v:Value}(hβ:∀id∈Cn p,β' id=β id)(t:Iw w A β p v):Iw w' A' β' p v:=by
 cases p with
 |agg cs=>
  obtain⟨vs,rfl,h2⟩:=t;exact⟨vs,rfl,h2.mono_mem fun c hc v hv=>hv.step h hA fun id Br=>hβ id (by simp only[Cn,List.mem_flatMap];exact⟨c,hc,Br⟩)⟩
 |sc x=>exact Ck.step (p:=.sc x) h hA hβ t
 |lst x y z u=>exact Ck.step (p:=.lst x y z u) h hA hβ t
 |own x y z=>exact Ck.step (p:=.own x y z) h hA hβ t
 |view x y z u=>exact Ck.step (p:=.view x y z u) h hA hβ t
 |ptr x y=>exact Ck.step (p:=.ptr x y) h hA hβ t
 |iptr x y=>exact Ck.step (p:=.iptr x y) h hA hβ t
 |pbox x=>exact Ck.step (p:=.pbox x) h hA hβ t
 |tup x=>exact Ck.step (p:=.tup x) h hA hβ t
 |top=>exact Ck.step (p:=.top) h hA hβ t
 |ub=>exact Ck.step (p:=.ub) h hA hβ t
theorem Eo.step(h:Cq A w w')(hA:∀b,b<w.heap.size->A' b->A b){p:PV}{v:Value}(hβ:∀id∈Cc p,β' id=β id)(t:Eo w A β p v):Eo w' A' β' p v:=by
 cases p with
 |tup cs=>
  obtain⟨vs,rfl,h2⟩:=t;exact⟨vs,rfl,h2.mono_mem fun c hc v hv=>hv.step h hA fun id Br=>hβ id (by simp only[Cc,List.mem_flatMap];exact⟨c,hc,Br⟩)⟩
 |sc x=>exact Iw.step (p:=.sc x) h hA hβ t
 |lst x y z u=>exact Iw.step (p:=.lst x y z u) h hA hβ t
 |own x y z=>exact Iw.step (p:=.own x y z) h hA hβ t
 |view x y z u=>exact Iw.step (p:=.view x y z u) h hA hβ t
 |ptr x y=>exact Iw.step (p:=.ptr x y) h hA hβ t
 |iptr x y=>exact Iw.step (p:=.iptr x y) h hA hβ t
 |pbox x=>exact Iw.step (p:=.pbox x) h hA hβ t
 |top=>exact Iw.step (p:=.top) h hA hβ t
 |ub=>exact Iw.step (p:=.ub) h hA hβ t
 |agg x=>exact Iw.step (p:=.agg x) h hA hβ t
theorem Cq.refl(A:Nat->Prop)(w:World):Cq A w w:=⟨Dn _,fun _ _ _=>rfl,fun _ _=>Dn _⟩
theorem UQ.weak(hA:∀b,b<w.heap.size->A' b->A b){a:Addr}{cells:Ab}(t:UQ w A a cells):UQ w A' a cells:=by intro j c hj;obtain⟨v,hv,h1,ht⟩:=t j c hj;exact⟨v,hv,h1,ht.step (Cq.refl A w) hA⟩
theorem Cq.trans{w'':World}(h:Cq A w w')(h':Cq A' w' w'')(hA:∀b,b<w.heap.size->A' b->A b):Cq A w w'':=
  ⟨Nat.le_trans h.size h'.size,fun b hb hn=>(h'.keep b (Io hb h.size) (fun x=>hn (hA b hb x))).trans (h.keep b hb hn),
   fun b hb=>Nat.le_trans (h.bs b hb) (h'.bs b (Io hb h.size))⟩
theorem Cq.weaken(h:Cq A w w')(hA:∀b,b<w.heap.size->A b->A' b):Cq A' w w':=⟨h.size,fun b hb hn=>h.keep b hb (fun x=>hn (hA b hb x)),h.bs⟩
end
section
variable {R:Type}{r:R}
theorem Gh{k:IntKind}{p:PV}{K:Int->Option R}(h:A8 k p K=some r):∃n,p=.sc (.int k n)/\K n=some r:=by
 unfold A8 at h;split at h
 ·split at h
  ·rename_i hk;subst hk;exact⟨_,rfl,h⟩
  ·cases h
 ·cases h
theorem Ex{p:PV}{K:Bool->Option R}(h:Co p K=some r):∃b,p=.sc (.bool b)/\K b=some r:=by
 unfold Co at h;split at h
 ·exact⟨_,rfl,h⟩
 ·cases h
theorem Ey{p:PV}{K:ByteArray->Option R}(h:Ez p K=some r):∃b,p=.sc (.string b)/\K b=some r:=by
 unfold Ez at h;split at h
 ·exact⟨_,rfl,h⟩
 ·cases h
theorem Eh{p:PV}{K:IntKind->Int->Option R}(h:Et p K=some r):∃k n,p=.sc (.int k n)/\K k n=some r:=by
 unfold Et at h;split at h
 ·exact⟨_,_,rfl,h⟩
 ·cases h
theorem Au{b:Bool}{K:Option R}(h:At b K=some r):b=true/\K=some r:=by
 unfold At at h;cases b
 ·cases h
 ·exact⟨rfl,h⟩
theorem Dt{α:Type}{o:Option α}{K:α->Option R}(h:Gi o K=some r):∃a,o=some a/\K a=some r:=by
 unfold Gi at h;split at h
 ·exact⟨_,rfl,h⟩
 ·cases h
theorem Bj{α:Type}{l:List α}{K:α->List α->Option R}(h:Av l K=some r):∃a t,l=a::t/\K a t=some r:=by
 unfold Av at h;split at h
 ·exact⟨_,_,rfl,h⟩
 ·cases h
theorem El{α:Type}{l:List α}{K:Option R}(h:Aq l K=some r):l=[]/\K=some r:=by
 unfold Aq at h;split at h
 ·exact⟨rfl,h⟩
 ·cases h
theorem Kp{p:PV}{K:Ab->Option R}(h:D3 p K=some r):∃c,p=.agg c/\K c=some r:=by
 unfold D3 at h;split at h
 ·exact⟨_,rfl,h⟩
 ·cases h
theorem WD{p:PV}{K:Ab->Option R}(h:DB p K=some r):∃c,p=.pbox c/\K c=some r:=by
 unfold DB at h;split at h
 ·exact⟨_,rfl,h⟩
 ·cases h
theorem YI{p:PV}{K:Value->Option R}(h:fnK p K=some r):∃f a b,p=.sc (.func f a b)/\K (.func f a b)=some r:=by
 unfold fnK at h;split at h
 ·exact⟨_,_,_,rfl,h⟩
 ·cases h
theorem Avj{p:PV}{K:FuncId->Option R}(h:fvK p K=some r):∃f,p=.sc (.func (.func f) #[] #[])/\K f=some r:=by
 unfold fvK at h;split at h
 ·rename_i f a b;cases hb:(a.isEmpty&&b.isEmpty)<;>rw[hb] at h
  ·cases h
  ·simp only[Gl,Array.isEmpty_iff] at hb;rw[hb.1,hb.2];exact⟨f,rfl,h⟩
 ·cases h
theorem XJ{o:Option Dl}{K:Ab->List Ab->Option R}(h:Bk o K=some r):∃v x,o=some ⟨v,x⟩/\K v x=some r:=by
 unfold Bk at h;split at h
 ·exact⟨_,_,rfl,h⟩
 ·cases h
theorem Rn{b:Bool}{x y:Option R}(h:Bd b x y=some r):(b=true/\x=some r)\/(b=false/\y=some r):=by
 unfold Bd at h;cases b
 ·exact .inr ⟨rfl,h⟩
 ·exact .inl ⟨rfl,h⟩
theorem H3{es:Nat}{p:PV}{K:Bool->Nat->Ab->Option R}(h:M0 es p K=some r):
  ∃z n c,K z n c=some r/\(p=.lst z es n c\/(p=.sc (.slice none 0 0)/\z=true/\n=0/\c=[])):=by
 unfold M0 at h;split at h
 ·rename_i z es' n c;cases hb:Nat.beq es' es
  ·rw[hb] at h;cases h
  ·rw[hb] at h;have:=D4 hb;subst this;exact⟨z,n,c,h,.inl rfl⟩
 ·exact⟨true,0,[],h,.inr ⟨rfl,rfl,rfl,rfl⟩⟩
 ·cases h
def CO:PV->Prop
 |.sc _=>True
 |.lst _ _ _ _=>True
 |_=>False
def TY:PV->Prop
 |.sc _=>True
 |.lst _ _ _ _=>True
 |.view _ _ _ _=>True
 |_=>False
theorem Xg{c:PV}(h:CO c):TY c:=by cases c<;>first|trivial|exact h.elim
theorem Kr{c:PV}(h:CO c):Aw c=[]:=by cases c<;>first|rfl|exact h.elim
variable {w:World}{A:Nat->Prop}{β:Nat->Option (Nat × Nat)}
theorem Pu{c:PV}{v:Value}(h:CO c):Ck w A β c v↔Az w A c v:=by cases c<;>first|exact Iff.rfl|exact h.elim
theorem Xj{c:PV}{v:Value}(h:∀cs,c ≠ .agg cs):Iw w A β c v↔Ck w A β c v:=by cases c<;>first|exact Iff.rfl|exact absurd rfl (h _)
theorem Rk{c:PV}{v:Value}(h:∀cs,c ≠ .tup cs):Eo w A β c v↔Iw w A β c v:=by cases c<;>first|exact Iff.rfl|exact absurd rfl (h _)
theorem FU{c:PV}(h:CO c)(cs:Ab):c ≠ .agg cs:=by rintro rfl;exact h
theorem Aio{c:PV}(h:CO c)(cs:Ab):c ≠ .tup cs:=by rintro rfl;exact h
theorem Az.val{v u:Value}(h:Az w A (.sc v) u):u=v:=by cases h;rfl
theorem EI{es n:Nat}{z:Bool}{c:Ab}{p:PV}{v:Value}(h:p=.lst z es n c\/(p=.sc (.slice none 0 0)/\z=true/\n=0/\c=[]))(hv:Ck w A β p v):Az w A (.lst z es n c) v:=by
 rcases h with rfl|⟨rfl,rfl,rfl,rfl⟩
 ·exact hv
 ·have:=Az.val (w:=w) (A:=A) hv;subst this;exact .lnil true es
theorem Ro{t:CT}{p:PV}{K:PV->Option R}(h:KH t p K=some r):
  ∃c,K c=some r/\CO c/\CO p/\∀(w:World) (A:Nat->Prop) (β:Nat->Option (Nat × Nat)) (v:Value),Ck w A β p v->Az w A c v/\v.oneCell'=true:=by
 cases t with
 |int k=>obtain⟨n,rfl,h2⟩:=Gh h;exact⟨_,h2,trivial,trivial,fun w A β v hv=>⟨hv,by have:=Az.val (w:=w) (A:=A) hv;subst this;rfl⟩⟩
 |bool=>obtain⟨n,rfl,h⟩:=Ex h;exact⟨_,h,trivial,trivial,fun w A β v hv=>⟨hv,by have:=Az.val (w:=w) (A:=A) hv;subst this;rfl⟩⟩
 |str=>obtain⟨n,rfl,h⟩:=Ey h;exact⟨_,h,trivial,trivial,fun w A β v hv=>⟨hv,by have:=Az.val (w:=w) (A:=A) hv;subst this;rfl⟩⟩
 |sl es=>
  obtain⟨z,n,c,h,hp⟩:=H3 h;refine⟨_,h,trivial,?_,fun w A β v hv=>⟨EI hp hv,?_⟩⟩
  ·rcases hp with rfl|⟨rfl,_⟩<;>trivial
  ·have ht:=EI hp hv;cases ht<;>rfl
 |any=>
  obtain⟨f,a,b,rfl,h2⟩:=YI (show fnK p (fun v=>K (.sc v))=some r from h);exact⟨_,h2,trivial,trivial,fun w A β v hv=>⟨hv,by have:=Az.val (w:=w) (A:=A) hv;subst this;rfl⟩⟩
theorem Avc{t:CT}{p:PV}{K:PV->Option R}(h:fcK t p K=some r):
  ∃c,K c=some r/\(CO c\/c=p)/\TY p/\p ≠ .top/\(∀cs,c ≠ .agg cs)/\(∀cs,c ≠ .tup cs)/\(∀id,id∈Aw c->id∈Aw p)/\∀(w:World) (A:Nat->Prop) (β:Nat->Option (Nat × Nat)) (v:Value),Ck w A β p v->Ck w A β c v/\v.oneCell'=true:=by
 have tree:∀t',KH t' p K=some r->∃c,K c=some r/\(CO c\/c=p)/\TY p/\p ≠ .top/\(∀cs,c ≠ .agg cs)/\(∀cs,c ≠ .tup cs)/\(∀id,id∈Aw c->id∈Aw p)/\∀(w:World) (A:Nat->Prop) (β:Nat->Option (Nat × Nat)) (v:Value),Ck w A β p v->Ck w A β c v/\v.oneCell'=true:=by
  intro t' h;obtain⟨c,h,hc,hp,hv⟩:=Ro h;exact⟨c,h,.inl hc,Xg hp,by rintro rfl;exact hp,FU hc,Aio hc,by rw[Kr hc];simp,fun w A β v h=>⟨(Pu hc).2 (hv w A β v h).1,(hv w A β v h).2⟩⟩
 cases t with
 |sl es=>
  unfold fcK fsK at h;dsimp only at h;split at h
  ·rename_i id es' off n;cases hb:Nat.beq es' es
   ·rw[hb] at h;cases h
   ·rw[hb] at h;have:=D4 hb;subst this;exact⟨_,h,.inr rfl,trivial,by simp,by simp,by simp,fun _ h=>h,fun _ _ _ _ h=>⟨h,by rcases h with⟨_,_,_,_,rfl⟩|⟨_,_,_,_,_,rfl,_⟩<;>rfl⟩⟩
  ·exact tree (.sl es) h
 |int k=>exact tree (.int k) h
 |bool=>exact tree (.bool) h
 |str=>exact tree (.str) h
 |any=>exact tree (.any) h
theorem MN{cells:Ab}{i:Nat}{p:PV}(h:cells.getD i .top=p)(hp:p ≠ .top):cells[i]?=some p:=by
 rw[List.getD_eq_getElem?_getD] at h;cases hc:cells[i]? with
 |none=>rw[hc] at h;exact absurd h.symm hp
 |some q=>rw[hc] at h;simp at h;rw[h]
theorem Zh:∀{ts:List CT}{cells:Ab}{off:Nat}{K:Ab->Option R},Zi ts cells off K=some r ->
  ∃cs,K cs=some r/\cs.length=ts.length/\∀j c,cs[j]?=some c->CO c/\∃p,cells[off+j]?=some p/\CO p /\
   ∀(w:World) (A:Nat->Prop) (β:Nat->Option (Nat × Nat)) (v:Value),Ck w A β p v->Az w A c v/\v.oneCell'=true
 |[],_,_,_,h=>⟨[],h,rfl,fun j c hj=>by simp at hj⟩
 |t::ts,cells,off,K,h=>by
  unfold Zi at h;obtain⟨c,h,hc,hp,hv⟩:=Ro h;obtain⟨cs,h,hl,VL⟩:=Zh h;refine⟨c::cs,h,by simp[hl],fun j c' hj=>?_⟩;cases j with
  |zero=>
   simp at hj;subst hj;refine⟨hc,cells.getD off .top,MN rfl ?_,hp,hv⟩;intro e;rw[e] at hp;exact hp
  |succ j=>
   simp at hj;have:=VL j c' hj
   rwa [Nat.add_right_comm,Qp] at this
theorem Zw:∀{ts:List CT}{cells:Ab}{off:Nat}{K:Ab->Option R},Vd ts cells off K=some r ->
  ∃cs,K cs=some r/\cs.length=ts.length/\(∀c∈cs,(∀x,c ≠ .agg x)/\(∀x,c ≠ .tup x))/\∀j c,cs[j]?=some c->∃p,cells[off+j]?=some p/\TY p/\(∀id,id∈Aw c->id∈Aw p) /\
   ∀(w:World) (A:Nat->Prop) (β:Nat->Option (Nat × Nat)) (v:Value),Ck w A β p v->Ck w A β c v/\v.oneCell'=true
 |[],_,_,_,h=>⟨[],h,rfl,by simp,fun j c hj=>by simp at hj⟩
 |t::ts,cells,off,K,h=>by
  unfold Vd at h;obtain⟨c,h,hc,hf,hp,ha,ht,hr,hv⟩:=Avc h;obtain⟨cs,h,hl,JD,VL⟩:=Zw h;refine⟨c::cs,h,by simp[hl],?_,fun j c' hj=>?_⟩
  ·intro x hx;rcases Bx.1 hx with rfl|hx
   ·exact⟨ha,ht⟩
   ·exact JD x hx
  ·cases j with
   |zero=>
    simp at hj;subst hj;exact⟨cells.getD off .top,MN rfl hp,hf,hr,hv⟩
   |succ j=>
    simp at hj;have:=VL j c' hj
    rwa [Nat.add_right_comm,Qp] at this
theorem ZW{agg:Bool}{cells:Ab}{K:PV->Option R}(h:mkV agg cells K=some r):
  (agg=true/\K (.agg cells)=some r)\/(agg=false/\∃c,cells=[c]/\K c=some r):=by
 unfold mkV at h;cases agg
 ·obtain⟨c,t,rfl,h⟩:=Bj h;obtain⟨rfl,h⟩:=El h;exact .inr ⟨rfl,c,rfl,h⟩
 ·exact .inl ⟨rfl,h⟩
end
open Go.RowKit
def Ct(b:Option Bz):Prop:=
 match b with
 |some (.st _)=>True
 |some (.ar false _)=>True
 |_=>False
abbrev Bt:=Nat->Option (Nat × Nat)
def DS(hp:Nat->Option Bz)(β:Bt)(b:Nat):Prop:=∃id o,Ct (hp id)/\β id=some (b,o)
def Dd(hp:Nat->Option Bz)(β:Bt)(Y:Nat->Prop)(b:Nat):Prop:=DS hp β b\/Y b
def Wh(w:World)(A:Nat->Prop)(β:Bt)(id:Nat)(bx:Bz):Prop:=
 match bx with
 |.st cells=>∃b o,β id=some (b,o)/\(∀j c,cells[j]?=some c->∃v,w.cell? ⟨b,o+j,none⟩=some v/\Ck w A β c v)/\∀j,j<cells.length->w.frozen? ⟨b,o+j,none⟩=false
 |.ar fz cells=>(β id=none/\cells=[])\/∃b o,β id=some (b,o)/\UQ w A ⟨b,o,none⟩ cells/\(fz=false->∀j,o<=j->j<bsz w b->w.frozen? ⟨b,j,none⟩=false)/\(fz=true->¬A b)
 |.mv=>True
structure F6 where
 X:Nat->Prop
 L:Nat->Nat->Prop
 pn:Nat->Prop
 pt:Nat->Option (Nat × Nat)
 p8:∀i,pn i->i<8
def BR(bx:Bz)(o j:Nat):Prop:=
 match bx with
 |.st c=>o<=j/\j<o+c.length
 |.ar _ _=>o<=j
 |.mv=>False
structure Fr(X0:F6)(w0 w:World):Prop where
 os:w.os=w0.os
 tape:w.tape=w0.tape
 output:w.output=w0.output
 step:Cq X0.X w0 w
 rng:∀b j,b<w0.heap.size->¬X0.L b j->w.cell? ⟨b,j,none⟩=w0.cell? ⟨b,j,none⟩/\w.frozen? ⟨b,j,none⟩=w0.frozen? ⟨b,j,none⟩
structure B9(N:Nat)(w0:World)(X0:F6)(Y:Nat->Prop)(β:Bt)(s:St)(a:Act)(w:World):Prop where
 dfr:a.defers=[]
 tsz:a.tmps.size=N
 tmo:∀i,N<=i->s.tm i=.top
 tms:∀i,i<N->Eo w (Dd s.hp β Y) β (s.tm i) (a.tmps.getD i undef)
 box:∀id b,s.hp id=some b->Wh w (Dd s.hp β Y) β id b
 inj:∀id id' b o o',Ct (s.hp id)->Ct (s.hp id')->β id=some (b,o)->β id'=some (b,o')->id=id'
 blt:∀id b o,s.hp id≠none->β id=some (b,o)->b<w.heap.size
 wfT:∀i,i<N->∀id∈Cc (s.tm i),s.hp id≠none
 wfB:∀id cells,s.hp id=some (.st cells)->∀c∈cells,∀id'∈Aw c,s.hp id'≠none
 ownd:∀b,DS s.hp β b->X0.X b\/w0.heap.size<=b
 rngB:∀id bx b o,s.hp id=some bx->Ct (some bx)->β id=some (b,o)->b<w0.heap.size->∀j,BR bx o j->X0.L b j
 pin:∀i,X0.pn i->s.hp (Dm N i)≠none/\β (Dm N i)=X0.pt i
 stp:∀id c b o,s.hp id=some (.st c)->β id=some (b,o)->b<w0.heap.size->∃i,id=Dm N i/\X0.pn i
 Yx:∀b,Y b->¬DS s.hp β b
 Ylt:∀b,Y b->b<w0.heap.size
 fr:Fr X0 w0 w
theorem Dj{b:Option Bz}(h:Ct b):b≠none:=by rintro rfl;exact h
theorem Ax{α:Type}(f:Nat->α)(i:Nat)(v:α):Db f i v i=v:=by simp[Db,Of]
theorem Ar{α:Type}(f:Nat->α){i j:Nat}(v:α)(h:j≠i):Db f i v j=f j:=by
 have:Nat.beq j i=false:=by
  cases hb:Nat.beq j i
  ·rfl
  ·exact absurd (D4 hb) h
 simp[Db,this]
theorem GG{α:Type}(f:Nat->α){i:Nat}{v:α}(h:f i=v):Db f i v=f:=by
 funext j
 by_cases e:j=i
 ·subst e;rw[Ax];exact h.symm
 ·exact Ar f v e
theorem Ab9{α:Type}(f:Nat->α){i j:Nat}(u v:α)(h:i≠j):Db (Db f i u) j v=Db (Db f j v) i u:=by
 funext k
 by_cases e:k=j
 ·subst e;rw[Ax,Ar _ _ (Ne.symm h),Ax]
 ·rw[Ar _ _ e];by_cases e':k=i
  ·subst e';rw[Ax,Ax]
  ·rw[Ar _ _ e',Ar _ _ e',Ar _ _ e]
theorem TO{a:Act}{d:Nat}{v:Value}(h:d<a.tmps.size):(a.put (some d) v).tmps.getD d undef=v:=by simp[Act.put,h]
theorem PX{a:Act}{d i:Nat}{v:Value}(h:i≠d):(a.put (some d) v).tmps.getD i undef=a.tmps.getD i undef:=by have h':d≠i:=fun e=>h e.symm;simp[Act.put,Array.getElem?_setIfInBounds_ne h']
section
variable {N:Nat}{w0:World}{X0:F6}{Y:Nat->Prop}{β β':Bt}{s:St}{a:Act}{w w':World}
theorem Hy(d:Option Tmp)(v:Value):(a.put d v).tmps.size=a.tmps.size:=by cases d<;>simp[Act.put]
theorem Kj(d:Option Tmp)(v:Value):(a.put d v).defers=a.defers:=by cases d<;>rfl
theorem Vz{d:Option Tmp}(h:I2 N d=true){i:Nat}(e:d=some i):i<N:=by subst e;exact Nat.lt_of_succ_le (Wu h)
theorem Un{Q:Nat->PV->Value->Prop}{tm:Nat->PV}{d:Option Tmp}{v:PV}{val:Value}(hN:a.tmps.size=N)(hd:I2 N d=true)(h:∀i,i<N->Q i (tm i) (a.tmps.getD i undef))(hv:∀i,Q i v val):∀i,i<N->Q i (Cd tm d v i) ((a.put d val).tmps.getD i undef):=by
 intro i hi;cases d with
 |none=>exact h i hi
 |some d=>
  have Ch:=Vz hd rfl;by_cases e:i=d
  ·subst e;show Q i (Db tm i v i) _;rw[Ax,TO (by omega)];exact hv i
  ·show Q i (Db tm d v i) _;rw[Ar _ _ e,PX e];exact h i hi
theorem Aah{tm:Nat->PV}{d:Option Tmp}{v:PV}(hd:I2 N d=true)(h:∀i,N<=i->tm i=.top):∀i,N<=i->Cd tm d v i=.top:=by
 intro i hi;cases d with
 |none=>exact h i hi
 |some d=>
  have:=Vz hd rfl;show Db tm d v i=_;rw[Ar _ _ (by omega)];exact h i hi
theorem B9.put(h:B9 N w0 X0 Y β s a w){d:Option Tmp}{v:PV}{val:Value}(hd:I2 N d=true)(hv:Eo w (Dd s.hp β Y) β v val)(hr:∀id∈Cc v,s.hp id≠none):
  B9 N w0 X0 Y β ⟨Cd s.tm d v,s.hp⟩ (a.put d val) w where
 dfr:=by rw[Kj];exact h.dfr
 tsz:=by rw[Hy];exact h.tsz
 tmo:=Aah hd h.tmo
 tms:=Un (Q:=fun _ p u=>Eo w (Dd s.hp β Y) β p u) h.tsz hd h.tms (fun _=>hv)
 box:=h.box
 inj:=h.inj
 blt:=h.blt
 wfT:=by
  have:=Un (Q:=fun _ p _=>∀id∈Cc p,s.hp id≠none) (val:=val) h.tsz hd h.wfT (fun _=>hr);exact this
 wfB:=h.wfB
 ownd:=h.ownd
 rngB:=h.rngB
 pin:=h.pin
 stp:=h.stp
 Yx:=h.Yx
 Ylt:=h.Ylt
 fr:=h.fr
theorem Cp(hp:Nat->Option Bz)(ids:B5)(i:Nat):Ae hp ids i=if i∈ids then (hp i).map Zy else hp i:=by
 unfold Ae;by_cases hi:i∈ids
 ·have:ids.any (Nat.beq i)=true:=List.any_eq_true.2 ⟨i,hi,Of i⟩;rw[this,B7 hi];rfl
 ·have:ids.any (Nat.beq i)=false:=by
   cases hb:ids.any (Nat.beq i)
   ·rfl
   ·obtain⟨j,hj,e⟩:=List.any_eq_true.1 hb;exact absurd (D4 e ▸ hj) hi
  rw[this,Ba hi];rfl
theorem Fp{hp:Nat->Option Bz}{ids:B5}{i:Nat}:Ae hp ids i=none↔hp i=none:=by rw[Cp];split<;>simp
theorem Uj{hp:Nat->Option Bz}{ids:B5}{i:Nat}(h:Ct (Ae hp ids i)):Ct (hp i):=by
 rw[Cp] at h;split at h
 ·cases hb:hp i with
  |none=>rw[hb] at h;exact h
  |some b=>cases b with
   |st c=>trivial
   |ar fz c=>rw[hb] at h;exact h.elim
   |mv=>rw[hb] at h;exact h
 ·exact h
theorem M5{hp:Nat->Option Bz}{ids:B5}{i:Nat}{bx:Bz}(h:Ae hp ids i=some bx)(hl:Ct (some bx)):hp i=some bx:=by
 rw[Cp] at h;split at h
 ·cases hb:hp i with
  |none=>rw[hb] at h;cases h
  |some b=>
   rw[hb] at h;cases b with
   |st c=>exact h
   |ar fz c=>simp only[Option.map_some,Zy,Option.some.injEq] at h;subst h;exact hl.elim
   |mv=>simp only[Option.map_some,Zy,Option.some.injEq] at h;subst h;exact hl.elim
 ·exact h
theorem Vu{hp:Nat->Option Bz}{ids:B5}{b:Nat}(h:DS (Ae hp ids) β b):DS hp β b:=by obtain⟨id,o,hl,hb⟩:=h;exact⟨id,o,Uj hl,hb⟩
theorem Wh.step'{A A':Nat->Prop}{id:Nat}{bx:Bz}(hA:∀b,A' b->A b)(h:Wh w A β id bx):Wh w A' β id bx:=by
 have hs:=Cq.refl A w;cases bx with
 |st c=>
  obtain⟨b,o,h1,h2,h3⟩:=h;exact⟨b,o,h1,fun j c hj=>let ⟨v,hv,hc⟩:=h2 j c hj;⟨v,hv,hc.step hs (fun b _=>hA b) (fun _ _=>rfl)⟩,h3⟩
 |ar fz c=>
  rcases h with h|⟨b,o,h1,h2,h3,h4⟩
  ·exact .inl h
  ·exact .inr ⟨b,o,h1,h2.weak (fun b _=>hA b),h3,fun e x=>h4 e (hA b x)⟩
 |mv=>trivial
theorem B9.freeze(h:B9 N w0 X0 Y β s a w){fz:B5}(JF:∀id∈fz,∃f c,s.hp id=some (.ar f c)):B9 N w0 X0 Y β ⟨s.tm,Ae s.hp fz⟩ a w:=by
 have hA:∀b,Dd (Ae s.hp fz) β Y b->Dd s.hp β Y b:=fun b hb=>hb.imp Vu id
 refine⟨h.dfr,h.tsz,h.tmo,fun i hi=>(h.tms i hi).step (Cq.refl _ _) (fun b _=>hA b) (fun _ _=>rfl),fun id b hb=>?_,fun id id' b o o' h1 h2=>h.inj id id' b o o' (Uj h1) (Uj h2),
  fun id b o hn=>h.blt id b o (fun e=>hn (Fp.2 e)),fun i hi id Br e=>h.wfT i hi id Br (Fp.1 e),fun id cells hc c hcm id' Br e=>?_,fun b hb=>h.ownd b (Vu hb),
  fun id bx b o hb hl=>h.rngB id bx b o (M5 hb hl) hl,fun i hi=>⟨fun e=>(h.pin i hi).1 (Fp.1 e),(h.pin i hi).2⟩,fun id c b o hc=>h.stp id c b o (M5 hc trivial),fun b hb x=>h.Yx b hb (Vu x),h.Ylt,h.fr⟩
 ·simp only at hb;rw[Cp] at hb;split at hb
  ·rename_i hm;obtain⟨f,c,hc⟩:=JF id hm;rw[hc] at hb;simp only[Option.map_some,Zy,Option.some.injEq] at hb;subst hb;have Oc:=h.box id _ hc;rcases Oc with Oc|⟨b,o,h1,h2,h3,h4⟩
   ·exact .inl Oc
   ·refine .inr ⟨b,o,h1,h2.weak (fun b _=>hA b),(fun e=>by cases e),fun _ hb=>?_⟩;rcases hb with⟨id',o',hl,hb⟩|hY
    ·have W7:=Uj hl;cases f with
     |true=>exact h4 rfl (.inl ⟨id',o',W7,hb⟩)
     |false=>
      have e:=h.inj id' id b o' o W7 (by rw[hc];trivial) hb h1
      subst e;simp only at hl;rw[Cp,B7 hm,hc] at hl;exact hl
    ·cases f with
     |true=>exact h4 rfl (.inr hY)
     |false=>exact h.Yx b hY ⟨id,o,by rw[hc];trivial,h1⟩
  ·exact (h.box id b hb).step' hA
 ·simp only at hc;rw[Cp] at hc;refine h.wfB id cells ?_ c hcm id' Br (Fp.1 e);split at hc
  ·rename_i hm;obtain⟨f,c,Xn⟩:=JF id hm;rw[Xn] at hc;cases hc
  ·exact hc
theorem Ca:∀{nw:List (Nat × Bz)} {hp:Nat->Option Bz},Cl hp nw=true ->
  (∀id bx,(id,bx)∈nw->hp id=none)/\(∀id bx bx',(id,bx)∈nw->(id,bx')∈nw->bx=bx')
 |[],_,_=>⟨by simp,by simp⟩
 |(i,b)::r,hp,h=>by
  simp only[Cl,Gl,Option.isNone_iff_eq_none,Bool.not_eq_true'] at h;obtain⟨⟨h1,h2⟩,h3⟩:=h;obtain⟨h4,h5⟩:=Ca h3
  have Ge:∀bx,(i,bx) ∉ r:=by
   intro bx hm;have:r.any (fun q=>Nat.beq q.1 i)=true:=List.any_eq_true.2 ⟨_,hm,Of i⟩;rw[this] at h2;cases h2
  refine⟨fun id bx hm=>?_,fun id bx bx' hm Rr=>?_⟩
  ·rcases Bx.1 hm with e|hm
   ·cases e;exact h1
   ·exact h4 id bx hm
  ·rcases Bx.1 hm with e|hm
   ·cases e;rcases Bx.1 Rr with e|Rr
    ·cases e;rfl
    ·exact absurd Rr (Ge _)
   ·rcases Bx.1 Rr with e|Rr
    ·cases e;exact absurd hm (Ge _)
    ·exact h5 id bx bx' hm Rr
theorem F9:∀{nw:List (Nat × Bz)} {hp:Nat->Option Bz},(∀id bx bx',(id,bx)∈nw->(id,bx')∈nw->bx=bx') ->
  (∀id bx,(id,bx)∈nw->A5 hp nw id=some bx)/\(∀id,(∀bx,(id,bx) ∉ nw)->A5 hp nw id=hp id)
 |[],_,_=>⟨by simp,fun _ _=>rfl⟩
 |(i,b)::r,hp,h=>by
  obtain⟨h1,h2⟩:=F9 (nw:=r) (hp:=Db hp i (some b)) (fun id bx bx' hm Rr=>h id bx bx' (by simp[hm]) (by simp[Rr]));refine⟨fun id bx hm=>?_,fun id hn=>?_⟩
  ·by_cases hr:∃bx',(id,bx')∈r
   ·obtain⟨bx',hr⟩:=hr;have:=h id bx bx' hm (by simp[hr]);subst this;exact h1 id bx hr
   ·rcases Bx.1 hm with e|hm
    ·cases e;show A5 (Db hp i (some b)) r i=_;rw[h2 i (fun bx' hb=>hr ⟨bx',hb⟩),Ax]
    ·exact absurd ⟨bx,hm⟩ hr
  ·show A5 (Db hp i (some b)) r id=_;rw[h2 id (fun bx hb=>hn bx (by simp[hb])),Ar]
   rintro rfl
   exact hn b (by simp)
structure WC(Y:Nat->Prop)(β:Bt)(s:St)(w:World)(v:PV)(nw:List (Nat × Bz))(val:Value)(w':World)(β':Bt):Prop where
 os:w'.os=w.os
 tape:w'.tape=w.tape
 output:w'.output=w.output
 ext:Cq (fun _=>False) w w'
 old:∀id,s.hp id≠none->β' id=β id
 nlive:∀id bx,(id,bx)∈nw->Ct (some bx)
 nbox:∀id bx,(id,bx)∈nw->Wh w' (Dd (A5 s.hp nw) β' Y) β' id bx
 nblk:∀id bx b o,(id,bx)∈nw->β' id=some (b,o)->w.heap.size<=b/\b<w'.heap.size
 ninj:∀id bx id' bx' b o o',(id,bx)∈nw->(id',bx')∈nw->β' id=some (b,o)->β' id'=some (b,o')->id=id'
 nwf:∀id cells,(id,.st cells)∈nw->∀c∈cells,∀id'∈Aw c,s.hp id'≠none\/∃bx,(id',bx)∈nw
 val:Eo w' (Dd (A5 s.hp nw) β' Y) β' v val
 vwf:∀id∈Cc v,s.hp id≠none\/∃bx,(id,bx)∈nw
theorem B9.stepR(h:B9 N w0 X0 Y β s a w){d:Option Tmp}{v:PV}{nw:List (Nat × Bz)}{val:Value}(hd:I2 N d=true)(Vj:Cl s.hp nw=true)(st:WC Y β s w v nw val w' β'):B9 N w0 X0 Y β' ⟨Cd s.tm d v,A5 s.hp nw⟩ (a.put d val) w':=by
 obtain⟨ha1,ha2⟩:=Ca Vj;obtain⟨hg1,hg2⟩:=F9 (hp:=s.hp) ha2
 have Km:∀id,(∃bx,(id,bx)∈nw)\/A5 s.hp nw id=s.hp id:=fun id=>by
  by_cases hx:∃bx,(id,bx)∈nw
  ·exact .inl hx
  ·exact .inr (hg2 id fun bx hb=>hx ⟨bx,hb⟩)
 have A3s:∀id,s.hp id≠none->A5 s.hp nw id=s.hp id:=fun id hn=>by
  rcases Km id with⟨bx,hx⟩|e
  ·exact absurd (ha1 id bx hx) hn
  ·exact e
 have Ld:∀id,(s.hp id≠none\/∃bx,(id,bx)∈nw)->A5 s.hp nw id≠none:=by
  rintro id (hn|⟨bx,hx⟩)
  ·rw[A3s id hn];exact hn
  ·rw[hg1 id bx hx];simp
 have Awh:∀b,b<w.heap.size->DS (A5 s.hp nw) β' b->DS s.hp β b:=by
  rintro b hb ⟨id,o,hl,hβ⟩
  rcases Km id with⟨bx,hx⟩|e
  ·have:=(st.nblk id bx b o hx hβ).1;omega
  ·rw[e] at hl;exact⟨id,o,hl,by rw[<-st.old id (Dj hl)];exact hβ⟩
 have Aho:∀b,b<w.heap.size->Dd (A5 s.hp nw) β' Y b->Dd s.hp β Y b:=fun b hb hA=>hA.imp (Awh b hb) id;have Ap5:Cq (Dd s.hp β Y) w w':=st.ext.weaken (fun _ _ x=>x.elim);refine⟨by rw[Kj];exact h.dfr,by rw[Hy];exact h.tsz,Aah hd h.tmo,?_,?_,?_,?_,?_,?_,?_,?_,?_,?_,?_,h.Ylt,?_⟩
 ·refine Un (Q:=fun _ p u=>Eo w' (Dd (A5 s.hp nw) β' Y) β' p u) h.tsz hd (fun i hi=>?_) (fun _=>st.val);exact (h.tms i hi).step Ap5 Aho fun id Br=>st.old id (h.wfT i hi id Br)
 ·intro id b hb;simp only at hb;rcases Km id with⟨bx,hx⟩|e
  ·rw[hg1 id bx hx] at hb;cases hb;exact st.nbox id _ hx
  ·rw[e] at hb;have hβ:=st.old id (by rw[hb];simp)
   have Oc:=h.box id b hb;have Ch:=h.blt id;have Ge:s.hp id≠none:=by rw[hb];simp
   cases b with
   |st c=>
    obtain⟨b,o,h1,h2,h3⟩:=Oc;have Jh:=Ch b o Ge h1;have FM:=st.ext.keep b Jh (fun x=>x);refine⟨b,o,by rw[hβ];exact h1,fun j c hj=>?_,fun j hj=>?_⟩
    ·obtain⟨v,hv,hc⟩:=h2 j c hj;refine⟨v,by rw[World.cell?_of_block (w:=w) FM];exact hv,hc.step Ap5 Aho fun id' Br=>st.old id' ?_⟩
     exact h.wfB id _ hb c (List.mem_of_getElem? hj) id' Br
    ·rw[World.frozen?_of_block (w:=w) FM];exact h3 j hj
   |ar fz c=>
    rcases Oc with⟨h1,h2⟩|⟨b,o,h1,h2,h3,h4⟩
    ·exact .inl ⟨by rw[hβ];exact h1,h2⟩
    ·have Jh:=Ch b o Ge h1;have FM:=st.ext.keep b Jh (fun x=>x);have OX:bsz w' b=bsz w b:=by unfold bsz;rw[FM]
     refine .inr ⟨b,o,by rw[hβ];exact h1,fun j c hj=>?_,fun e j hj Y1=>?_,fun e x=>h4 e (Aho b Jh x)⟩
     ·obtain⟨v,hv,h5,hc⟩:=h2 j c hj;exact⟨v,by rw[World.cell?_of_block (w:=w) (by rw[Hu];exact FM)];exact hv,h5,hc.step Ap5 Aho⟩
     ·rw[World.frozen?_of_block (w:=w) FM];exact h3 e j hj (by rw[<-OX];exact Y1)
   |mv=>trivial
 ·intro id id' b o o' hl Pc hb Jh;simp only at hl Pc;rcases Km id with⟨bx,hx⟩|e
  ·rcases Km id' with⟨bx',BX⟩|e'
   ·exact st.ninj id bx id' bx' b o o' hx BX hb Jh
   ·rw[e'] at Pc;have h1:=(st.nblk id bx b o hx hb).1;have h2:=h.blt id' b o' (Dj Pc) (by rw[<-st.old id' (Dj Pc)];exact Jh)
    omega
  ·rw[e] at hl;rcases Km id' with⟨bx',BX⟩|e'
   ·have h1:=(st.nblk id' bx' b o' BX Jh).1;have h2:=h.blt id b o (Dj hl) (by rw[<-st.old id (Dj hl)];exact hb)
    omega
   ·rw[e'] at Pc;exact h.inj id id' b o o' hl Pc (by rw[<-st.old id (Dj hl)];exact hb) (by rw[<-st.old id' (Dj Pc)];exact Jh)
 ·intro id b o hn hb;simp only at hn;rcases Km id with⟨bx,hx⟩|e
  ·exact (st.nblk id bx b o hx hb).2
  ·rw[e] at hn;exact Io (h.blt id b o hn (by rw[<-st.old id hn];exact hb)) st.ext.size
 ·have:=Un (Q:=fun _ p _=>∀id∈Cc p,A5 s.hp nw id≠none) (val:=val) (d:=d) (v:=v) h.tsz hd (fun i hi id Br=>Ld id (.inl (h.wfT i hi id Br))) (fun _ id Br=>Ld id (st.vwf id Br));exact this
 ·intro id cells hc c hcm id' Br;simp only at hc;rcases Km id with⟨bx,hx⟩|e
  ·rw[hg1 id bx hx] at hc;cases hc;exact Ld id' (st.nwf id _ hx c hcm id' Br)
  ·rw[e] at hc;exact Ld id' (.inl (h.wfB id cells hc c hcm id' Br))
 ·rintro b ⟨id,o,hl,hb⟩
  simp only at hl;rcases Km id with⟨bx,hx⟩|e
  ·exact .inr (Nat.le_trans h.fr.step.size (st.nblk id bx b o hx hb).1)
  ·rw[e] at hl;exact h.ownd b ⟨id,o,hl,by rw[<-st.old id (Dj hl)];exact hb⟩
 ·intro id bx b o hb hl hβ Ch;simp only at hb;rcases Km id with⟨bx',hx⟩|e
  ·have:=(st.nblk id bx' b o hx hβ).1;have:=h.fr.step.size;omega
  ·rw[e] at hb;exact h.rngB id bx b o hb hl (by rw[<-st.old id (by rw[hb];simp)];exact hβ) Ch
 ·intro i hi;obtain⟨h1,h2⟩:=h.pin i hi;exact⟨Ld _ (.inl h1),by rw[st.old _ h1];exact h2⟩
 ·intro id c b o hb hβ Ch;simp only at hb;rcases Km id with⟨bx',hx⟩|e
  ·have:=(st.nblk id bx' b o hx hβ).1;have:=h.fr.step.size;omega
  ·rw[e] at hb;exact h.stp id c b o hb (by rw[<-st.old id (by rw[hb];simp)];exact hβ) Ch
 ·rintro b hY hX
  have hb:b<w.heap.size:=Io (h.Ylt b hY) h.fr.step.size;exact h.Yx b hY (Awh b hb hX)
 ·refine⟨st.os.trans h.fr.os,st.tape.trans h.fr.tape,st.output.trans h.fr.output,h.fr.step.trans st.ext (fun _ _ x=>x.elim),fun b j hb hL=>?_⟩;have FM:=st.ext.keep b (Io hb h.fr.step.size) (fun x=>x);have hc:w'.cell? ⟨b,j,none⟩=w.cell? ⟨b,j,none⟩:=World.cell?_of_block (w:=w) FM;have hf:w'.frozen? ⟨b,j,none⟩=w.frozen? ⟨b,j,none⟩:=World.frozen?_of_block (w:=w) FM;rw[hc,hf];exact h.fr.rng b j hb hL
end
open Go.RowKit
section
variable {P:Program}{N:Nat}{w0:World}{X0:F6}{Y:Nat->Prop}{β β':Bt}{s:St}{a:Act}{w w':World}{o:Oper}
theorem Ac8(cs:List Value)(A:Nat->Prop):Bw (Ck w A β) (cs.map PV.sc) cs:=by
 induction cs with
 |nil=>trivial
 |cons v r ih=>exact⟨Az.sc v,ih⟩
theorem Afb(cs:List Value):(cs.map PV.sc).flatMap Aw=[]:=by
 induction cs with
 |nil=>rfl
 |cons v r ih=>exact ih
theorem D2(h:B9 N w0 X0 Y β s a w)(x:Operand):Eo w (Dd s.hp β Y) β (Cv s.tm x) (a.eval x):=by
 cases x with
 |tmp t=>
  show Eo _ _ _ (s.tm t) (a.tmps.getD t undef);by_cases ht:t<N
  ·exact h.tms t ht
  ·rw[h.tmo t (Nat.le_of_not_lt ht)];exact Az.top _
 |const v=>
  cases v with
  |agg cs=>exact⟨cs.toList,by simp[Act.eval],Ac8 cs.toList _⟩
  |_=>exact Az.sc _
 |func f=>exact Az.sc _
 |global g=>exact Az.sc _
theorem Hg(h:B9 N w0 X0 Y β s a w)(x:Operand):∀id∈Cc (Cv s.tm x),s.hp id≠none:=by
 cases x with
 |tmp t=>
  show ∀id∈Cc (s.tm t),_;by_cases ht:t<N
  ·exact h.wfT t ht
  ·rw[h.tmo t (Nat.le_of_not_lt ht)];intro id Br;cases Br
 |const v=>
  cases v with
  |agg cs=>
   intro id Br;have:Cc (.agg (cs.toList.map .sc))=[]:=Afb cs.toList;simp only[Cv] at Br;rw[this] at Br;cases Br
  |_=>intro id Br;cases Br
 |func f=>intro id Br;cases Br
 |global g=>intro id Br;cases Br
theorem Mj{A:Nat->Prop}{v u:Value}(h:Eo w A β (.sc v) u):u=v:=Az.val h
theorem De(h:B9 N w0 X0 Y β s a w){x:Operand}{v:Value}(e:Cv s.tm x=.sc v):a.eval x=v:=by have:=D2 h x;rw[e] at this;exact Mj this
def Gj(P:Program)(a:Act)(w:World)(o:Oper)(Y:Nat->Prop)(β:Bt)(s:St)(v:PV)(fz:B5)(nw:List (Nat × Bz)):Prop:=
 (∀id∈fz,∃f c,s.hp id=some (.ar f c))/\∃val w',(execOp a.eval o).run P w=.ok (.value val) w'/\(Cl s.hp nw=true->∃β',WC Y β ⟨s.tm,Ae s.hp fz⟩ w v nw val w' β')
theorem Ahh{v:PV}{val:Value}(hv:Eo w (Dd s.hp β Y) β v val)(hr:∀id∈Cc v,s.hp id≠none):WC Y β s w v [] val w β:=
 ⟨rfl,rfl,rfl,Cq.refl _ _,fun _ _=>rfl,by simp,by simp,by simp,by simp,by simp,hv,fun id Br=>.inl (hr id Br)⟩
theorem Cz{v:PV}{val:Value}(Dv:(execOp a.eval o).run P w=.ok (.value val) w)(hv:Eo w (Dd s.hp β Y) β v val)(hr:∀id∈Cc v,s.hp id≠none):Gj P a w o Y β s v [] []:=
 ⟨by simp,val,w,Dv,fun _=>⟨β,Ahh (s:=⟨s.tm,Ae s.hp []⟩) hv hr⟩⟩
theorem Ds{v:Value}(Dv:(execOp a.eval o).run P w=.ok (.value v) w):Gj P a w o Y β s (.sc v) [] []:=Cz Dv (Az.sc v) (by intro id Br;cases Br)
structure I0(w w':World)(c:Array Value)(e:TypeId):Prop where
 os:w'.os=w.os
 tape:w'.tape=w.tape
 output:w'.output=w.output
 old:∀b,b<w.heap.size->w'.heap[b]?=w.heap[b]?
 size:w'.heap.size=w.heap.size+1
 new:∃fz:Nat × Nat,w'.heap[w.heap.size]?=some (.cells c e fz)/\(fz.1=fz.2\/c.size<=fz.1)
theorem I0.alloc(w:World)(c:Array Value)(e:TypeId):I0 w (w.alloc (.cells c e)) c e:=
 ⟨rfl,rfl,rfl,fun b hb=>Below.heap_alloc w _ b hb,by show (w.heap.push _).size=_;simp,(0,0),by show (w.heap.push _)[w.heap.size]?=_;simp,.inl rfl⟩
theorem I0.drew{c:Array Value}{e:TypeId}(h:I0 w w' c e):I0 w w'.drew c e:=⟨h.os,h.tape,h.output,h.old,h.size,h.new⟩
section
variable {c:Array Value}{e:TypeId}
theorem I0.step(h:I0 w w' c e):Cq (fun _=>False) w w':=
 ⟨by rw[h.size];omega,fun b hb _=>h.old b hb,fun b hb=>by unfold bsz;rw[h.old b hb];exact Dn _⟩
theorem I0.cell(h:I0 w w' c e)(j:Nat):w'.cell? ⟨w.heap.size,j,none⟩=c[j]?:=by obtain⟨fz,hn,_⟩:=h.new;simp[World.cell?,hn]
theorem I0.frozen(h:I0 w w' c e){j:Nat}(hj:j<c.size):w'.frozen? ⟨w.heap.size,j,none⟩=false:=by obtain⟨fz,hn,hf⟩:=h.new;simp only[World.frozen?,hn];rcases hf with hf|hf<;>simp<;>omega
theorem I0.bsz(h:I0 w w' c e):bsz w' w.heap.size=c.size:=by obtain⟨fz,hn,_⟩:=h.new;simp[Pv.bsz,hn]
end
theorem Wd{c:Array Value}{e:TypeId}{d:Nat}{bx:Bz}{v:PV}{val:Value}(hg:I0 w w' c e)(hd:s.hp d=none)(hl:Ct (some bx))(Oc:Wh w' (Dd (Db s.hp d (some bx)) (Db β d (some (w.heap.size,0))) Y) (Db β d (some (w.heap.size,0))) d bx)(hcw:∀cells,bx=.st cells->∀x∈cells,∀id'∈Aw x,s.hp id'≠none)(hv:Eo w' (Dd (Db s.hp d (some bx)) (Db β d (some (w.heap.size,0))) Y) (Db β d (some (w.heap.size,0))) v val)(hvr:∀id∈Cc v,s.hp id≠none\/id=d):WC Y β s w v [(d,bx)] val w' (Db β d (some (w.heap.size,0))) where
 os:=hg.os
 tape:=hg.tape
 output:=hg.output
 ext:=hg.step
 old:=fun id hn=>Ar _ _ (by rintro rfl;exact hn hd)
 nlive:=by intro id b hm;simp at hm;obtain⟨rfl,rfl⟩:=hm;exact hl
 nbox:=by intro id b hm;simp at hm;obtain⟨rfl,rfl⟩:=hm;exact Oc
 nblk:=by
  intro id b x y hm hb;simp at hm;obtain⟨rfl,rfl⟩:=hm;rw[Ax] at hb;simp at hb;have:=hg.size;omega
 ninj:=by intro id b id' b' x y z hm Rr _ _;simp at hm Rr;rw[hm.1,Rr.1]
 nwf:=by intro id cells hm x hx id' Br;simp at hm;exact .inl (hcw cells hm.2.symm x hx id' Br)
 val:=hv
 vwf:=by
  intro id Br;rcases hvr id Br with h|rfl
  ·exact .inl h
  ·exact .inr ⟨bx,by simp⟩
theorem Ah4{c:Array Value}{e:TypeId}(hg:I0 w w' c e){A A':Nat->Prop}(hA:∀b,b<w.heap.size->A' b->A b){cells:Ab}(h:∀(j:Nat) p,cells[j]?=some p->∃v,c[j]?=some v/\v.oneCell'=true/\Az w A p v):UQ w' A' ⟨w.heap.size,0,none⟩ cells:=by intro j p hj;obtain⟨v,hv,h1,ht⟩:=h j p hj;exact⟨v,by rw[Fe,Cu,hg.cell];exact hv,h1,ht.step (hg.step.weaken (fun _ _ x=>x.elim)) hA⟩
theorem Ah9{d:Nat}{bx:Bz}(hwf:s.hp d=none):∀b,b<w.heap.size->Dd (Db s.hp d (some bx)) (Db β d (some (w.heap.size,0))) Y b->Dd s.hp β Y b:=by
 intro b hb hA;rcases hA with⟨id,o,hl,hβ⟩|hY
 ·by_cases e:id=d
  ·subst e;rw[Ax] at hβ;simp at hβ;omega
  ·rw[Ar _ _ e] at hl hβ;exact .inl ⟨id,o,hl,hβ⟩
 ·exact .inr hY
theorem Wt{c:Array Value}{e:TypeId}{d:Nat}{cells:Ab}{fz:B5}{v:PV}{val:Value}(JF:∀id∈fz,∃f c,s.hp id=some (.ar f c))(Dv:(execOp a.eval o).run P w=.ok (.value val) w')(hg:I0 w w' c e)(hc:∀(j:Nat) p,cells[j]?=some p->∃u,c[j]?=some u/\u.oneCell'=true/\Az w (Dd (Ae s.hp fz) β Y) p u)(hv:(v=.ptr d 0/\val=.pointer (some ⟨w.heap.size,0,none⟩))\/∃es n cap,v=.view d es 0 n/\val=.slice (some ⟨w.heap.size,0,none⟩) n cap/\n<=cap/\cap*es<=c.size):
  Gj P a w o Y β s v fz [(d,.ar false cells)]:=by
 refine⟨JF,val,w',Dv,fun Vj=>⟨Db β d (some (w.heap.size,0)),?_⟩⟩;have hd:s.hp d=none:=(Ca Vj).1 d (.ar false cells) (by simp);have hd':Ae s.hp fz d=none:=Fp.2 hd;refine Wd (s:=⟨s.tm,Ae s.hp fz⟩) hg hd' trivial ?_ (fun cells hx=>by cases hx) ?_ ?_
 ·refine .inr ⟨w.heap.size,0,Ax _ _ _,?_,fun _ j _ hj=>?_,(fun x=>by cases x)⟩
  ·exact Ah4 hg (Ah9 (s:=⟨s.tm,Ae s.hp fz⟩) hd') hc
  ·rw[hg.bsz] at hj;exact hg.frozen hj
 ·rcases hv with⟨rfl,rfl⟩|⟨es,n,cap,rfl,rfl,hn,OC⟩
  ·exact⟨w.heap.size,0,Ax _ _ _,rfl⟩
  ·exact .inr ⟨w.heap.size,0,0,cap,Ax _ _ _,rfl,.inl rfl,hn,by rw[hg.bsz];omega,by rw[hg.size];omega⟩
 ·intro id Br;rcases hv with⟨rfl,_⟩|⟨es,n,cap,rfl,_⟩<;>(simp[Cc,Cn,Aw] at Br;exact .inr Br)
theorem VI{c:Array Value}{e:TypeId}{d:Nat}{cells:Ab}(Dv:(execOp a.eval o).run P w=.ok (.value (.pointer (some ⟨w.heap.size,0,none⟩))) w')(hg:I0 w w' c e)(hc:∀(j:Nat) p,cells[j]?=some p->∃u,c[j]?=some u/\Ck w (Dd s.hp β Y) β p u)(hr:∀x∈cells,∀id∈Aw x,s.hp id≠none):
  Gj P a w o Y β s (.ptr d 0) [] [(d,.st cells)]:=by
 refine⟨by simp,_,w',Dv,fun Vj=>⟨Db β d (some (w.heap.size,0)),?_⟩⟩;have hd:s.hp d=none:=(Ca Vj).1 d (.st cells) (by simp);refine Wd (s:=⟨s.tm,Ae s.hp []⟩) hg hd trivial ?_ (fun cs hx x hxm id Br=>?_) ?_ ?_
 ·refine⟨w.heap.size,0,Ax _ _ _,fun j p hj=>?_,fun j hj=>?_⟩
  ·obtain⟨u,hu,hp⟩:=hc j p hj;refine⟨u,by rw[Cu,hg.cell];exact hu,hp.step (hg.step.weaken (fun _ _ x=>x.elim)) (Ah9 (s:=⟨s.tm,Ae s.hp []⟩) hd) fun id Br=>Ar _ _ ?_⟩
   rintro rfl
   exact hr p (List.mem_of_getElem? hj) id Br hd
  ·rw[Cu];obtain⟨u,hu,_⟩:=hc j _ (List.getElem?_eq_getElem hj)
   exact hg.frozen (by
    rcases K6 j c.size with h|h
    ·exact h
    ·rw[Array.getElem?_eq_none h] at hu;cases hu)
 ·injection hx with hx;subst hx;exact hr x hxm id Br
 ·exact⟨w.heap.size,0,Ax _ _ _,rfl⟩
 ·intro id Br;simp[Cc,Cn,Aw] at Br;exact .inr Br
end
open Go.RowKit
section
variable {R:Type}{r:R}{P:Program}{N:Nat}{w0:World}{X0:F6}{Y:Nat->Prop}{β β':Bt}{s:St}{a:Act}{w w':World}{o:Oper}
theorem Ox{t:TypeId}{n:Nat}(h:(P.info? t).map (·.size)=some n)(w:World):(sizeOf t).run P w=.ok n w:=by
 cases hi:P.info? t with
 |none=>rw[hi] at h;cases h
 |some i=>rw[hi] at h;simp at h;simp[sizeOf,typeInfo,hi,h]
theorem Ao5{t:TypeId}{n:Nat}(h:Bm P t=n)(hn:0<n):(P.info? t).map (·.size)=some n:=by
 unfold Bm at h;cases hi:(P.info? t).map (·.size) with
 |none=>rw[hi] at h;simp at h;omega
 |some i=>rw[hi] at h;simp at h;rw[h]
theorem Ry{t:TypeId}{d:TypeDesc}(h:P.underlying t=some d)(w:World):(isAgg t).run P w=.ok (Cr P t) w:=by unfold isAgg Cr;rw[h];simp only[Sem.run_bind,run_underlying h,Result.andThen_ok];cases d<;>rfl
theorem Auj{t:TypeId}{v:Value}{K:PV->Option R}(h:cvK P t v K=some r):∃p,K p=some r/\Cc p=[]/\∀(w:World)(A:Nat->Prop)(β:Bt),Eo w A β p v:=by
 have sc:∀v:Value,K (.sc v)=some r->∃p,K p=some r/\Cc p=[]/\∀(w:World) (A:Nat->Prop) (β:Bt),Eo w A β p v:=fun v h=>⟨_,h,rfl,fun w A β=>Az.sc v⟩;unfold cvK at h;split at h
 ·rename_i cs;obtain⟨hl,h⟩:=Au h;obtain⟨xs,h,hxl,hx⟩:=Zh h;have hl:=D4 hl;refine⟨_,h,?_,fun w A β=>⟨cs.toList,by simp,?_⟩⟩
  ·show xs.flatMap Aw=[];rw[List.flatMap_eq_nil_iff];intro c hc;obtain⟨j,hj⟩:=List.mem_iff_getElem?.1 hc;exact Kr (hx j c hj).1
  ·refine Bw.of_at (by rw[hxl,hl]) fun i c u hc hu=>?_;obtain⟨hT,p,hp,_,EF⟩:=hx i c hc;refine (Pu hT).2 (EF w A β u ?_).1;rw[Cu,List.getElem?_map,hu] at hp;simp at hp;subst hp;exact Az.sc u
 ·split at h
  ·exact⟨_,h,rfl,fun w A β=>Az.lnil true _⟩
  ·cases h
 ·exact sc _ h
theorem FQ(h:B9 N w0 X0 Y β s a w){x:Operand}(Dv:(execOp a.eval o).run P w=.ok (.value (a.eval x)) w){K:PV->Option R}(hk:IW P o.type s.tm x K=some r):
  ∃v,K v=some r/\Gj P a w o Y β s v [] []:=by
 have dflt:K (Cv s.tm x)=some r->∃v,K v=some r/\Gj P a w o Y β s v [] []:=fun hk=>⟨_,hk,Cz Dv (D2 h x) (Hg h x)⟩;cases x with
 |const v=>
  obtain⟨p,hk,hr,hv⟩:=Auj hk;exact⟨p,hk,Cz Dv (hv _ _ _) (by rw[hr];simp)⟩
 |tmp t=>exact dflt hk
 |func f=>exact dflt hk
 |global g=>exact dflt hk
theorem Akz{x:Operand}(ho:o.op=.move x):(execOp a.eval o).run P w=.ok (.value (a.eval x)) w:=by unfold execOp;rw[ho];rfl
theorem Aev{x:Operand}(ho:o.op=.assign x):(execOp a.eval o).run P w=.ok (.value (a.eval x)) w:=by unfold execOp;rw[ho];rfl
theorem Af1(h:B9 N w0 X0 Y β s a w){c x y:Operand}(ho:o.op=.pick c x y){K:PV->Option R}(hk:(Co (Cv s.tm c) fun t=>Bd t (K (Cv s.tm x)) (K (Cv s.tm y)))=some r):
  ∃v,K v=some r/\Gj P a w o Y β s v [] []:=by
 obtain⟨b,hb,hk⟩:=Ex hk;have hc:=De h hb;rcases Rn hk with⟨rfl,hk⟩|⟨rfl,hk⟩
 ·exact⟨_,hk,Cz (by unfold execOp;rw[ho];simp[asBool,hc]) (D2 h x) (Hg h x)⟩
 ·exact⟨_,hk,Cz (by unfold execOp;rw[ho];simp[asBool,hc]) (D2 h y) (Hg h y)⟩
theorem Um{t:TypeId}{K:Ab->Option R}(h:Jw P t K=some r):∃(v:Value)(cs:Ab),K cs=some r/\EJ P t=some v/\cs.length=(Lm P t).length/\cs.length=v.cells.toList.length/\cs.length=Bm P t /\
  ∀(j:Nat) c,cs[j]?=some c->CO c/\∃u,v.cells.toList[j]?=some u/\u.oneCell'=true/\∀(w:World) (A:Nat->Prop),Az w A c u:=by
 unfold Jw at h;obtain⟨v,hz,h⟩:=Dt h;obtain⟨hl,h⟩:=Au h;obtain⟨cs,h,Y2,hc⟩:=Zh h;simp only[Gl] at hl;have IQ:=D4 hl.1
 have NC:(Lm P t).length=Bm P t:=by
  have:=hl.2;simp only[M2,Gl] at this;exact D4 this.2
 refine⟨v,cs,h,hz,Y2,by rw[Y2,IQ],by rw[Y2,NC],fun j c hj=>?_⟩;obtain⟨hT,p,hp,_,EF⟩:=hc j c hj;rw[Cu,List.getElem?_map] at hp;cases hu:v.cells.toList[j]? with
 |none=>rw[hu] at hp;cases hp
 |some u=>
  rw[hu] at hp;simp at hp;subst hp;exact⟨hT,u,rfl,(EF default (fun _=>False) (fun _=>none) u (Az.sc u)).2,fun w A=>(EF w A (fun _=>none) u (Az.sc u)).1⟩
theorem DH{t:TypeId}{v:Value}(h:EJ P t=some v)(w:World):(zeroValue t).run P w=.ok v w:=by
 unfold EJ at h;cases hi:P.info? t with
 |none=>rw[hi] at h;cases h
 |some i=>rw[hi] at h;simp at h;simp[zeroValue,typeInfo,hi,h]
theorem Acg{t:TypeId}(ho:o.op=.alloc t){d:Nat}{K:PV->B5->List (Nat × Bz)->Option R}(hk:(Jw P t fun cs=>K (.ptr d 0) [] [(d,Aqz P t cs)])=some r):∃v fz nw,K v fz nw=some r/\Gj P a w o Y β s v fz nw:=by
 obtain⟨z,cs,hk,hz,_,hl,_,hc⟩:=Um hk
 have Dv:(execOp a.eval o).run P w=.ok (.value (.pointer (some ⟨w.heap.size,0,none⟩))) (w.alloc (.cells z.cells t)):=by
  unfold execOp;rw[ho];simp[Instr.alloc,DH hz,newVar,newRow]
 have hg:=I0.alloc w z.cells t;refine⟨_,_,_,hk,?_⟩;unfold Aqz;cases Zm P t
 ·refine VI Dv hg (fun j p hj=>?_) fun x hx id Br=>?_
  ·obtain⟨hT,u,hu,_,hv⟩:=hc j p hj;exact⟨u,by simpa using hu,(Pu hT).2 (hv _ _)⟩
  ·obtain⟨j,hj⟩:=List.mem_iff_getElem?.1 hx;rw[Kr (hc j x hj).1] at Br;cases Br
 ·refine Wt (by simp) Dv hg (fun j p hj=>?_) (.inl ⟨rfl,rfl⟩);obtain⟨hT,u,hu,h1,hv⟩:=hc j p hj;exact⟨u,by simpa using hu,h1,hv _ _⟩
end
open Go.RowKit
section
variable {R:Type}{r:R}{P:Program}{N:Nat}{w0:World}{X0:F6}{Y:Nat->Prop}{β β':Bt}{s:St}{a:Act}{w w':World}{o:Oper}{A:Nat->Prop}
theorem Wj{t:TypeId}(h:M2 P t=true):(∃d,P.underlying t=some d)/\(Lm P t).length=Bm P t/\(P.info? t).map (·.size)=some (Bm P t):=by
 simp only[M2,Gl] at h;refine⟨Option.isSome_iff_exists.1 h.1,D4 h.2,?_⟩;unfold Bm;cases hi:P.info? t with
 |none=>unfold Program.underlying at h;rw[hi] at h;cases h.1
 |some i=>simp
theorem R3{v:Value}(h:v.oneCell'=true):v.cells = #[v]:=by cases v<;>first|rfl|cases h
theorem Ajb{p:PV}{v:Value}{ts:List CT}{K:Ab->Option R}(hv:Eo w A β p v)(hl:(cellsOf p).length=ts.length)(h:Vd ts (cellsOf p) 0 K=some r):
  ∃cs,K cs=some r/\cs.length=ts.length/\Bw (Ck w A β) cs v.cells.toList/\(∀u∈v.cells.toList,u.oneCell'=true)/\(∀c∈cs,∀id∈Aw c,id∈Cc p)/\∀c∈cs,(∀x,c ≠ .agg x)/\(∀x,c ≠ .tup x):=by
 obtain⟨cs,h,Y2,JD,hc⟩:=Zw h;refine⟨cs,h,Y2,?_⟩
 have single:(∀x,p ≠ .agg x)->cellsOf p=[p]:=by
  intro hp;cases p<;>first|rfl|exact absurd rfl (hp _)
 by_cases Im:∃x,p=.agg x
 ·obtain⟨x,rfl⟩:=Im;obtain⟨vs,rfl,h2⟩:=hv;have Hk:cs.length=vs.length:=by rw[Y2,<-hl];exact h2.len
  have key:∀(i:Nat) c u,cs[i]?=some c->vs[i]?=some u->Ck w A β c u/\u.oneCell'=true:=by
   intro i c u Xn hu;obtain⟨q,hq,_,_,hqv⟩:=hc i c Xn;rw[Cu] at hq;exact hqv w A β u (h2.at_ hq hu)
  refine⟨Bw.of_at Hk fun i c u Xn hu=>(key i c u Xn hu).1,?_,?_,JD⟩
  ·intro u hu;obtain⟨i,hi⟩:=List.mem_iff_getElem?.1 (show u∈vs from hu)
   have Ch:i<vs.length:=by
    rcases K6 i vs.length with h|h
    ·exact h
    ·rw[List.getElem?_eq_none h] at hi;cases hi
   exact (key i _ u (List.getElem?_eq_getElem (by omega)) hi).2
  ·intro c hcm id Br;obtain⟨i,hi⟩:=List.mem_iff_getElem?.1 hcm;obtain⟨q,hq,_,hr,_⟩:=hc i c hi;rw[Cu] at hq;show id∈x.flatMap Aw;exact List.mem_flatMap.2 ⟨q,List.mem_of_getElem? hq,hr id Br⟩
 ·have hp:∀x,p ≠ .agg x:=fun x e=>Im ⟨x,e⟩;rw[single hp] at hl hc;have IQ:cs.length=1:=by rw[Y2,<-hl];rfl
  match cs,IQ with
  |[c],_=>
   obtain⟨q,hq,hf,hr,hqv⟩:=hc 0 c rfl;simp at hq;subst hq;have Wx:∀x,p ≠ .tup x:=by rintro x rfl;exact hf
   have Uq:Ck w A β p v:=(Xj hp).1 ((Rk Wx).1 hv);obtain⟨h5,h6⟩:=hqv w A β v Uq;rw[R3 h6];refine⟨⟨h5,trivial⟩,?_,?_,JD⟩
   ·intro u hu;simp at hu;subst hu;exact h6
   ·intro c' Xn id Br;simp at Xn;subst Xn;have:=hr id Br;cases p<;>first|exact this|exact absurd rfl (hp _)|exact absurd rfl (Wx _)
end
open Go.RowKit
section
variable {R:Type}{r:R}{P:Program}{N:Nat}{w0:World}{X0:F6}{Y:Nat->Prop}{β β':Bt}{s:St}{a:Act}{w w':World}{o:Oper}{A:Nat->Prop}
theorem Bw.get{α β':Type}{R':α->β'->Prop}{zs:List α}{bs:List β'}(h:Bw R' zs bs){i:Nat}{x:α}(hx:zs[i]?=some x):∃y,bs[i]?=some y/\R' x y:=by
 have Ch:i<zs.length:=by
  rcases K6 i zs.length with h|h
  ·exact h
  ·rw[List.getElem?_eq_none h] at hx;cases hx
 have hb:bs[i]?=some (bs[i]'(by rw[<-h.len];exact Ch)):=List.getElem?_eq_getElem _
 exact⟨_,hb,h.at_ hx hb⟩
theorem Avv{p:PV}{v:Value}{ts:List CT}{K:Ab->Option R}(hv:Eo w A β p v)(hl:(cellsOf p).length=ts.length)(h:Zi ts (cellsOf p) 0 K=some r):
  ∃cs,K cs=some r/\cs.length=ts.length/\Bw (Az w A) cs v.cells.toList/\∀u∈v.cells.toList,u.oneCell'=true:=by
 obtain⟨cs,h,Y2,hc⟩:=Zh h;refine⟨cs,h,Y2,?_⟩;by_cases Im:∃x,p=.agg x
 ·obtain⟨x,rfl⟩:=Im;obtain⟨vs,rfl,h2⟩:=hv;have Hk:cs.length=vs.length:=by rw[Y2,<-hl];exact h2.len
  have key:∀(i:Nat) c u,cs[i]?=some c->vs[i]?=some u->Az w A c u/\u.oneCell'=true:=by
   intro i c u Xn hu;obtain⟨_,q,hq,_,hqv⟩:=hc i c Xn;rw[Cu] at hq;exact hqv w A β u (h2.at_ hq hu)
  refine⟨Bw.of_at Hk fun i c u Xn hu=>(key i c u Xn hu).1,?_⟩;intro u hu;obtain⟨i,hi⟩:=List.mem_iff_getElem?.1 (show u∈vs from hu)
  have Ch:i<vs.length:=by
   rcases K6 i vs.length with h|h
   ·exact h
   ·rw[List.getElem?_eq_none h] at hi;cases hi
  exact (key i _ u (List.getElem?_eq_getElem (by omega)) hi).2
 ·have hp:∀x,p ≠ .agg x:=fun x e=>Im ⟨x,e⟩;have single:cellsOf p=[p]:=by cases p<;>first|rfl|exact absurd rfl (hp _)
  rw[single] at hl hc;have IQ:cs.length=1:=by rw[Y2,<-hl];rfl
  match cs,IQ with
  |[c],_=>
   obtain⟨_,q,hq,hf,hqv⟩:=hc 0 c rfl;simp at hq;subst hq;have Wx:∀x,p ≠ .tup x:=by rintro x rfl;exact hf
   have Uq:Ck w A β p v:=(Xj hp).1 ((Rk Wx).1 hv);obtain⟨h5,h6⟩:=hqv w A β v Uq;rw[R3 h6];exact⟨⟨h5,trivial⟩,fun u hu=>by simp at hu;subst hu;exact h6⟩
theorem Alv(h:B9 N w0 X0 Y β s a w){t:TypeId}{x:Operand}(ho:o.op=.box t x){d:Nat}{K:PV->B5->List (Nat × Bz)->Option R}(hk:(At (M2 P t&&Nat.beq (cellsOf (Cv s.tm x)).length (Lm P t).length)
      (bif Zm P t then Zi (Lm P t) (cellsOf (Cv s.tm x)) 0 fun cs=>K (.ptr d 0) [] [(d,.ar false cs)]
       else Vd (Lm P t) (cellsOf (Cv s.tm x)) 0 fun cs=>K (.ptr d 0) [] [(d,.st cs)]))=some r):∃v fz nw,K v fz nw=some r/\Gj P a w o Y β s v fz nw:=by
  obtain⟨hl,hk⟩:=Au hk
  simp only[Gl] at hl
  have hl:=D4 hl.2
  have Dv:(execOp a.eval o).run P w=.ok (.value (.pointer (some ⟨w.heap.size,0,none⟩))) (w.alloc (.cells (a.eval x).cells t)):=by
    unfold execOp
    rw[ho]
    simp[Instr.box,newVar,newRow]
  have hg:=I0.alloc w (a.eval x).cells t
  cases ha:Zm P t
  · rw[ha] at hk
    obtain⟨cs,hk,_,h2,_,hr,_⟩:=Ajb (D2 h x) hl hk
    refine⟨_,_,_,hk,VI Dv hg (fun j p hj=>?_) fun c hc id Br=>Hg h x id (hr c hc id Br)⟩
    obtain⟨u,hu,hp⟩:=h2.get hj
    exact⟨u,by simpa using hu,hp⟩
  · rw[ha] at hk
    obtain⟨cs,hk,_,h2,h1⟩:=Avv (D2 h x) hl hk
    refine⟨_,_,_,hk,Wt (by simp) Dv hg (fun j p hj=>?_) (.inl ⟨rfl,rfl⟩)⟩
    obtain⟨u,hu,hp⟩:=h2.get hj
    exact⟨u,by simpa using hu,h1 u (List.mem_of_getElem? hu),hp⟩
theorem Ahm{c:PV}(h1:∀x,c ≠ .agg x)(h2:∀x,c ≠ .tup x):Cc c=Aw c:=by cases c<;>first|rfl|exact absurd rfl (h1 _)|exact absurd rfl (h2 _)
theorem HO{t:TypeId}{ad:Addr}{cs:Ab}{p:PV}(hok:M2 P t=true)(Hk:cs.length=(Lm P t).length)(JD:∀c∈cs,(∀x,c ≠ .agg x)/\(∀x,c ≠ .tup x))(hc:∀(j:Nat) c,cs[j]?=some c->∃v,w.cell? (ad.add j)=some v/\Ck w A β c v)(hp:(Cr P t=true/\p=.agg cs)\/(Cr P t=false/\cs=[p])):∃val,(loadVar t ad).run P w=.ok val w/\Eo w A β p val:=by
 obtain⟨⟨d,hd⟩,hl,hi⟩:=Wj hok;rcases hp with⟨Im,rfl⟩|⟨Im,rfl⟩
 ·have hf:∀j,j<Bm P t->w.cell? (ad.add j)=some ((w.cell? (ad.add j)).getD undef):=by
   intro j hj;obtain⟨v,hv,_⟩:=hc j _ (List.getElem?_eq_getElem (by omega));rw[hv];rfl
  refine⟨_,?_,(List.range (Bm P t)).map (fun j=>(w.cell? (ad.add j)).getD undef),rfl,?_⟩
  ·simp only[loadVar,Sem.run_bind,Ry hd,Im,Result.andThen_ok,if_true,Ox hi,run_loadCells w ad (Bm P t) _ hf];simp
  ·refine Bw.of_at (by simp;omega) fun i c u Xn hu=>?_
   obtain⟨v,hv,MS⟩:=hc i c Xn
   have Ch:i<Bm P t:=by
    rcases K6 i cs.length with h|h
    ·omega
    ·rw[List.getElem?_eq_none h] at Xn;cases Xn
   rw[List.getElem?_map,List.getElem?_range Ch] at hu;simp[hv] at hu;subst hu;exact MS
 ·obtain⟨v,hv,MS⟩:=hc 0 p rfl;have hn:=JD p (by simp);have h0:ad.add 0=ad:=by simp[Addr.add]
  rw[h0] at hv;refine⟨v,?_,(Rk hn.2).2 ((Xj hn.1).2 MS)⟩;simp only[loadVar,Sem.run_bind,Ry hd,Im,Result.andThen_ok];simp[hv]
theorem Ars{hp:Nat->Option Bz}{id:Nat}{c:Ab}(h:rd hp id=some c):hp id=some (.st c)\/∃f,hp id=some (.ar f c):=by
 unfold rd at h;split at h
 ·rename_i e;simp at h;subst h;exact .inl e
 ·rename_i f _ e;simp at h;subst h;exact .inr ⟨_,e⟩
 ·cases h
theorem YJ{hp:Nat->Option Bz}{id:Nat}{c:Ab}(h:Od hp id=some c):∃f,hp id=some (.ar f c):=by
 unfold Od at h;split at h
 ·rename_i e;simp at h;subst h;exact⟨_,e⟩
 ·cases h
theorem QR(h:B9 N w0 X0 Y β s a w){id:Nat}{c:Ab}(hr:rd s.hp id=some c){b ob:Nat}(hβ:β id=some (b,ob)){j:Nat}{p:PV}(hj:c[j]?=some p):
  ∃v,w.cell? ⟨b,ob+j,none⟩=some v/\Ck w (Dd s.hp β Y) β p v:=by
 rcases Ars hr with hb|⟨f,hb⟩
 ·obtain⟨b',o',h1,h2,_⟩:=h.box id _ hb;rw[hβ] at h1;simp at h1;obtain⟨rfl,rfl⟩:=h1;exact h2 j p hj
 ·rcases h.box id _ hb with⟨h1,_⟩|⟨b',o',h1,h2,_⟩
  ·rw[hβ] at h1;cases h1
  ·rw[hβ] at h1;simp at h1;obtain⟨rfl,rfl⟩:=h1
   obtain⟨v,hv,_,ht⟩:=h2 j p hj;rw[Fe] at hv;refine⟨v,hv,?_⟩;cases ht with
   |sc=>exact Az.sc _
   |top=>exact Az.top _
   |ub=>exact Az.ub _
   |lnil=>exact Az.lnil _ _
   |lemp=>exact Az.lemp _ _ _
   |lst es n cells a cap f hs hb hA hn hc h1 hr=>exact Az.lst es n cells a cap f hs hb hA hn hc h1 hr
theorem Pb:∀{ts:List CT}{cells:Ab}{off:Nat}{K:Ab->Option R},Zi ts cells off K=some r->Vd ts cells off K=some r
 |[],_,_,_,h=>h
 |.int k::ts,cells,off,K,h=>by
  obtain⟨n,hp,h⟩:=Gh (show A8 k (cells.getD off .top) _=some r from h);show A8 k _ _=_;rw[hp];simp only[A8,if_true];exact Pb h
 |.bool::ts,cells,off,K,h=>by
  obtain⟨n,hp,h⟩:=Ex (show Co (cells.getD off .top) _=some r from h);show Co _ _=_;rw[hp];exact Pb h
 |.str::ts,cells,off,K,h=>by
  obtain⟨n,hp,h⟩:=Ey (show Ez (cells.getD off .top) _=some r from h);show Ez _ _=_;rw[hp];exact Pb h
 |.sl es::ts,cells,off,K,h=>by
  obtain⟨z,n,c,h,hp⟩:=H3 (show M0 es (cells.getD off .top) _=some r from h);change fcK (.sl es) (cells.getD off .top) (fun c=>Vd ts cells (off+1) fun r=>K (c::r))=some r;unfold fcK;dsimp only;unfold fsK;rcases hp with hp|⟨hp,rfl,rfl,rfl⟩
  ·rw[hp];simp only[M0,Of,cond_true];exact Pb h
  ·rw[hp];exact Pb h
 |.any::ts,cells,off,K,h=>by
  obtain⟨f,a,b,hp,h⟩:=YI (show fnK (cells.getD off .top) (fun v=>Zi ts cells (off+1) fun r=>K (.sc v::r))=some r from h);show fnK (cells.getD off .top) (fun v=>Vd ts cells (off+1) fun r=>K (.sc v::r))=some r;rw[hp];exact Pb h
theorem Az.unz{w:World}{A:Nat->Prop}{z:Bool}{es n:Nat}{c:Ab}{u:Value}(h:Az w A (.lst z es n c) u):Az w A (.lst false es n c) u:=by
 cases h with
 |lnil z es=>exact .lnil false es
 |lemp es a cap=>exact .lemp es a cap
 |lst es n c a cap f h1 h2 h3 h4 h5 h6 h7=>exact .lst es n c a cap f h1 h2 h3 h4 h5 h6 h7
theorem Aly{w:World}{A:Nat->Prop}{β:Bt}{p:PV}{u:Value}(h:Ck w A β p u):Ck w A β (YR p) u:=by
 cases p with
 |lst z es n c=>exact Az.unz h
 |_=>exact h
theorem Af9(p:PV):Aw (YR p)=Aw p:=by cases p<;>rfl
theorem UY{w:World}{A:Nat->Prop}{β:Bt}:∀{cs:Ab}{vs:List Value},Bw (Ck w A β) cs vs->Bw (Ck w A β) (cs.map YR) vs
 |[],[],_=>trivial
 |_::_,_::_,h=>⟨Aly h.1,UY h.2⟩
 |[],_::_,h=>h.elim
 |_::_,[],h=>h.elim
theorem Ali{w:World}{A:Nat->Prop}{β:Bt}{p:PV}{u:Value}(h:Eo w A β p u):Eo w A β (Aj8 p) u:=by
 cases p with
 |agg cs=>
  obtain⟨vs,h1,h2⟩:=(show Iw w A β (.agg cs) u from h)
  exact⟨vs,h1,UY h2⟩
 |lst z es n c=>exact Az.unz (show Az w A (.lst z es n c) u from h)
 |_=>exact h
theorem Alq(p:PV):Cc (Aj8 p)=Cc p:=by
 cases p with
 |agg cs=>
  show (cs.map YR).flatMap Aw=cs.flatMap Aw
  induction cs with
  |nil=>rfl
  |cons a l ih=>rw[Rz,J7,J7,ih,Af9]
 |_=>rfl
theorem As1{hp:Nat->Option Bz}{t:TypeId}{x:PV}{K:PV->Option R}(h:HR P (rd hp) (Od hp) t x K=some r):
  RR P (rd hp) t x K=some r\/RR P (rd hp) t x (fun v=>K (Aj8 v))=some r:=by
 unfold HR at h;unfold RR;split at h
 ·rename_i id off;obtain⟨hb,h⟩:=Au h;rw[hb];show Gi _ _=_\/Gi _ _=_;split at h
  ·rename_i c hc;obtain⟨f,Oc⟩:=YJ hc;have:rd hp id=some c:=by unfold rd;rw[Oc]
   rw[this];exact .inr (Pb h)
  ·exact .inl h
 ·exact .inr h
 ·cases h
theorem XN(h:B9 N w0 X0 Y β s a w){t:TypeId}{x:PV}{u:Value}(hx:Eo w (Dd s.hp β Y) β x u){K:PV->Option R}(hk:RR P (rd s.hp) t x K=some r):
  ∃v ad val,K v=some r/\u=.pointer (some ad)/\(loadVar t ad).run P w=.ok val w/\Eo w (Dd s.hp β Y) β v val/\∀i∈Cc v,s.hp i≠none:=by
 unfold RR at hk;split at hk
 ·rename_i id off;obtain⟨hok,hk⟩:=Au hk;obtain⟨c,hr,hk⟩:=Dt hk;obtain⟨cs,hk,hl,JD,hc⟩:=Zw hk;obtain⟨b,ob,hβ,Ee⟩:=hx
  have hcell:∀(j:Nat) q,cs[j]?=some q->∃v,w.cell? ((⟨b,ob+off,none⟩:Addr).add j)=some v/\Ck w (Dd s.hp β Y) β q v:=by
   intro j q hq;obtain⟨p,hp,_,_,EF⟩:=hc j q hq;obtain⟨v,hv,MS⟩:=QR h hr hβ hp;exact⟨v,by rw[Fe,Qp];exact hv,(EF _ _ _ _ MS).1⟩
  have CR:∀q∈cs,∀i∈Aw q,s.hp i≠none:=by
   intro q hq i hi;obtain⟨j,hj⟩:=List.mem_iff_getElem?.1 hq;obtain⟨p,hp,_,hpr,_⟩:=hc j q hj;rcases Ars hr with hb|⟨f,hb⟩
   ·exact h.wfB id c hb p (List.mem_of_getElem? hp) i (hpr i hi)
   ·obtain⟨v,hv,MS⟩:=QR h hr hβ hp;exfalso;have C5:=hpr i hi;rcases h.box id _ hb with⟨_,rfl⟩|⟨b',o',h1,h2,_⟩
    ·simp at hp
    ·obtain⟨v',_,_,ht⟩:=h2 _ p hp;cases ht<;>cases C5
  rcases ZW hk with⟨Im,Gy⟩|⟨Im,q,rfl,Gy⟩
  ·obtain⟨val,HP,hv⟩:=HO hok hl JD hcell (.inl ⟨Im,rfl⟩);refine⟨_,_,val,Gy,Ee,HP,hv,fun i hi=>?_⟩;obtain⟨q,hq,hi⟩:=List.mem_flatMap.1 (show i∈cs.flatMap Aw from hi);exact CR q hq i hi
  ·obtain⟨val,HP,hv⟩:=HO hok hl JD hcell (.inr ⟨Im,rfl⟩);refine⟨_,_,val,Gy,Ee,HP,hv,fun i hi=>CR q (by simp) i ?_⟩;have hn:=JD q (by simp);rw[Ahm hn.1 hn.2] at hi;exact hi
 ·rename_i c off;obtain⟨hok,hk⟩:=Au hk;obtain⟨cs,hk,hl,hc⟩:=Zh hk;obtain⟨ad,Ee,hs,hb,hA,hrd⟩:=hx
  have JD:∀q∈cs,(∀x,q ≠ .agg x)/\(∀x,q ≠ .tup x):=by
   intro q hq;obtain⟨j,hj⟩:=List.mem_iff_getElem?.1 hq;exact⟨FU (hc j q hj).1,Aio (hc j q hj).1⟩
  have hcell:∀(j:Nat) q,cs[j]?=some q->∃v,w.cell? ((ad.add off).add j)=some v/\Ck w (Dd s.hp β Y) β q v:=by
   intro j q hq;obtain⟨hT,p,hp,SX,EF⟩:=hc j q hq;obtain⟨v,hv,_,ht⟩:=hrd (off+j) p hp;exact⟨v,by rw[add_add];exact hv,(Pu hT).2 (EF w (Dd s.hp β Y) β v ((Pu SX).2 ht)).1⟩
  have CR:∀q∈cs,Aw q=[]:=by
   intro q hq;obtain⟨j,hj⟩:=List.mem_iff_getElem?.1 hq;exact Kr (hc j q hj).1
  rcases ZW hk with⟨Im,Gy⟩|⟨Im,q,rfl,Gy⟩
  ·obtain⟨val,HP,hv⟩:=HO hok hl JD hcell (.inl ⟨Im,rfl⟩);refine⟨_,_,val,Gy,Ee,HP,hv,fun i hi=>?_⟩;obtain⟨q,hq,hi⟩:=List.mem_flatMap.1 (show i∈cs.flatMap Aw from hi);rw[CR q hq] at hi;cases hi
  ·obtain⟨val,HP,hv⟩:=HO hok hl JD hcell (.inr ⟨Im,rfl⟩);refine⟨_,_,val,Gy,Ee,HP,hv,fun i hi=>?_⟩;have hn:=JD q (by simp);rw[Ahm hn.1 hn.2,CR q (by simp)] at hi;cases hi
 ·cases hk
theorem Aef(h:B9 N w0 X0 Y β s a w){t:TypeId}{x:PV}{u:Value}(hx:Eo w (Dd s.hp β Y) β x u){K:PV->Option R}(hk:HR P (rd s.hp) (Od s.hp) t x K=some r):
  ∃v ad val,K v=some r/\u=.pointer (some ad)/\(loadVar t ad).run P w=.ok val w/\Eo w (Dd s.hp β Y) β v val/\∀i∈Cc v,s.hp i≠none:=by
 rcases As1 hk with hk|hk
 ·exact XN h hx hk
 ·obtain⟨v,ad,val,h1,h2,h3,h4,h5⟩:=XN h hx hk;exact⟨Aj8 v,ad,val,h1,h2,h3,Ali h4,by rw[Alq];exact h5⟩
theorem Age(h:B9 N w0 X0 Y β s a w){t:TypeId}{x:Operand}(ho:o.op=.load t x){K:PV->Option R}(hk:HR P (rd s.hp) (Od s.hp) t (Cv s.tm x) K=some r):
  ∃v,K v=some r/\Gj P a w o Y β s v [] []:=by
 obtain⟨v,ad,val,Eg,Ee,hl,hv,hr⟩:=Aef h (D2 h x) hk;refine⟨v,Eg,Cz ?_ hv hr⟩;unfold execOp;rw[ho];simp[Instr.loadAt,Instr.sureAddr,Ee,hl]
theorem Aln{x:PV}{d:Nat}{K:PV->Option R}(h:Zz x d K=some r):(∃id off,x=.ptr id off/\K (.ptr id (off+d))=some r)\/∃c off,x=.iptr c off/\K (.iptr c (off+d))=some r:=by
 unfold Zz at h;split at h
 ·exact .inl ⟨_,_,rfl,h⟩
 ·exact .inr ⟨_,_,rfl,h⟩
 ·cases h
theorem DP(h:B9 N w0 X0 Y β s a w){x:Operand}{d:Nat}{K:PV->Option R}(hk:Zz (Cv s.tm x) d K=some r)(Dv:∀ad:Addr,a.eval x=.pointer (some ad)->(execOp a.eval o).run P w=.ok (.value (.pointer (some (ad.add d)))) w):∃v,K v=some r/\Gj P a w o Y β s v [] []:=by
 have hx:=D2 h x;have SY:=Hg h x;rcases Aln hk with⟨id,off,e,hk⟩|⟨c,off,e,hk⟩
 ·rw[e] at hx SY;obtain⟨b,ob,hβ,Ee⟩:=hx;refine⟨_,hk,Cz (Dv _ Ee) ⟨b,ob,hβ,by rw[Fe,Qp]⟩ SY⟩
 ·rw[e] at hx;obtain⟨ad,Ee,h1,h2,h3,h4⟩:=hx;exact⟨_,hk,Cz (Dv _ Ee) ⟨ad,by rw[add_add],h1,h2,h3,h4⟩ (by intro i hi;cases hi)⟩
theorem PQ(h:B9 N w0 X0 Y β s a w){x:Operand}(ho:o.op=.nilCheck x){K:PV->Option R}(hk:Zz (Cv s.tm x) 0 K=some r):∃v,K v=some r/\Gj P a w o Y β s v [] []:=by refine DP h hk fun ad Ee=>?_;unfold execOp;rw[ho];simp[Ee,Addr.add]
theorem GA{t:TypeId}{f:Nat}{q:Nat × TypeId}(h:V4 P t f=some q):∃fs g,P.underlying t=some (.struct fs)/\fs[f]?=some g/\q=(g.offset,g.type):=by
 unfold V4 at h;split at h
 ·rename_i fs e;cases hg:fs[f]? with
  |none=>rw[hg] at h;cases h
  |some g=>rw[hg] at h;simp at h;exact⟨fs,g,e,hg,h.symm⟩
 ·cases h
theorem NJ(h:B9 N w0 X0 Y β s a w){t:TypeId}{x:Operand}{f:Nat}(ho:o.op=.fieldAddr t x f){K:PV->Option R}(hk:(Gi (V4 P t f) fun q=>At (Nat.ble 1 (Bm P q.2)) (Zz (Cv s.tm x) q.1 K))=some r):∃v,K v=some r/\Gj P a w o Y β s v [] []:=by
 obtain⟨q,hq,hk⟩:=Dt hk;obtain⟨hs,hk⟩:=Au hk;obtain⟨fs,g,hu,hg,rfl⟩:=GA hq;have hs:1<=Bm P g.type:=Wu hs;have L8:=Ao5 (P:=P) (t:=g.type) rfl (by omega);refine DP h hk fun ad Ee=>?_;unfold execOp;rw[ho];have Ge:¬Bm P g.type=0:=by omega
 simp[Instr.fieldAt,run_underlying hu,hg,Instr.sureAddr,Ee,fieldPlace,Ox L8,Ge]
end
open Go.RowKit
section
variable {R:Type}{r:R}{P:Program}{N:Nat}{w0:World}{X0:F6}{Y:Nat->Prop}{β β':Bt}{s:St}{a:Act}{w w':World}{o:Oper}{A:Nat->Prop}
theorem QF(h:B9 N w0 X0 Y β s a w){t:TypeId}{cs:Ab}{vs:List Value}{off:Nat}{K:PV->Option R}{x:Operand}(hx:Cv s.tm x=.agg cs)(hv:Bw (Ck w (Dd s.hp β Y) β) cs vs)(hk:At (M2 P t) (Vd (Lm P t) cs off fun c=>mkV (Cr P t) c K)=some r)(Dv:∀val,(part t ⟨vs⟩ off).run P w=.ok val w->(execOp a.eval o).run P w=.ok (.value val) w):∃v,K v=some r/\Gj P a w o Y β s v [] []:=by
 obtain⟨hok,hk⟩:=Au hk;obtain⟨⟨d,hd⟩,hl,hi⟩:=Wj hok;obtain⟨qs,hk,hql,JD,hq⟩:=Zw hk;have SY:=Hg h x;rw[hx] at SY
 have hcell:∀(j:Nat) q,qs[j]?=some q->∃v,vs[off+j]?=some v/\Ck w (Dd s.hp β Y) β q v:=by
  intro j q hj;obtain⟨p,hp,_,_,EF⟩:=hq j q hj;obtain⟨v,Uq,hc⟩:=hv.get hp;exact⟨v,Uq,(EF _ _ _ _ hc).1⟩
 have CR:∀q∈qs,∀i∈Aw q,s.hp i≠none:=by
  intro q hqm i hi;obtain⟨j,hj⟩:=List.mem_iff_getElem?.1 hqm;obtain⟨p,hp,_,hpr,_⟩:=hq j q hj;exact SY i (List.mem_flatMap.2 ⟨p,List.mem_of_getElem? hp,hpr i hi⟩)
 rcases ZW hk with⟨Im,Gy⟩|⟨Im,q,rfl,Gy⟩
 ·have CL:Bm P t=0\/off+Bm P t<=vs.length:=by
   rcases Nat.eq_zero_or_pos (Bm P t) with h0|h0
   ·exact .inl h0
   ·obtain⟨v,Uq,_⟩:=hcell (Bm P t-1) _ (List.getElem?_eq_getElem (by omega))
    have:off+(Bm P t-1)<vs.length:=by
     rcases K6 (off+(Bm P t-1)) vs.length with h|h
     ·exact h
     ·rw[List.getElem?_eq_none h] at Uq;cases Uq
    exact .inr (by omega)
  refine⟨_,Gy,Cz (Dv (.agg ⟨(vs.drop off).take (Bm P t)⟩) ?_) ⟨(vs.drop off).take (Bm P t),rfl,?_⟩ fun i hi=>?_⟩
  ·simp only[part,Sem.run_bind,Ry hd,Im,Result.andThen_ok,if_true,Ox hi];simp[List.extract_eq_take_drop]
  ·refine Bw.of_at ?_ fun i c u hc hu=>?_
   ·simp only[List.length_take,List.length_drop];omega
   ·obtain⟨v,Uq,MS⟩:=hcell i c hc
    have Ch:i<Bm P t:=by
     rcases K6 i qs.length with h|h
     ·omega
     ·rw[List.getElem?_eq_none h] at hc;cases hc
    rw[List.getElem?_take_of_lt Ch,List.getElem?_drop,Uq] at hu;cases hu;exact MS
  ·obtain⟨q,hqm,hi⟩:=List.mem_flatMap.1 (show i∈qs.flatMap Aw from hi);exact CR q hqm i hi
 ·obtain⟨v,Uq,MS⟩:=hcell 0 q rfl;have hn:=JD q (by simp);refine⟨_,Gy,Cz (Dv v ?_) ((Rk hn.2).2 ((Xj hn.1).2 MS)) fun i hi=>?_⟩
  ·simp only[part,Sem.run_bind,Ry hd,Im,Result.andThen_ok];rw[GD] at Uq;simp[Uq]
  ·rw[Ahm hn.1 hn.2] at hi;exact CR q (by simp) i hi
theorem Ad3(h:B9 N w0 X0 Y β s a w){t:TypeId}{x:Operand}{f:Nat}(ho:o.op=.field t x f){K:PV->Option R}(hk:(Gi (V4 P t f) fun q=>At (M2 P q.2)<|D3 (Cv s.tm x) fun cs=>Vd (Lm P q.2) cs q.1 fun c=>mkV (Cr P q.2) c K)=some r):∃v,K v=some r/\Gj P a w o Y β s v [] []:=by
 obtain⟨q,hq,hk⟩:=Dt hk;obtain⟨hok,hk⟩:=Au hk;obtain⟨cs,hx,hk⟩:=Kp hk;obtain⟨fs,g,hu,hg,rfl⟩:=GA hq;have hxv:=D2 h x;rw[hx] at hxv;obtain⟨vs,Ee,hv⟩:=hxv;refine QF (t:=g.type) (off:=g.offset) h hx hv (by rw[show M2 P g.type=true from hok];exact hk) fun val hp=>?_
 unfold execOp;rw[ho];simp[Instr.field,run_underlying hu,hg,asAgg,Ee,hp]
theorem TZ(h:B9 N w0 X0 Y β s a w){x:Operand}{i:Nat}(ho:o.op=.extract x i){K:PV->Option R}(hk:(match Cv s.tm x with | .tup vs=>Gi vs[i]? K|_=>none)=some r):∃v,K v=some r/\Gj P a w o Y β s v [] []:=by
 have hx:=D2 h x;have SY:=Hg h x;split at hk
 ·rename_i ps e;rw[e] at hx SY;obtain⟨p,hp,hk⟩:=Dt hk;obtain⟨vs,Ee,hv⟩:=hx;obtain⟨v,Uq,EF⟩:=hv.get hp
  have Awy:∀y,p ≠ .tup y:=by
   rintro y rfl
   have A5t:Az _ _ (.tup y) v:=EF;cases A5t
  refine⟨p,hk,Cz (val:=v) ?_ ((Rk Awy).2 EF) fun id Br=>SY id ?_⟩
  ·unfold execOp;rw[ho];simp[Instr.extract,Ee,Uq]
  ·refine List.mem_flatMap.2 ⟨p,List.mem_of_getElem? hp,?_⟩;cases p<;>first|exact Br|exact absurd rfl (Awy _)
 ·cases hk
theorem slice_form{es:Nat}{p:PV}{z:Bool}{n:Nat}{c:Ab}{v:Value}(hp:p=.lst z es n c\/(p=.sc (.slice none 0 0)/\z=true/\n=0/\c=[]))(hv:Eo w A β p v):
  (v=.slice none 0 0/\n=0/\c=[])\/(∃ad cap,v=.slice (some ad) n cap/\z=false/\n<=cap/\ad.spot=none/\ad.block<w.heap.size/\¬A ad.block/\UQ w A ad c)\/∃ad cap,v=.slice (some ad) 0 cap/\z=false/\n=0/\c=[]:=by
 have Uq:Ck w A β p v:=by rcases hp with rfl|⟨rfl,_⟩<;>exact hv
 have ht:=EI hp Uq;cases ht with
 |lnil=>exact .inl ⟨rfl,rfl,rfl⟩
 |lst _ _ _ ad cap f hs hb hA hn hc h1 hr=>exact .inr (.inl ⟨ad,cap,rfl,rfl,hn,hs,hb,hA,fun j q hj=>⟨f j,hc j q hj,h1 j q hj,hr j q hj⟩⟩)
 |lemp _ ad cap=>exact .inr (.inr ⟨ad,cap,rfl,rfl,rfl,rfl⟩)
theorem NS(h:B9 N w0 X0 Y β s a w){t:TypeId}{x i:Operand}(ho:o.op=.indexAddr t x i){K:PV->Option R}(hk:(Et (Cv s.tm i) fun _ n=>Pa P t (Cv s.tm x) n K)=some r):∃v,K v=some r/\Gj P a w o Y β s v [] []:=by
 obtain⟨ik,n,hi,hk⟩:=Eh hk;have hai:=De h hi;have hx:=D2 h x;have SY:=Hg h x;unfold Pa at hk;split at hk
 ·rename_i len e hu;obtain⟨hz,hk⟩:=Au hk;obtain⟨hb,hk⟩:=Au hk;simp only[Gl,IR] at hb;obtain⟨inf,Vc⟩:=Option.isSome_iff_exists.1 hz;refine DP h hk fun ad Ee=>?_;unfold execOp;rw[ho];simp[Instr.indexAt,asIntOf,hai,Ee,run_underlying hu,Instr.sureAddr,hb.1,hb.2,sizeOf,typeInfo,Vc,Bm]
 ·rename_i e hu;obtain⟨hz,hk⟩:=Au hk;obtain⟨inf,Vc⟩:=Option.isSome_iff_exists.1 hz;have L8:Bm P e=inf.size:=by simp[Bm,Vc]
  split at hk
  ·rename_i id es off n' e';rw[e'] at hx SY;obtain⟨MO,hk⟩:=Au hk;have MO:=D4 MO;subst MO;obtain⟨hb,hk⟩:=Au hk;simp only[Gl,IR] at hb;rcases hx with⟨_,_,rfl,_⟩|⟨b,ob,y,cap,hβ,Ee,hy,_⟩
   ·omega
   ·have hy:y=ob+off:=by rcases hy with hy|⟨rfl,_⟩<;>omega
    subst hy;refine⟨_,hk,Cz (val:=.pointer (some ⟨b,ob+(off+n.toNat*Bm P e),none⟩)) ?_ ⟨b,ob,hβ,rfl⟩ SY⟩;unfold execOp;rw[ho];simp[Instr.indexAt,asIntOf,hai,Ee,run_underlying hu,hb.1,hb.2,sizeOf,typeInfo,Vc,L8,Fe,Qp]
  ·obtain⟨z,n',c,hk,hp⟩:=H3 hk;obtain⟨hb,hk⟩:=Au hk;simp only[Gl,IR] at hb;rcases slice_form hp hx with⟨_,rfl,_⟩|⟨ad,cap,Ee,_,_,h1,h2,h3,h4⟩|⟨_,_,_,_,rfl,_⟩
   ·omega
   rotate_left
   ·omega
   ·refine⟨_,hk,Cz (val:=.pointer (some (ad.add (n.toNat*Bm P e)))) ?_ ⟨ad,rfl,h1,h2,h3,h4⟩ (by intro i hi;cases hi)⟩
    unfold execOp;rw[ho];simp[Instr.indexAt,asIntOf,hai,Ee,run_underlying hu,hb.1,hb.2,sizeOf,typeInfo,Vc,L8]
 ·cases hk
theorem Aeo(h:B9 N w0 X0 Y β s a w){t:TypeId}{x i:Operand}(ho:o.op=.index t x i){K:PV->Option R}(hk:(Et (Cv s.tm i) fun _ n=>
   match P.underlying t with
   |some .string=>Ez (Cv s.tm x) fun s=>At (decide (0<=n)) (Gi (s.data.toList[n.toNat]?) fun b=>K (.sc (.int .u8 b.toNat)))
   |some (.array len e)=>D3 (Cv s.tm x) fun cs=>At (decide (0<=n)&&decide (n<len)&&M2 P e) (Vd (Lm P e) cs (n.toNat*Bm P e) fun c=>mkV (Cr P e) c K)
   |_=>none)=some r):∃v,K v=some r/\Gj P a w o Y β s v [] []:=by
 obtain⟨ik,n,hi,hk⟩:=Eh hk;have hai:=De h hi;split at hk
 ·rename_i hu;obtain⟨sb,hx,hk⟩:=Ey hk;have Ee:=De h hx;obtain⟨h0,hk⟩:=Au hk;obtain⟨b,hb,hk⟩:=Dt hk;have h0:=of_decide_eq_true h0;refine⟨_,hk,Ds ?_⟩
  have Ch:n.toNat<sb.size:=by
   rcases K6 n.toNat sb.data.toList.length with h|h
   ·simpa using h
   ·rw[List.getElem?_eq_none h] at hb;cases hb
  have Jh:sb[n.toNat]=b:=by
   have:sb.data.toList[n.toNat]?=some sb[n.toNat]:=by
    rw[List.getElem?_eq_getElem (by simpa using Ch)];rfl
   rw[hb] at this;injection this with this;exact this.symm
  unfold execOp;rw[ho];simp[Instr.index,asIntOf,hai,Ee,run_underlying hu,h0,Ch,Jh]
 ·rename_i len e hu;obtain⟨cs,hx,hk⟩:=Kp hk;obtain⟨hb,hk⟩:=Au hk;simp only[Gl,IR] at hb;have hxv:=D2 h x;rw[hx] at hxv;obtain⟨vs,Ee,hv⟩:=hxv;obtain⟨_,_,L8⟩:=Wj hb.2;refine QF (t:=e) (off:=n.toNat*Bm P e) h hx hv (by rw[hb.2];exact hk) fun val hp=>?_
  unfold execOp;rw[ho];simp[Instr.index,asIntOf,hai,Ee,run_underlying hu,hb.1.1,hb.1.2,Ox L8,hp]
 ·cases hk
end
open Go.RowKit
section
variable {R:Type}{r:R}{P:Program}{N:Nat}{w0:World}{X0:F6}{Y:Nat->Prop}{β β':Bt}{s:St}{a:Act}{w w':World}{o:Oper}{A:Nat->Prop}
theorem Fj(h:B9 N w0 X0 Y β s a w){x:Option Operand}{dflt:Nat}{K:Nat->Option R}(hk:Jq (x.map (Cv s.tm)) dflt K=some r):
  ∃l,K l=some r/\((x=none/\l=dflt)\/∃y k,x=some y/\a.eval y=.int k (l:Int)):=by
 cases x with
 |none=>exact⟨dflt,hk,.inl ⟨rfl,rfl⟩⟩
 |some y=>
  obtain⟨k,i,hi,hk⟩:=Eh (show Et (Cv s.tm y) _=some r from hk);obtain⟨h0,hk⟩:=Au hk;have h0:=of_decide_eq_true h0;exact⟨i.toNat,hk,.inr ⟨y,k,rfl,by rw[De h hi,Int.toNat_of_nonneg h0]⟩⟩
theorem Ml{lo hi:Option Operand}{isS:Bool}{len cap l u:Nat}(hl:(lo=none/\l=0)\/∃y k,lo=some y/\a.eval y=.int k (l:Int))(hu:(hi=none/\u=len)\/∃y k,hi=some y/\a.eval y=.int k (u:Int))(h1:l<=u)(h2:u<=cap):
  (Instr.sliceBounds isS len cap (lo.map a.eval) (hi.map a.eval) none).run P w=.ok (l,u,cap) w:=by
 rcases hl with⟨rfl,rfl⟩|⟨y,k,rfl,hy⟩<;>rcases hu with⟨rfl,rfl⟩|⟨y',k',rfl,hy'⟩
 ·simp[Instr.sliceBounds]
 ·simp[Instr.sliceBounds,Instr.sliceBound,asIntOf,hy',h2]
 ·simp[Instr.sliceBounds,Instr.sliceBound,asIntOf,hy,h1]
 ·simp[Instr.sliceBounds,Instr.sliceBound,asIntOf,hy,hy',h1,h2]
theorem Dr{e:TypeId}(h:(P.info? e).isSome=true)(w:World):(sizeOf e).run P w=.ok (Bm P e) w:=by obtain⟨i,hi⟩:=Option.isSome_iff_exists.1 h;exact Ox (by simp[Bm,hi]) w
theorem SR{b j:Nat}{v:Value}(h:w.cell? ⟨b,j,none⟩=some v):j<bsz w b:=by
 unfold World.cell? at h;unfold bsz;split at h
 ·rename_i c e fz hb;simp only at hb;rw[hb];simp only[Option.isSome_none,Bool.false_eq_true,if_false] at h;rcases K6 j c.size with Ch|hge
  ·exact Ch
  ·rw[Array.getElem?_eq_none hge] at h;cases h
 ·cases h
theorem Acm(h:B9 N w0 X0 Y β s a w){t:TypeId}{x:Operand}{lo hi:Option Operand}(ho:o.op=.slice t x lo hi none){K:PV->Option R}(hk:JM P (rd s.hp) t (Cv s.tm x) (lo.map (Cv s.tm)) (hi.map (Cv s.tm)) K=some r):∃v,K v=some r/\Gj P a w o Y β s v [] []:=by
 have hx:=D2 h x;have SY:=Hg h x;unfold JM at hk;split at hk
 ·rename_i hu;obtain⟨sb,SZ,hk⟩:=Ey hk;have Ee:=De h SZ;obtain⟨l,hk,hl⟩:=Fj h hk;obtain⟨u,hk,M7⟩:=Fj h hk;obtain⟨hb,hk⟩:=Au hk;simp only[Gl,IR] at hb;refine⟨_,hk,Ds ?_⟩;unfold execOp;rw[ho];simp[Instr.sliceAt,Instr.slice,run_underlying hu,Ee,Ml hl M7 hb.1 hb.2]
 ·rename_i e hu;obtain⟨Vc,hk⟩:=Au hk;split at hk
  ·rename_i id es off n e';rw[e'] at hx SY;obtain⟨MO,hk⟩:=Au hk;have MO:=D4 MO;subst MO;obtain⟨l,hk,hl⟩:=Fj h hk;obtain⟨u,hk,M7⟩:=Fj h hk;obtain⟨hb,hk⟩:=Au hk;simp only[Gl,IR] at hb;rcases hx with⟨hβ,rfl,rfl,ad,Ee⟩|⟨b,ob,y,cap,hβ,Ee,hy,hn,OC,Ch⟩
   ·have hu0:u=0:=by omega
    have W7:l=0:=by omega
    subst hu0 W7;refine⟨_,hk,Cz (val:=.slice ad 0 0) ?_ (.inl ⟨hβ,by simp,rfl,ad,rfl⟩) SY⟩;unfold execOp;rw[ho];cases ad<;>simp[Instr.sliceAt,Instr.slice,run_underlying hu,Ee,Ml hl M7 (Dn 0) (Dn 0),Dr Vc]
   ·have Dv:(execOp a.eval o).run P w=.ok (.value (.slice (some (if cap=l then ⟨b,y,none⟩ else ⟨b,y+l*Bm P e,none⟩)) (u-l) (cap-l))) w:=by
     unfold execOp;rw[ho];have hbr:=Ml (P:=P) (w:=w) (isS:=true) hl M7 hb.1 (Nat.le_trans hb.2 hn);simp[Instr.sliceAt,Instr.slice,run_underlying hu,Ee,hbr,Dr Vc,Fe];split<;>rfl
    refine⟨_,hk,Cz Dv (.inr ?_) SY⟩;by_cases hc:cap=l
    ·rw[B7 hc];refine⟨b,ob,y,cap-l,hβ,rfl,?_,by omega,by rw[hc,Nat.sub_self];omega,Ch⟩
     by_cases h0:l*Bm P e=0
     ·rw[h0,GD];rcases hy with hy|⟨OH,Vb⟩
      ·exact .inl hy
      ·exact .inr ⟨by omega,Vb⟩
     ·exact .inr ⟨by omega,by omega⟩
    ·rw[Ba hc];refine⟨b,ob,y+l*Bm P e,cap-l,hβ,rfl,?_,by omega,?_,Ch⟩
     ·rcases hy with hy|⟨OH,Vb⟩
      ·exact .inl (by omega)
      ·exact .inr ⟨by omega,by omega⟩
     ·have:l*Bm P e+(cap-l)*Bm P e=cap*Bm P e:=by
       rw[<-Nat.add_mul]
       congr 1
       omega
      omega
  ·obtain⟨z,n,c,hk,hp⟩:=H3 hk;obtain⟨l,hk,hl⟩:=Fj h hk;obtain⟨u,hk,M7⟩:=Fj h hk;obtain⟨hb,hk⟩:=Au hk;simp only[Gl,IR] at hb;rcases slice_form hp hx with⟨Ee,rfl,rfl⟩|⟨ad,cap,Ee,rfl,hn,h1,h2,h3,h4⟩|⟨ad,cap,Ee,rfl,rfl,rfl⟩
   rotate_right
   ·have hu0:u=0:=by omega
    have W7:l=0:=by omega
    subst hu0 W7;refine⟨_,hk,Cz (val:=.slice (some (if cap=0 then ad else ad.add (0*Bm P e))) (0-0) (cap-0)) ?_ ?_ (by intro i hi;cases hi)⟩
    ·unfold execOp;rw[ho];have hbr:=Ml (P:=P) (w:=w) (isS:=true) hl M7 (Dn 0) (Nat.zero_le cap);simp[Instr.sliceAt,Instr.slice,run_underlying hu,Ee,hbr,Dr Vc];split<;>rfl
    ·have:((([]:Ab).drop (0*Bm P e)).take ((0-0)*Bm P e))=[]:=by simp
     rw[this];exact Az.lemp _ _ _
   ·have hu0:u=0:=by omega
    have W7:l=0:=by omega
    subst hu0 W7;refine⟨_,hk,Cz (val:=.slice none 0 0) ?_ ?_ (by intro i hi;cases hi)⟩
    ·unfold execOp;rw[ho];simp[Instr.sliceAt,Instr.slice,run_underlying hu,Ee,Ml hl M7 (Dn 0) (Dn 0),Dr Vc]
    ·have:((([]:Ab).drop (0*Bm P e)).take ((0-0)*Bm P e))=[]:=by simp
     rw[this];exact Az.lnil z _
   ·have Dv:(execOp a.eval o).run P w=.ok (.value (.slice (some (if cap=l then ad else ad.add (l*Bm P e))) (u-l) (cap-l))) w:=by
     unfold execOp;rw[ho];have hbr:=Ml (P:=P) (w:=w) (isS:=true) hl M7 hb.1 (Nat.le_trans hb.2 hn);simp[Instr.sliceAt,Instr.slice,run_underlying hu,Ee,hbr,Dr Vc];split<;>rfl
    refine⟨_,hk,Cz Dv ?_ (by intro i hi;cases hi)⟩
    by_cases hc:cap=l
    ·rw[B7 hc];have:u-l=0:=by omega
     rw[this];simp only[Nat.zero_mul,List.take_zero];exact Az.lst _ _ [] ad _ (fun _=>undef) h1 h2 h3 (by omega) (by simp) (by simp) (by simp)
    ·rw[Ba hc]
     have hcell:∀(j:Nat) q,((c.drop (l*Bm P e)).take ((u-l)*Bm P e))[j]?=some q->c[l*Bm P e+j]?=some q:=by
      intro j q hq;rw[List.getElem?_take] at hq;split at hq
      ·rw[List.getElem?_drop] at hq;exact hq
      ·cases hq
     refine Az.lst _ _ _ (ad.add (l*Bm P e)) _ (fun j=>(w.cell? (ad.add (l*Bm P e+j))).getD undef) (Apf h1 _) (by rw[Hu];exact h2) (by rw[Hu];exact h3) (by omega) (fun j q hq=>?_) (fun j q hq=>?_) (fun j q hq=>?_)
     ·obtain⟨v,hv,_⟩:=h4 _ q (hcell j q hq);rw[add_add,hv];rfl
     ·obtain⟨v,hv,h5,_⟩:=h4 _ q (hcell j q hq);rw[hv];exact h5
     ·obtain⟨v,hv,_,ht⟩:=h4 _ q (hcell j q hq);rw[hv];exact ht
 ·rename_i n e hu;obtain⟨Vc,hk⟩:=Au hk;split at hk
  ·rename_i id off e';rw[e'] at hx SY;obtain⟨c,hrc,hk⟩:=Dt hk;obtain⟨Hk,hk⟩:=Au hk;simp only[Gl,IR] at Hk;obtain⟨l,hk,hl⟩:=Fj h hk;obtain⟨u,hk,M7⟩:=Fj h hk;obtain⟨hb,hk⟩:=Au hk;simp only[Gl,IR] at hb;obtain⟨b,ob,hβ,Ee⟩:=hx
   have OX:ob+off+n*Bm P e<=bsz w b:=by
    obtain⟨v,hv,_⟩:=QR h hrc hβ (j:=off+n*Bm P e-1) (List.getElem?_eq_getElem (by omega));have:=SR hv;omega
   have Ch:b<w.heap.size:=h.blt id b ob (SY id (by simp[Cc,Cn,Aw])) hβ
   have Dv:(execOp a.eval o).run P w=.ok (.value (.slice (some (if n=l then ⟨b,ob+off,none⟩ else ⟨b,ob+off+l*Bm P e,none⟩)) (u-l) (n-l))) w:=by
    unfold execOp;rw[ho];have hbr:=Ml (P:=P) (w:=w) (isS:=false) hl M7 hb.1 hb.2;simp[Instr.sliceAt,Instr.sureAddr,run_underlying hu,Ee,hbr,Dr Vc,Fe]
   refine⟨_,hk,Cz Dv (.inr ?_) SY⟩;by_cases hc:n=l
   ·rw[B7 hc];refine⟨b,ob,ob+off,n-l,hβ,rfl,?_,by omega,by rw[hc,Nat.sub_self];omega,Ch⟩
    by_cases h0:l*Bm P e=0
    ·rw[h0,GD];exact .inl rfl
    ·exact .inr ⟨by omega,by omega⟩
   ·rw[Ba hc];refine⟨b,ob,ob+off+l*Bm P e,n-l,hβ,rfl,.inl (by omega),by omega,?_,Ch⟩
    have:l*Bm P e+(n-l)*Bm P e=n*Bm P e:=by
     rw[<-Nat.add_mul]
     congr 1
     omega
    omega
  ·cases hk
 ·cases hk
end
open Go.RowKit
section
variable {R:Type}{r:R}{P:Program}{N:Nat}{w0:World}{X0:F6}{Y:Nat->Prop}{β β':Bt}{s:St}{a:Act}{w w':World}{o:Oper}{A:Nat->Prop}
theorem Amk(h:B9 N w0 X0 Y β s a w){c:Call}(ho:o.op=.call c)(hc:c.callee=.builtin .len){K:PV->Option R}(hk:(Av c.args.toList fun x _=>Av c.argTypes.toList fun t _=>Alu P t (Cv s.tm x) fun n=>K (.sc (.int .i64 n)))=some r):∃v,K v=some r/\Gj P a w o Y β s v [] []:=by
 obtain⟨x,xs,SZ,hk⟩:=Bj hk;obtain⟨t,ts,hts,hk⟩:=Bj hk;have hx:=D2 h x;have Fh:c.args=(x::xs).toArray:=by rw[<-SZ]
 have NL:c.argTypes=(t::ts).toArray:=by rw[<-hts]
 have Dv:∀n:Nat,(Builtin.len_ c.argTypes o.type (c.args.map a.eval)).run P w=.ok (.int .i64 n) w->(execOp a.eval o).run P w=.ok (.value (.int .i64 n)) w:=by
  intro n hl;unfold execOp;rw[ho];simp only[resolve,hc,invoke,builtin,Sem.run_bind,Sem.run_pure,Result.andThen_ok,hl]
 unfold Alu at hk;split at hk
 ·rename_i hu;obtain⟨sb,A7t,hk⟩:=Ey hk;have Ee:=De h A7t;refine⟨_,hk,Ds (Dv _ ?_)⟩;simp[Builtin.len_,Fh,NL,run_underlying hu,Ee,goInt]
 ·rename_i n e hu;refine⟨_,hk,Ds (Dv _ ?_)⟩;simp[Builtin.len_,Fh,NL,run_underlying hu,goInt]
 ·rename_i e hu;split at hk
  ·rename_i id es off n e';rw[e'] at hx;obtain⟨_,hk⟩:=Au hk;refine⟨_,hk,Ds (Dv _ ?_)⟩;rcases hx with⟨_,_,rfl,ad,Ee⟩|⟨b,ob,y,cap,_,Ee,_⟩<;>simp[Builtin.len_,Fh,NL,run_underlying hu,Ee,goInt]
  ·obtain⟨z,n,cc,hk,hp⟩:=H3 hk;refine⟨_,hk,Ds (Dv _ ?_)⟩;rcases slice_form hp hx with⟨Ee,rfl,_⟩|⟨ad,cap,Ee,_⟩|⟨ad,cap,Ee,_,rfl,_⟩<;>simp[Builtin.len_,Fh,NL,run_underlying hu,Ee,goInt]
 ·cases hk
theorem Al7(h:B9 N w0 X0 Y β s a w){c:Call}(ho:o.op=.call c)(hc:c.callee=.builtin .cap){K:PV->Option R}(hk:(Av c.args.toList fun x _=>Av c.argTypes.toList fun t _=>Alr P t (Cv s.tm x) fun n=>K (.sc (.int .i64 n)))=some r):∃v,K v=some r/\Gj P a w o Y β s v [] []:=by
 obtain⟨x,xs,SZ,hk⟩:=Bj hk;obtain⟨t,ts,hts,hk⟩:=Bj hk;have hx:=D2 h x;have Fh:c.args=(x::xs).toArray:=by rw[<-SZ]
 have NL:c.argTypes=(t::ts).toArray:=by rw[<-hts]
 have Dv:∀n:Nat,(Builtin.cap_ c.argTypes o.type (c.args.map a.eval)).run P w=.ok (.int .i64 n) w->(execOp a.eval o).run P w=.ok (.value (.int .i64 n)) w:=by
  intro n hl;unfold execOp;rw[ho];simp only[resolve,hc,invoke,builtin,Sem.run_bind,Sem.run_pure,Result.andThen_ok,hl]
 unfold Alr at hk;split at hk
 ·rename_i e hu;obtain⟨z,n,cc,hk,hp⟩:=H3 hk;obtain⟨hz,hk⟩:=Au hk;refine⟨_,hk,Ds (Dv _ ?_)⟩;rcases slice_form hp hx with⟨Ee,rfl,_⟩|⟨ad,cap,Ee,QO,_⟩|⟨ad,cap,Ee,QO,_,_⟩
  ·simp[Builtin.cap_,Fh,NL,run_underlying hu,Ee,goInt]
  ·rw[hz] at QO;cases QO
  ·rw[hz] at QO;cases QO
 ·cases hk
theorem Akx(h:B9 N w0 X0 Y β s a w){c:Call}(ho:o.op=.call c)(hc:c.callee=.builtin .min){K:PV->Option R}(hk:(Av c.args.toList fun x r=>Av r fun y r'=>Aq r' (Aso (Cv s.tm x) (Cv s.tm y) K))=some r):∃v,K v=some r/\Gj P a w o Y β s v [] []:=by
 obtain⟨x,xs,SZ,hk⟩:=Bj hk;obtain⟨y,ys,rfl,hk⟩:=Bj hk;obtain⟨rfl,hk⟩:=El hk;obtain⟨k,n,hx,hk⟩:=Eh hk;obtain⟨m,hy,hk⟩:=Gh hk
 have Fh:c.args = #[x,y]:=by
  have:c.args=([x,y]:List Operand).toArray:=by rw[<-SZ]
  exact this
 refine⟨_,hk,Ds ?_⟩;unfold execOp;rw[ho];simp[resolve,hc,invoke,builtin,Fh,Builtin.min_,Builtin.min2,De h hx,De h hy]
theorem Akl(h:B9 N w0 X0 Y β s a w){c:Call}(ho:o.op=.call c)(hc:c.callee=.builtin .max){K:PV->Option R}(hk:(Av c.args.toList fun x r=>Av r fun y r'=>Aq r' (Att (Cv s.tm x) (Cv s.tm y) K))=some r):∃v,K v=some r/\Gj P a w o Y β s v [] []:=by
 obtain⟨x,xs,SZ,hk⟩:=Bj hk;obtain⟨y,ys,rfl,hk⟩:=Bj hk;obtain⟨rfl,hk⟩:=El hk;obtain⟨k,n,hx,hk⟩:=Eh hk;obtain⟨m,hy,hk⟩:=Gh hk
 have Fh:c.args = #[x,y]:=by
  have:c.args=([x,y]:List Operand).toArray:=by rw[<-SZ]
  exact this
 refine⟨_,hk,Ds ?_⟩;unfold execOp;rw[ho];simp[resolve,hc,invoke,builtin,Fh,Builtin.max_,Builtin.max2,De h hx,De h hy]
theorem Afq(h:B9 N w0 X0 Y β s a w){op:UnOp}{t:TypeId}{x:Operand}(ho:o.op=.unOp op t x){K:PV->Option R}(hk:unK op (Cv s.tm x) K=some r):
  ∃v,K v=some r/\Gj P a w o Y β s v [] []:=by
 unfold unK at hk;split at hk
 ·obtain⟨b,hb,hk⟩:=Ex hk;refine⟨_,hk,Ds ?_⟩;unfold execOp;rw[ho];simp[Op.unary,De h hb]
 ·obtain⟨k,n,hb,hk⟩:=Eh hk;refine⟨_,hk,Ds ?_⟩;unfold execOp;rw[ho];simp[Op.unary,Op.intArith,De h hb]
 ·obtain⟨k,n,hb,hk⟩:=Eh hk;refine⟨_,hk,Ds ?_⟩;unfold execOp;rw[ho];simp[Op.unary,Op.intBits,De h hb,A3n]
 ·cases hk
theorem Amq{op:BinOp}{k:IntKind}{m n:Int}{t:TypeId}{x y:Operand}{K:PV->Option R}(MY:op ≠ .shl)(RC:op ≠ .shr)(hk:RO op k m n K=some r):
  ∃v,K (.sc v)=some r/\(do eqGuard op t x y (.int k m) (.int k n);binOp op t (.int k m) (.int k n)).run P w=.ok v w:=by
 cases op<;>first
  |exact absurd rfl MY
  |exact absurd rfl RC
  |(obtain⟨hb,hk⟩:=Au hk;have hb:=of_decide_eq_true hb;exact⟨_,hk,by simp[eqGuard,binOp,Op.intDiv,hb]⟩)
  |exact⟨_,hk,by simp[eqGuard,binOp,-BitVec.toNat_and,-BitVec.toNat_or,-BitVec.toNat_xor,-gt_iff_lt,-ge_iff_le]<;>rfl⟩
theorem Amr{op:BinOp}{m n:ByteArray}{t:TypeId}{x y:Operand}{K:PV->Option R}(hk:SL op m n K=some r):
  ∃v,K (.sc v)=some r/\(do eqGuard op t x y (.string m) (.string n);binOp op t (.string m) (.string n)).run P w=.ok v w:=by
 cases op<;>first
  |cases hk
  |(obtain⟨hb,hk⟩:=Au hk;have hb:=of_decide_eq_true hb;exact⟨_,hk,by
    have Jh:¬(((m.size+n.size:Nat):Int)>IntKind.i64.max):=by
     have:IntKind.i64.max=9223372036854775807:=rfl;rw[this];omega
    simp only[eqGuard,binOp,Op.stringOp,Ba Jh];rfl⟩)
  |exact⟨_,hk,by simp only[eqGuard,binOp,Op.stringOp,ByteArray.toList_eq];rfl⟩
end
open Go.RowKit
section
variable {R:Type}{r:R}{P:Program}{N:Nat}{w0:World}{X0:F6}{Y:Nat->Prop}{β β':Bt}{s:St}{a:Act}{w w':World}{o:Oper}{A:Nat->Prop}
theorem RE{t:TypeId}(hu:P.underlying t=some .bool)(x y:Bool):(Op.equal t (.bool x) (.bool y)).run P w=.ok (x==y) w:=by
 have h:∀d,(Op.equalIn (d+1) t (.bool x) (.bool y)).run P w=.ok (x==y) w:=fun d=>by simp[Op.equalIn,run_underlying hu]
 exact h 9999
theorem BG{t e:TypeId}(hu:P.underlying t=some (.slice e))(x:Option Addr)(n c:Nat):(Op.equal t (.slice x n c) (.slice none 0 0)).run P w=.ok x.isNone w:=by
 have h:∀d,(Op.equalIn (d+1) t (.slice x n c) (.slice none 0 0)).run P w=.ok x.isNone w:=fun d=>by
  cases x<;>simp[Op.equalIn,run_underlying hu]
 exact h 9999
theorem Mp{t:TypeId}(d:Nat){v u:Value}(hv:(∃k m n,P.underlying t=some (.int k)/\v=.int k m/\u=.int k n)\/(∃m n,P.underlying t=some .bool/\v=.bool m/\u=.bool n)\/∃m n,P.underlying t=some .string/\v=.string m/\u=.string n){b:Bool}(hb:∀k m n,v=.int k m->u=.int k n->b=(m==n))(Jh:∀m n,v=.bool m->u=.bool n->b=(m==n))(A7q:∀m n,v=.string m->u=.string n->b=(m==n)):(Op.equalIn (d+1) t v u).run P w=.ok b w:=by
 rcases hv with⟨k,m,n,hu,rfl,rfl⟩|⟨m,n,hu,rfl,rfl⟩|⟨m,n,hu,rfl,rfl⟩
 ·rw[hb k m n rfl rfl];simp[Op.equalIn,run_underlying hu]
 ·rw[Jh m n rfl rfl];simp[Op.equalIn,run_underlying hu]
 ·rw[A7q m n rfl rfl];simp[Op.equalIn,run_underlying hu]
theorem Xv{t:TypeId}{dsc:TypeDesc}(hu:P.underlying t=some dsc)(hd:Cr P t=false){xs:Array Value}{i:Nat}{v:Value}(hv:xs[i]?=some v):(part t xs i).run P w=.ok v w:=by simp only[part,Sem.run_bind,Ry hu,hd,Result.andThen_ok];simp[hv]
theorem XX(k:IntKind)(n:Int)(K:Int->Option R):A8 k (.sc (.int k n)) K=K n:=by simp[A8]
theorem Aem(d : Nat): ∀ (fs : List Field) (i : Nat) (xs ys : Array Value) (ps qs : Ab) (K : Bool -> Option R), Abi P fs i = true -> Pt (fs.map (fty P)) ps qs K = some r ->
    (∀ (j : Nat) p, ps[j]? = some p -> ∃ v, xs[i + j]? = some v /\ Ck w A β p v) -> (∀ (j : Nat) p, qs[j]? = some p -> ∃ v, ys[i + j]? = some v /\ Ck w A β p v) ->
    ∃ b, K b = some r /\ (forIn fs ((none, ()) : Option Bool × Unit) fun (f : Field) (_ : Option Bool × Unit) =>
            if f.name = "_" then pure (ForInStep.yield ((none, ()) : Option Bool × Unit))
            else do
              let x <- part f.type xs f.offset
              let y <- part f.type ys f.offset
              let e <- Op.equalIn (d + 1) f.type x y
              if e = false then pure (ForInStep.done ((some false, ()) : Option Bool × Unit)) else pure (ForInStep.yield ((none, ()) : Option Bool × Unit)) : Sem (Option Bool × Unit)).run P w = .ok (if b then (none, ()) else (some false, ())) w
  | [], i, xs, ys, ps, qs, K, _, hk, _, _ => by
    cases ps with
    | nil => cases qs with
      | nil => exact⟨true, hk, by simp⟩
      | cons q qs => cases hk
    | cons p ps => cases hk
  | f :: fs, i, xs, ys, ps, qs, K, WQ, hk, hp, hq => by
    simp only[Abi, Gl] at WQ
    obtain⟨⟨⟨Vb, Anz⟩, hty⟩, DE⟩ := WQ
    have Vb := D4 Vb
    have QN : f.name ≠ "_" := by simpa using Anz
    cases ps with
    | nil =>
      simp only[Rz] at hk
      cases Axr : fty P f <;> rw[Axr] at hk <;> cases hk
    | cons p ps =>
      cases qs with
      | nil =>
        simp only[Rz] at hk
        cases Axr : fty P f <;> rw[Axr] at hk <;> cases hk
      | cons q qs =>
        obtain⟨v, hv, EF⟩ := hp 0 p rfl
        obtain⟨u, hu, hqu⟩ := hq 0 q rfl
        rw[GD] at hv hu
        have main : ∃ b0 dsc, P.underlying f.type = some dsc /\ Cr P f.type = false /\ (Op.equalIn (d + 1) f.type v u).run P w = .ok b0 w /\ Pt (fs.map (fty P)) ps qs (fun r => K (b0 && r)) = some r := by
          simp only[Rz] at hk
          unfold fty at hk
          split at hk
          · rename_i k Oe
            obtain⟨m, WE, Eg⟩ := Gh (show A8 k p _ = some r from hk)
            obtain⟨n, TH, Gy⟩ := Gh Eg
            subst WE TH
            have Uq : v = .int k m := Az.val (w := w) (A := A) EF
            have M7 : u = .int k n := Az.val (w := w) (A := A) hqu
            subst Uq M7
            refine⟨m == n, _, Oe, by simp[Cr, Oe], Mp d (.inl ⟨k, m, n, Oe, rfl, rfl⟩) ?_ ?_ ?_, Gy⟩
            · intro k' m' n' h1 h2; injection h1 with _ h1; injection h2 with _ h2; rw[h1, h2]
            · intro m' n' h1; cases h1
            · intro m' n' h1; cases h1
          · rename_i Oe
            obtain⟨m, WE, Eg⟩ := Ex (show Co p _ = some r from hk)
            obtain⟨n, TH, Gy⟩ := Ex Eg
            subst WE TH
            have Uq : v = .bool m := Az.val (w := w) (A := A) EF
            have M7 : u = .bool n := Az.val (w := w) (A := A) hqu
            subst Uq M7
            refine⟨m == n, _, Oe, by simp[Cr, Oe], Mp d (.inr (.inl ⟨m, n, Oe, rfl, rfl⟩)) ?_ ?_ ?_, Gy⟩
            · intro k' m' n' h1; cases h1
            · intro m' n' h1 h2; injection h1 with h1; injection h2 with h2; rw[h1, h2]
            · intro m' n' h1; cases h1
          · rename_i Oe
            obtain⟨m, WE, Eg⟩ := Ey (show Ez p _ = some r from hk)
            obtain⟨n, TH, Gy⟩ := Ey Eg
            subst WE TH
            have Uq : v = .string m := Az.val (w := w) (A := A) EF
            have M7 : u = .string n := Az.val (w := w) (A := A) hqu
            subst Uq M7
            refine⟨m == n, _, Oe, by simp[Cr, Oe], Mp d (.inr (.inr ⟨m, n, Oe, rfl, rfl⟩)) ?_ ?_ ?_, Gy⟩
            · intro k' m' n' h1; cases h1
            · intro m' n' h1; cases h1
            · intro m' n' h1 h2; injection h1 with h1; injection h2 with h2; rw[h1, h2]
          · cases hk
        obtain⟨b0, dsc, Oe, Im, he, hk⟩ := main
        obtain⟨b, hkb, Dv⟩ := Aem d fs (i + 1) xs ys ps qs _ DE hk (fun j p' hj => by have := hp (j + 1) p' hj; rwa [Qp, Nat.add_comm 1 j]) (fun j p' hj => by have := hq (j + 1) p' hj; rwa [Qp, Nat.add_comm 1 j])
        refine⟨b0 && b, hkb, ?_⟩
        have hpx : (part f.type xs f.offset).run P w = .ok v w := Xv Oe Im (by rw[Vb]; exact hv)
        have hpy : (part f.type ys f.offset).run P w = .ok u w := Xv Oe Im (by rw[Vb]; exact hu)
        cases b0
        · simp[List.forIn_cons, QN, hpx, hpy, he]
        · simp only[Zzm]
          rw[<- Dv]
          simp[List.forIn_cons, QN, hpx, hpy, he]
theorem NH(d:Nat){t:TypeId}{fs:Array Field}(hu:P.underlying t=some (.struct fs))(Gn:P.stoodInHeld t=false)(WQ:Abi P fs.toList 0=true){xs ys:Ab}{vx vy:List Value}(hvx:Bw (Ck w A β) xs vx)(hvy:Bw (Ck w A β) ys vy){K:Bool->Option R}(hk:Pt (fs.toList.map (fty P)) xs ys K=some r):
  ∃b,K b=some r/\(Op.equalIn (d+2) t (.agg ⟨vx⟩) (.agg ⟨vy⟩)).run P w=.ok b w:=by
 obtain⟨b,hkb,Dv⟩:=Aem (P:=P) (w:=w) (A:=A) (β:=β) d fs.toList 0 ⟨vx⟩ ⟨vy⟩ xs ys K WQ hk (fun j p hj=>by
   obtain⟨v,hv,hc⟩:=hvx.get hj;exact⟨v,by simpa using hv,hc⟩) (fun j p hj=>by
   obtain⟨v,hv,hc⟩:=hvy.get hj;exact⟨v,by simpa using hv,hc⟩)
 refine⟨b,hkb,?_⟩;rw[Array.forIn_toList] at Dv;rw[Op.equalIn];simp[run_underlying hu,Gn];rw[Dv];cases b<;>simp
theorem GZ:∀(ts1:List CT){ts2:List CT}{ps qs:Ab}{K:Bool->Option R},Pt (ts1++ts2) ps qs K=some r ->
  Pt ts1 (ps.take ts1.length) (qs.take ts1.length) (fun b=>Pt ts2 (ps.drop ts1.length) (qs.drop ts1.length) fun r'=>K (b&&r'))=some r
 |[],ts2,ps,qs,K,h=>by
  simp only[Vl,List.take_zero,Fi,Pt,Zzm];exact h
 |t::ts1,ts2,ps,qs,K,h=>by
  rw[Zzp] at h;cases ps with
  |nil=>cases t<;>cases h
  |cons p ps=>
   cases qs with
   |nil=>cases t<;>cases h
   |cons q qs=>
    simp only[G9,List.take_succ_cons,List.drop_succ_cons];cases t with
    |int k=>
     obtain⟨m,WE,h1⟩:=Gh (show A8 k p _=some r from h);obtain⟨n,TH,h2⟩:=Gh h1;subst WE TH;have:=GZ ts1 h2;simp only[<-Bool.and_assoc] at this;exact (XX _ _ _).trans ((XX _ _ _).trans this)
    |bool=>
     obtain⟨m,WE,h1⟩:=Ex (show Co p _=some r from h);obtain⟨n,TH,h2⟩:=Ex h1;subst WE TH;have:=GZ ts1 h2;simp only[<-Bool.and_assoc] at this;exact this
    |str=>
     obtain⟨m,WE,h1⟩:=Ey (show Ez p _=some r from h);obtain⟨n,TH,h2⟩:=Ey h1;subst WE TH;have:=GZ ts1 h2;simp only[<-Bool.and_assoc] at this;exact this
    |sl es=>cases h
    |any=>cases h
theorem Abv:∀(ts:List CT){ps qs:Ab}{K:Bool->Option R},Pt ts ps qs K=some r->ps.length=ts.length/\qs.length=ts.length
 |[],ps,qs,K,h=>by
  cases ps with
  |nil=>cases qs with
   |nil=>exact⟨rfl,rfl⟩
   |cons q qs=>cases h
  |cons p ps=>cases h
 |t::ts,ps,qs,K,h=>by
  cases ps with
  |nil=>cases t<;>cases h
  |cons p ps=>
   cases qs with
   |nil=>cases t<;>cases h
   |cons q qs=>
    have go:∃K',Pt ts ps qs K'=some r:=by
     cases t with
     |int k=>
      obtain⟨m,WE,h1⟩:=Gh (show A8 k p _=some r from h);obtain⟨n,TH,h2⟩:=Gh h1;exact⟨_,h2⟩
     |bool=>
      obtain⟨m,WE,h1⟩:=Ex (show Co p _=some r from h);obtain⟨n,TH,h2⟩:=Ex h1;exact⟨_,h2⟩
     |str=>
      obtain⟨m,WE,h1⟩:=Ey (show Ez p _=some r from h);obtain⟨n,TH,h2⟩:=Ey h1;exact⟨_,h2⟩
     |sl es=>cases h
     |any=>cases h
    obtain⟨K',h'⟩:=go;have:=Abv ts h';exact⟨by simp[this.1],by simp[this.2]⟩
theorem Abf{t:TypeId}{dsc:TypeDesc}(hu:P.underlying t=some dsc)(hd:Cr P t=true)(hi:(P.info? t).isSome=true)(xs:Array Value)(i:Nat):(part t xs i).run P w=.ok (.agg (xs.extract i (i+Bm P t))) w:=by simp only[part,Sem.run_bind,Ry hu,hd,Result.andThen_ok,if_true,Dr hi];rfl
theorem VQ{xs:Array Value}{i n:Nat}{ps:Ab}(hn:n<=ps.length)(hp:∀(j:Nat) p,ps[j]?=some p->∃v,xs[i+j]?=some v/\Ck w A β p v):Bw (Ck w A β) (ps.take n) (xs.extract i (i+n)).toList:=by
 rcases Nat.eq_zero_or_pos n with h0|h0
 ·subst h0;simp[Bw]
 have hl:n-1<ps.length:=by omega
 obtain⟨v,hv,_⟩:=hp (n-1) _ (List.getElem?_eq_getElem hl);have L8:=(Array.getElem?_eq_some_iff.1 hv).1;refine Bw.of_at (by simp;omega) fun j a b ha hb=>?_
 rw[List.getElem?_take] at ha;split at ha
 ·rename_i hj;obtain⟨v,hv,hc⟩:=hp j a ha;rw[Array.getElem?_toList,Array.getElem?_extract] at hb;split at hb
  ·rw[hv] at hb;cases hb;exact hc
  ·cases hb
 ·cases ha
theorem LF{f:Field}{gs:Array Field}(hu:P.underlying f.type=some (.struct gs)):Ac7 P f=gs.toList.map (fty P):=by unfold Ac7;rw[hu]
theorem Agk{f:Field}(h:∀gs,P.underlying f.type≠some (.struct gs)):Ac7 P f=[fty P f]:=by
 unfold Ac7;split
 ·rename_i gs hu;exact absurd hu (h gs)
 ·rfl
theorem Ah6(d : Nat): ∀ (fs : List Field) (i : Nat) (xs ys : Array Value) (ps qs : Ab) (K : Bool -> Option R), Th P fs i = true -> Pt (DC P fs) ps qs K = some r ->
    (∀ (j : Nat) p, ps[j]? = some p -> ∃ v, xs[i + j]? = some v /\ Ck w A β p v) -> (∀ (j : Nat) p, qs[j]? = some p -> ∃ v, ys[i + j]? = some v /\ Ck w A β p v) ->
    ∃ b, K b = some r /\ (forIn fs ((none, ()) : Option Bool × Unit) fun (f : Field) (_ : Option Bool × Unit) =>
            if f.name = "_" then pure (ForInStep.yield ((none, ()) : Option Bool × Unit))
            else do
              let x <- part f.type xs f.offset
              let y <- part f.type ys f.offset
              let e <- Op.equalIn (d + 2) f.type x y
              if e = false then pure (ForInStep.done ((some false, ()) : Option Bool × Unit)) else pure (ForInStep.yield ((none, ()) : Option Bool × Unit)) : Sem (Option Bool × Unit)).run P w = .ok (if b then (none, ()) else (some false, ())) w
  | [], i, xs, ys, ps, qs, K, _, hk, _, _ => by
    cases ps with
    | nil => cases qs with
      | nil => exact⟨true, hk, by simp⟩
      | cons q qs => cases hk
    | cons p ps => cases hk
  | f :: fs, i, xs, ys, ps, qs, K, WQ, hk, hp, hq => by
    simp only[Th, Gl] at WQ
    obtain⟨⟨Vb, Anz⟩, hty⟩ := WQ
    have Vb := D4 Vb
    have QN : f.name ≠ "_" := by simpa using Anz
    have main : ∃ b0 v u n, (part f.type xs f.offset).run P w = .ok v w /\ (part f.type ys f.offset).run P w = .ok u w /\ (Op.equalIn (d + 2) f.type v u).run P w = .ok b0 w /\ Th P fs (i + n) = true /\ Pt (DC P fs) (ps.drop n) (qs.drop n) (fun r' => K (b0 && r')) = some r := by
      have hk := GZ (Ac7 P f) (show Pt (Ac7 P f ++ DC P fs) ps qs K = some r from hk)
      have Hk := Abv _ hk
      rw[List.length_take, List.length_take] at Hk
      have plain : (∀ gs, P.underlying f.type ≠ some (.struct gs)) -> Th P fs (i + 1) = true -> (match P.underlying f.type with | some (.int _) => true | some .bool => true | some .string => true | _ => false) = true ->
          ∃ b0 v u n, (part f.type xs f.offset).run P w = .ok v w /\ (part f.type ys f.offset).run P w = .ok u w /\ (Op.equalIn (d + 2) f.type v u).run P w = .ok b0 w /\ Th P fs (i + n) = true /\ Pt (DC P fs) (ps.drop n) (qs.drop n) (fun r' => K (b0 && r')) = some r := by
        intro hs Ayd NM
        rw[Agk hs] at hk Hk
        simp only[List.length_singleton] at hk Hk
        obtain⟨p, ps, rfl⟩ : ∃ p ps', ps = p :: ps' := by
          cases ps with
          | nil => simp at Hk
          | cons p ps => exact⟨p, ps, rfl⟩
        obtain⟨q, qs, rfl⟩ : ∃ q qs', qs = q :: qs' := by
          cases qs with
          | nil => simp at Hk
          | cons q qs => exact⟨q, qs, rfl⟩
        obtain⟨v, hv, EF⟩ := hp 0 p rfl
        obtain⟨u, hu, hqu⟩ := hq 0 q rfl
        rw[GD] at hv hu
        simp only[List.take_succ_cons, List.take_zero, List.drop_succ_cons, Fi] at hk ⊢
        have one : ∃ b0 dsc, P.underlying f.type = some dsc /\ Cr P f.type = false /\ (Op.equalIn (d + 2) f.type v u).run P w = .ok b0 w /\ Pt (DC P fs) ps qs (fun r' => K (b0 && r')) = some r := by
          unfold fty at hk
          split at hk
          · rename_i k Oe
            obtain⟨m, WE, Eg⟩ := Gh (show A8 k p _ = some r from hk)
            obtain⟨n, TH, Gy⟩ := Gh Eg
            subst WE TH
            have Uq : v = .int k m := Az.val (w := w) (A := A) EF
            have M7 : u = .int k n := Az.val (w := w) (A := A) hqu
            subst Uq M7
            have e : ∀ b : Bool, (b && true) = b := Bool.and_true
            simp only[Pt, e] at Gy
            refine⟨m == n, _, Oe, by simp[Cr, Oe], Mp (d + 1) (.inl ⟨k, m, n, Oe, rfl, rfl⟩) ?_ ?_ ?_, Gy⟩
            · intro k' m' n' h1 h2; injection h1 with _ h1; injection h2 with _ h2; rw[h1, h2]
            · intro m' n' h1; cases h1
            · intro m' n' h1; cases h1
          · rename_i Oe
            obtain⟨m, WE, Eg⟩ := Ex (show Co p _ = some r from hk)
            obtain⟨n, TH, Gy⟩ := Ex Eg
            subst WE TH
            have Uq : v = .bool m := Az.val (w := w) (A := A) EF
            have M7 : u = .bool n := Az.val (w := w) (A := A) hqu
            subst Uq M7
            have e : ∀ b : Bool, (b && true) = b := Bool.and_true
            simp only[Pt, e] at Gy
            refine⟨m == n, _, Oe, by simp[Cr, Oe], Mp (d + 1) (.inr (.inl ⟨m, n, Oe, rfl, rfl⟩)) ?_ ?_ ?_, Gy⟩
            · intro k' m' n' h1; cases h1
            · intro m' n' h1 h2; injection h1 with h1; injection h2 with h2; rw[h1, h2]
            · intro m' n' h1; cases h1
          · rename_i Oe
            obtain⟨m, WE, Eg⟩ := Ey (show Ez p _ = some r from hk)
            obtain⟨n, TH, Gy⟩ := Ey Eg
            subst WE TH
            have Uq : v = .string m := Az.val (w := w) (A := A) EF
            have M7 : u = .string n := Az.val (w := w) (A := A) hqu
            subst Uq M7
            have e : ∀ b : Bool, (b && true) = b := Bool.and_true
            simp only[Pt, e] at Gy
            refine⟨m == n, _, Oe, by simp[Cr, Oe], Mp (d + 1) (.inr (.inr ⟨m, n, Oe, rfl, rfl⟩)) ?_ ?_ ?_, Gy⟩
            · intro k' m' n' h1; cases h1
            · intro m' n' h1; cases h1
            · intro m' n' h1 h2; injection h1 with h1; injection h2 with h2; rw[h1, h2]
          · cases hk
        obtain⟨b0, dsc, Oe, Im, he, hk⟩ := one
        exact⟨b0, v, u, 1, Xv Oe Im (by rw[Vb]; exact hv), Xv Oe Im (by rw[Vb]; exact hu), he, Ayd, by simpa using hk⟩
      split at hty
      · rename_i k Oe
        exact plain (fun gs e => by rw[Oe] at e; cases e) hty (by rw[Oe])
      · rename_i Oe
        exact plain (fun gs e => by rw[Oe] at e; cases e) hty (by rw[Oe])
      · rename_i Oe
        exact plain (fun gs e => by rw[Oe] at e; cases e) hty (by rw[Oe])
      · rename_i gs Oe
        simp only[Gl, Bool.not_eq_true'] at hty
        obtain⟨⟨⟨⟨hfp, Gn⟩, hi⟩, L8⟩, DE⟩ := hty
        have L8 := D4 L8
        have Y2 : (Ac7 P f).length = gs.size := by rw[LF Oe, List.length_map, Array.length_toList]
        rw[Y2] at hk Hk
        rw[LF Oe] at hk
        have hx := VQ (n := gs.size) (by omega) hp
        have hy := VQ (n := gs.size) (by omega) hq
        obtain⟨b0, hkb, he⟩ := NH d Oe Gn hfp hx hy hk
        have ha : Cr P f.type = true := by simp[Cr, Oe]
        exact⟨b0, _, _, gs.size, by rw[Abf Oe ha hi, Vb, L8], by rw[Abf Oe ha hi, Vb, L8], he, DE, hkb⟩
      · cases hty
    obtain⟨b0, v, u, n, hpx, hpy, he, Ayd, hk⟩ := main
    obtain⟨b, hkb, Dv⟩ := Ah6 d fs (i + n) xs ys (ps.drop n) (qs.drop n) _ Ayd hk (fun j p' hj => by rw[List.getElem?_drop] at hj; have := hp (n + j) p' hj; rwa [<- Qp] at this) (fun j p' hj => by rw[List.getElem?_drop] at hj; have := hq (n + j) p' hj; rwa [<- Qp] at this)
    refine⟨b0 && b, hkb, ?_⟩
    cases b0
    · simp[List.forIn_cons, QN, hpx, hpy, he]
    · simp only[Zzm]
      rw[<- Dv]
      simp[List.forIn_cons, QN, hpx, hpy, he]
theorem SI(d:Nat){t:TypeId}{fs:Array Field}(hu:P.underlying t=some (.struct fs))(Gn:P.stoodInHeld t=false)(WQ:Th P fs.toList 0=true){xs ys:Ab}{vx vy:List Value}(hvx:Bw (Ck w A β) xs vx)(hvy:Bw (Ck w A β) ys vy){K:Bool->Option R}(hk:Pt (DC P fs.toList) xs ys K=some r):
  ∃b,K b=some r/\(Op.equalIn (d+3) t (.agg ⟨vx⟩) (.agg ⟨vy⟩)).run P w=.ok b w:=by
 obtain⟨b,hkb,Dv⟩:=Ah6 (P:=P) (w:=w) (A:=A) (β:=β) d fs.toList 0 ⟨vx⟩ ⟨vy⟩ xs ys K WQ hk (fun j p hj=>by
   obtain⟨v,hv,hc⟩:=hvx.get hj;exact⟨v,by simpa using hv,hc⟩) (fun j p hj=>by
   obtain⟨v,hv,hc⟩:=hvy.get hj;exact⟨v,by simpa using hv,hc⟩)
 refine⟨b,hkb,?_⟩;rw[Array.forIn_toList] at Dv;rw[Op.equalIn];simp[run_underlying hu,Gn];rw[Dv];cases b<;>simp
theorem VJ(h:B9 N w0 X0 Y β s a w){t:TypeId}{fs:Array Field}{x y:Operand}{op:BinOp}(hop:op=.eql\/op=.neq)(hu:P.underlying t=some (.struct fs))(WQ:YP P t fs=true){xs ys:Ab}(hx:Cv s.tm x=.agg xs)(hy:Cv s.tm y=.agg ys){K:Bool->Option R}(hk:Pt (DC P fs.toList) xs ys K=some r):
  ∃b,K b=some r/\(do eqGuard op t x y (a.eval x) (a.eval y);binOp op t (a.eval x) (a.eval y)).run P w=.ok (.bool (if op=.eql then b else !b)) w:=by
 have hxv:=D2 h x;have hyv:=D2 h y;rw[hx] at hxv;rw[hy] at hyv;obtain⟨vx,Ee,hvx⟩:=hxv;obtain⟨vy,hay,hvy⟩:=hyv;simp only[YP,Gl,Bool.not_eq_true'] at WQ;obtain⟨⟨WQ,Gn⟩,heg⟩:=WQ;obtain⟨b,hkb,heq⟩:=SI 9997 hu Gn WQ hvx hvy hk;have heq:(Op.equal t (.agg ⟨vx⟩) (.agg ⟨vy⟩)).run P w=.ok b w:=heq;refine⟨b,hkb,?_⟩;rw[Ee,hay];rcases hop with rfl|rfl
 ·simp[eqGuard,binOp,heq,heg]
 ·simp[eqGuard,binOp,heq,heg]
theorem Abw(h:B9 N w0 X0 Y β s a w){op:BinOp}{t ty:TypeId}{x y:Operand}(ho:o.op=.binOp op t x y ty){K:PV->Option R}(hk:AQ P op t (Cv s.tm x) (Cv s.tm y) K=some r):∃v,K v=some r/\Gj P a w o Y β s v [] []:=by
 have Dv:∀v,(do eqGuard op t x y (a.eval x) (a.eval y);binOp op t (a.eval x) (a.eval y)).run P w=.ok v w->(execOp a.eval o).run P w=.ok (.value v) w:=by
  intro v hv;unfold execOp;rw[ho];simp only[Sem.run_bind] at hv ⊢;rw[hv];rfl
 unfold AQ at hk;split at hk
 ·rename_i fs hu;split at hk
  ·obtain⟨WQ,hk⟩:=Au hk;obtain⟨xs,hx,hk⟩:=Kp hk;obtain⟨ys,hy,hk⟩:=Kp hk;obtain⟨b,hk,hr⟩:=VJ h (.inl rfl) hu WQ hx hy hk;exact⟨_,hk,Ds (Dv _ (by rw[hr];rfl))⟩
  ·obtain⟨WQ,hk⟩:=Au hk;obtain⟨xs,hx,hk⟩:=Kp hk;obtain⟨ys,hy,hk⟩:=Kp hk;obtain⟨b,hk,hr⟩:=VJ h (.inr rfl) hu WQ hx hy hk;exact⟨_,hk,Ds (Dv _ (by rw[hr];rfl))⟩
  ·cases hk
 ·unfold Apv at hk;split at hk
  ·rename_i k hu;split at hk
   ·obtain⟨m,hx,hk⟩:=Gh hk;obtain⟨k2,n,hy,hk⟩:=Eh hk;obtain⟨hb,hk⟩:=Au hk;have hb:=of_decide_eq_true hb;refine⟨_,hk,Ds (Dv _ ?_)⟩;have:¬n<0:=by omega
    simp[eqGuard,binOp,Op.shift,De h hx,De h hy,this]
   ·obtain⟨m,hx,hk⟩:=Gh hk;obtain⟨k2,n,hy,hk⟩:=Eh hk;obtain⟨hb,hk⟩:=Au hk;have hb:=of_decide_eq_true hb;refine⟨_,hk,Ds (Dv _ ?_)⟩;have:¬n<0:=by omega
    simp[eqGuard,binOp,Op.shift,De h hx,De h hy,this]
   ·rename_i MY RC;obtain⟨m,hx,hk⟩:=Gh hk;obtain⟨n,hy,hk⟩:=Gh hk;obtain⟨v,hk,hr⟩:=Amq (P:=P) (w:=w) (t:=t) (x:=x) (y:=y) MY RC hk;exact⟨_,hk,Ds (Dv _ (by rw[De h hx,De h hy];exact hr))⟩
  ·rename_i hu;obtain⟨m,hx,hk⟩:=Ey hk;obtain⟨n,hy,hk⟩:=Ey hk;obtain⟨v,hk,hr⟩:=Amr (P:=P) (w:=w) (t:=t) (x:=x) (y:=y) hk;exact⟨_,hk,Ds (Dv _ (by rw[De h hx,De h hy];exact hr))⟩
  ·rename_i hu;split at hk
   ·obtain⟨m,hx,hk⟩:=Ex hk;obtain⟨n,hy,hk⟩:=Ex hk;refine⟨_,hk,Ds (Dv _ ?_)⟩;simp[eqGuard,binOp,De h hx,De h hy,RE hu]
   ·obtain⟨m,hx,hk⟩:=Ex hk;obtain⟨n,hy,hk⟩:=Ex hk;refine⟨_,hk,Ds (Dv _ ?_)⟩;simp[eqGuard,binOp,De h hx,De h hy,RE hu]
   ·cases hk
  ·rename_i e hu;have hx:=D2 h x
   have nilQ:∀{e:Bool} {K':PV->Option R},SA e (Cv s.tm x) K'=some r->∃q ad n c,K' q=some r/\a.eval x=.slice ad n c/\(q=.sc (.bool (if ad.isNone then e else !e))\/q=.ub):=by
    intro e K' hq;unfold SA at hq;split at hq
    ·rename_i e';exact⟨_,none,0,0,hq,De h e',.inl rfl⟩
    ·rename_i z es n c e';rcases slice_form (.inl e') hx with⟨Ee,rfl,_⟩|⟨ad,cap,Ee,rfl,_⟩|⟨ad,cap,Ee,rfl,rfl,_⟩
     ·rcases Rn hq with⟨_,hq⟩|⟨_,hq⟩
      ·exact⟨_,none,0,0,hq,Ee,.inl rfl⟩
      ·rcases Rn hq with⟨hb,_⟩|⟨_,hq⟩
       ·exact absurd (of_decide_eq_true hb) (by omega)
       ·exact⟨_,none,0,0,hq,Ee,.inr rfl⟩
     ·rcases Rn hq with⟨hz,_⟩|⟨_,hq⟩
      ·cases hz
      ·rcases Rn hq with⟨_,hq⟩|⟨_,hq⟩
       ·exact⟨_,some ad,n,cap,hq,Ee,.inl rfl⟩
       ·exact⟨_,some ad,n,cap,hq,Ee,.inr rfl⟩
     ·rcases Rn hq with⟨hz,_⟩|⟨_,hq⟩
      ·cases hz
      ·rcases Rn hq with⟨hb,_⟩|⟨_,hq⟩
       ·exact absurd (of_decide_eq_true hb) (by omega)
       ·exact⟨_,some ad,0,cap,hq,Ee,.inr rfl⟩
    ·rename_i id es off n e';rw[e'] at hx;rcases hx with⟨_,_,rfl,ad,Ee⟩|⟨b,ob,y',cap,_,Ee,_⟩
     ·rcases Rn hq with⟨hb,_⟩|⟨_,hq⟩
      ·exact absurd (of_decide_eq_true hb) (by omega)
      ·exact⟨_,ad,0,0,hq,Ee,.inr rfl⟩
     ·rcases Rn hq with⟨_,hq⟩|⟨_,hq⟩
      ·exact⟨_,_,n,cap,hq,Ee,.inl rfl⟩
      ·exact⟨_,_,n,cap,hq,Ee,.inr rfl⟩
    ·cases hq
   split at hk
   ·rename_i hy;obtain⟨q,ad,n,c,hk,Ee,hb⟩:=nilQ hk;rcases hb with rfl|rfl
    ·refine⟨_,hk,Ds (Dv _ ?_)⟩;cases ad<;>simp[eqGuard,binOp,Ee,De h hy,BG hu]
    ·refine⟨_,hk,Cz (val:=.bool ad.isNone) (Dv _ ?_) (Az.ub _) (by intro i hi;cases hi)⟩
     simp[eqGuard,binOp,Ee,De h hy,BG hu]
   ·rename_i hy;obtain⟨q,ad,n,c,hk,Ee,hb⟩:=nilQ hk;rcases hb with rfl|rfl
    ·refine⟨_,hk,Ds (Dv _ ?_)⟩;cases ad<;>simp[eqGuard,binOp,Ee,De h hy,BG hu]
    ·refine⟨_,hk,Cz (val:=.bool !ad.isNone) (Dv _ ?_) (Az.ub _) (by intro i hi;cases hi)⟩
     simp[eqGuard,binOp,Ee,De h hy,BG hu]
   ·cases hk
  ·cases hk
end
open Go.RowKit
section
variable {R:Type}{r:R}{P:Program}{N:Nat}{w0:World}{X0:F6}{Y:Nat->Prop}{β β':Bt}{s:St}{a:Act}{w w':World}{o:Oper}{A:Nat->Prop}
theorem Y9:∀{c:Ab}{l:List UInt8},bytesOf c=some l->∃ns:Cg,c=ns.map (fun n=>.sc (.int .u8 n))/\l=ns.map fun n=>n.toNat.toUInt8
 |[],l,h=>⟨[],rfl,by simp[bytesOf] at h;subst h;rfl⟩
 |p::c,l,h=>by
  unfold bytesOf at h;split at h
  ·rename_i e;cases e
  ·rename_i n r e;cases e;cases hr:bytesOf c with
   |none=>rw[hr] at h;cases h
   |some l'=>
    rw[hr] at h;simp at h;obtain⟨ns,rfl,rfl⟩:=Y9 hr;exact⟨n::ns,rfl,h.symm⟩
  ·cases h
theorem Ye:∀(ns:Cg)(b:ByteArray),ns.foldl (fun r n=>r.push (UInt8.ofNat n.toNat)) b=⟨b.data++(ns.map fun n=>n.toNat.toUInt8).toArray⟩
 |[],b=>by simp
 |n::ns,b=>by
  simp only[List.foldl_cons];rw[Ye ns];simp[ByteArray.push]
theorem Aeu(h:B9 N w0 X0 Y β s a w){es:Nat}{x:Operand}{K:Nat->Ab->Option R}(hk:Afp (Od s.hp) es (Cv s.tm x) K=some r):
  ∃n c,K n c=some r/\(((∃ad,a.eval x=.slice ad 0 0)/\n=0/\c=[])\/∃ad cap,a.eval x=.slice (some ad) n cap/\n<=cap/\(c=[]\/ad.block<w.heap.size)/\UQ w (Dd s.hp β Y) ad c):=by
 have hx:=D2 h x;have SY:=Hg h x;unfold Afp at hk;split at hk
 ·rename_i id es' off n e;rw[e] at hx SY;cases hb:Nat.beq es' es
  ·rw[hb] at hk;cases hk
  ·rw[hb] at hk;obtain⟨c,hc,hk⟩:=Dt (show Gi _ _=some r from hk);obtain⟨hl,hk⟩:=Au hk;have hl:=of_decide_eq_true hl;obtain⟨f,Al8⟩:=YJ hc;refine⟨_,_,hk,?_⟩;rcases hx with⟨_,rfl,rfl,ad,Ee⟩|⟨b,ob,y,cap,hβ,Ee,hy,hn,_,Ch⟩
   ·exact .inl ⟨⟨ad,Ee⟩,rfl,by simp⟩
   ·refine .inr ⟨_,cap,Ee,hn,.inr Ch,fun j p hj=>?_⟩
    have Ave:0<n*es:=by
     rcases Nat.eq_zero_or_pos (n*es) with h0|h0
     ·rw[h0] at hj;simp at hj
     ·exact h0
    have OH:n≠0:=by rintro rfl;simp at Ave
    have hy:y=ob+off:=by rcases hy with hy|⟨h0,_⟩<;>omega
    subst hy;rw[List.getElem?_take] at hj;split at hj
    ·rw[List.getElem?_drop] at hj;rcases h.box id _ Al8 with⟨h1,_⟩|⟨b',o',h1,h2,_⟩
     ·rw[hβ] at h1;cases h1
     ·rw[hβ] at h1;simp at h1;obtain⟨rfl,rfl⟩:=h1
      obtain⟨v,hv,h3,ht⟩:=h2 (off+j) p hj;rw[Fe] at hv;exact⟨v,by rw[Fe,Qp];exact hv,h3,ht⟩
    ·cases hj
 ·obtain⟨z,n,c,hk,hp⟩:=H3 hk;refine⟨n,c,hk,?_⟩;rcases slice_form hp hx with h1|⟨ad,cap,Ee,_,hn,h1,h2,_,h4⟩|⟨ad,cap,Ee,_,rfl,rfl⟩
  ·exact .inl ⟨⟨none,h1.1⟩,h1.2⟩
  ·exact .inr ⟨ad,cap,Ee,hn,.inr h2,h4⟩
  ·exact .inr ⟨ad,cap,Ee,Nat.zero_le _,.inl rfl,fun j c hj=>by simp at hj⟩
theorem Amm(b:ByteArray)(j:Nat)(p:PV)(h:(Ej b)[j]?=some p):∃x,b.data[j]?=some x/\p=.sc (.int .u8 x.toNat):=by
 unfold Ej at h;rw[List.getElem?_map] at h;cases hx:b.data.toList[j]? with
 |none=>rw[hx] at h;cases h
 |some x=>
  rw[hx] at h;simp at h;exact⟨x,by simpa using hx,h.symm⟩
theorem Ae8(h:B9 N w0 X0 Y β s a w){src dst:TypeId}{x:Operand}(ho:o.op=.convert src dst x){d:Nat}{K:PV->List (Nat × Bz)->Option R}(hk:PS P (Od s.hp) d src dst (Cv s.tm x) K=some r):∃v nw,K v nw=some r/\Gj P a w o Y β s v [] nw:=by
 have Dv:∀v w',(convert src dst (a.eval x)).run P w=.ok v w'->(execOp a.eval o).run P w=.ok (.value v) w':=by
  intro v w' hv;unfold execOp;rw[ho];simp[hv]
 unfold PS at hk;split at hk
 ·rename_i k hu;obtain⟨hs,hk⟩:=Au hk;obtain⟨k',n,hx,hk⟩:=Eh hk;exact⟨_,_,hk,Ds (Dv _ _ (by rw[De h hx];obtain⟨ds,hds⟩:=Option.isSome_iff_exists.1 hs;cases ds<;>simp[convert,run_underlying hds,run_underlying hu,Conv.intToInt]))⟩
 ·rename_i hu;split at hk
  ·rename_i hs;obtain⟨b,hx,hk⟩:=Ey hk;exact⟨_,_,hk,Ds (Dv _ _ (by rw[De h hx];simp[convert,run_underlying hs,run_underlying hu]))⟩
  ·rename_i e hs;split at hk
   ·rename_i he;obtain⟨n,c,hk,hc⟩:=Aeu h hk;obtain⟨hl,hk⟩:=Au hk;have hl:=of_decide_eq_true hl;obtain⟨l,hb,hk⟩:=Dt hk;obtain⟨ns,rfl,rfl⟩:=Y9 hb;refine⟨_,_,hk,Ds (Dv _ _ ?_)⟩;rcases hc with⟨⟨ad,Ee⟩,rfl,hn⟩|⟨ad,cap,Ee,_,_,hrd⟩
    ·have:ns=[]:=by simpa using hn
     subst this;rw[Ee,run_convert_bytes_string w src dst e ad 0 0 hs he hu];cases ad<;>rfl
    ·rw[Ee,run_convert_bytes_string w src dst e _ _ _ hs he hu]
     have hld:(loadCells ad n).run P w=.ok (ns.map (Value.int .u8)).toArray w:=by
      have:=run_loadCells_list (P:=P) w ad (ns.map (Value.int .u8)) (fun j v hj=>by
       rw[List.getElem?_map] at hj;cases hn:ns[j]? with
       |none=>rw[hn] at hj;cases hj
       |some m=>
        rw[hn] at hj;simp at hj;subst hj;obtain⟨v,hv,_,ht⟩:=hrd j (.sc (.int .u8 m)) (by rw[List.getElem?_map,hn];rfl)
        rw[ht.val] at hv;exact hv)
      simp only[List.length_map] at this hl;rw[hl] at this;exact this
     rw[run_bytesToString w ad n cap ns hld,Ye];simp
   ·cases hk
  ·cases hk
 ·rename_i e hu;split at hk
  ·rename_i he hs;obtain⟨b,hx,hk⟩:=Ey hk;obtain⟨L8,hk⟩:=Au hk;have hr:=run_bytes_of_string (P:=P) w src dst e b hs hu he;rw[<-De h hx] at hr
   have OC:b.size<=grownCap w b.size 0 e:=by
    unfold grownCap;simp[Question.cut]
   have Ab4:(bytesRow b (grownCap w b.size 0 e)).size=grownCap w b.size 0 e:=by
    simp only[bytesRow,Array.size_append,Array.size_map,Array.size_replicate];have:b.data.size=b.size:=rfl;omega
   refine⟨_,_,hk,Wt (c:=bytesRow b (grownCap w b.size 0 e)) (e:=e) (by simp) (Dv _ _ hr) ?_ (fun j p hj=>?_) (.inr ⟨1,b.size,grownCap w b.size 0 e,rfl,rfl,OC,by rw[Ab4];omega⟩)⟩
   ·exact⟨rfl,rfl,rfl,fun i hi=>Below.heap_alloc w.drew _ i hi,by show (w.heap.push _).size=_;simp,_,by show (w.heap.push _)[w.heap.size]?=_;simp;rfl,.inr (Dn _)⟩
   ·obtain⟨y,hy,rfl⟩:=Amm b j p hj;refine⟨.int .u8 y.toNat,?_,rfl,Az.sc _⟩
    have Ch:j<b.data.size:=by
     rcases K6 j b.data.size with h|h
     ·exact h
     ·rw[Array.getElem?_eq_none h] at hy;cases hy
    simp only[bytesRow];rw[Array.getElem?_append_left (by simpa using Ch),Array.getElem?_map,hy];rfl
  ·cases hk
 ·cases hk
end
open Go.RowKit
section
variable {R:Type}{r:R}{P:Program}{N:Nat}{w0:World}{X0:F6}{Y:Nat->Prop}{β β':Bt}{s:St}{a:Act}{w w':World}{o:Oper}{A:Nat->Prop}
theorem HV:∀{n:Nat}{l:Ab}{j:Nat}{c:PV},(V5 n l)[j]?=some c->j<n*l.length/\l[j % l.length]?=some c
 |0,l,j,c,h=>by simp[V5] at h
 |n+1,l,j,c,h=>by
  have e:V5 (n+1) l=l++V5 n l:=by simp[V5,List.replicate_succ]
  rw[e] at h;by_cases hj:j<l.length
  ·rw[List.getElem?_append_left hj] at h;refine⟨by rw[Nat.add_mul];omega,?_⟩
   rw[Nat.mod_eq_of_lt hj];exact h
  ·rw[List.getElem?_append_right (by omega)] at h;obtain⟨h1,h2⟩:=HV h;refine⟨by rw[Nat.add_mul];omega,?_⟩
   rw[Nat.mod_eq_sub_mod (by omega)];exact h2
theorem Adb(n:Nat)(l:Ab):(V5 n l).length=n*l.length:=by
 induction n with
 |zero=>simp[V5]
 |succ n ih=>
  have e:V5 (n+1) l=l++V5 n l:=by simp[V5,List.replicate_succ]
  rw[e,G8,ih,Nat.add_mul];omega
theorem Aer{z:Array Value}{n j:Nat}(hj:j<n){v:Value}(hv:z[j % z.size]?=some v):(madeCells z n)[j]?=some v:=by unfold madeCells;rw[Array.getElem?_map,Array.getElem?_range,B7 hj];simp only[Option.map_some];rw[getElem!_def,hv]
theorem Afl(h:B9 N w0 X0 Y β s a w){t:TypeId}{x y:Operand}(ho:o.op=.makeSlice t x y){d:Nat}{K:PV->B5->List (Nat × Bz)->Option R}(hk:(match P.underlying t with
   |some (.slice e)=>Et (Cv s.tm x) fun _ n=>Et (Cv s.tm y) fun _ m=>
     At (decide (0<=n)&&decide (n<=m)&&decide (m*((P.info? e).map (·.bytes)).getD 0<=1099511627776)&&decide (m<=1099511627776))
      (Jw P e fun z=>K (.view d (Bm P e) 0 n.toNat) [] [(d,.ar false (V5 n.toNat z))])
   |_=>none)=some r):∃v fz nw,K v fz nw=some r/\Gj P a w o Y β s v fz nw:=by
 split at hk
 ·rename_i e hu;obtain⟨k1,n,hx,hk⟩:=Eh hk;obtain⟨k2,m,hy,hk⟩:=Eh hk;obtain⟨hb,hk⟩:=Au hk;simp only[Gl,IR] at hb;obtain⟨⟨⟨h0,hnm⟩,Zc⟩,hm⟩:=hb;obtain⟨z,cs,hk,hz,hct,hl,L8,hc⟩:=Um hk
  have hzc:∃i,P.info? e=some i/\i.zero=some z:=by
   unfold EJ at hz;cases hi:P.info? e with
   |none=>rw[hi] at hz;cases hz
   |some i=>rw[hi] at hz;exact⟨i,rfl,hz⟩
  obtain⟨i,hi,hzi⟩:=hzc;have A2y:Bm P e=i.size:=by simp[Bm,hi]
  simp only[hi,Option.map_some,Option.getD_some] at Zc;have hr:=run_make (P:=P) w t e i z hu hi hzi k1 k2 n m h0 hnm (by rw[Int.mul_comm];omega) (by omega)
  have Dv:(execOp a.eval o).run P w=.ok (.value (.slice (some ⟨w.heap.size,0,none⟩) n.toNat m.toNat)) (w.alloc (.cells (madeCells z.cells (m.toNat*i.size)) e)):=by
   unfold execOp;rw[ho];simp[De h hx,De h hy,hr]
  have hzl:z.cells.size=Bm P e:=by
   have:z.cells.toList.length=z.cells.size:=by simp
   omega
  refine⟨_,_,_,hk,Wt (c:=madeCells z.cells (m.toNat*i.size)) (e:=e) (by simp) Dv (I0.alloc w _ e) (fun j p hj=>?_) (.inr ⟨Bm P e,n.toNat,m.toNat,rfl,rfl,by omega,by rw[size_madeCells,A2y];exact Dn _⟩)⟩
  obtain⟨h1,h2⟩:=HV hj;obtain⟨hT,u,M7,WR,hv⟩:=hc _ p h2;refine⟨u,Aer ?_ ?_,WR,hv _ _⟩
  ·have:n.toNat*cs.length<=m.toNat*i.size:=by
    rw[L8,A2y];exact Nat.mul_le_mul_right _ (by omega)
   omega
  ·rw[hzl,<-L8]
   simpa using M7
 ·cases hk
theorem Aks{p:PV}{v:Value}(hp:okP p=true)(hv:Eo w A β p v):Bw (Ck w A β) (cellsOf p) v.cells.toList:=by
 have one:v.oneCell'=true->Ck w A β p v->(∀x,p ≠ .agg x)->Bw (Ck w A β) (cellsOf p) v.cells.toList:=by
  intro h1 h2 h3;have:cellsOf p=[p]:=by cases p<;>first|rfl|exact absurd rfl (h3 _)
  rw[this,R3 h1];exact⟨h2,trivial⟩
 unfold okP at hp;split at hp
 ·obtain⟨vs,rfl,h2⟩:=hv;exact h2
 ·refine one ?_ hv (by simp);have Uq:Az w A _ v:=hv;cases Uq<;>rfl
 ·refine one ?_ hv (by simp);rcases hv with⟨_,_,_,_,rfl⟩|⟨_,_,_,_,_,rfl,_⟩<;>rfl
 ·have:=Mj hv;subst this;exact one rfl hv (by simp)
 ·have:=Mj hv;subst this;exact one rfl hv (by simp)
 ·have:=Mj hv;subst this;exact one rfl hv (by simp)
 ·have:=Mj hv;subst this;exact one rfl hv (by simp)
 ·cases hp
theorem Ai6:∀(vs:List Value)(k off:Nat)(cells:Array Value),off+k+vs.length<=cells.size ->
  ((vs.zipIdx k).foldl (fun cs (q:Value × Nat)=>cs.setIfInBounds (off+q.2) q.1) cells).toList=cells.toList.take (off+k)++vs++cells.toList.drop (off+k+vs.length)
 |[],k,off,cells,_=>by simp
 |v::vs,k,off,cells,h=>by
  simp only[List.zipIdx_cons,List.foldl_cons,G9] at h ⊢;rw[Ai6 vs (k+1) off _ (by simp;omega)]
  have Ch:off+k<cells.toList.length:=by simp;omega
  simp only[Array.toList_setIfInBounds];rw[show off+(k+1)=off+k+1 from by omega,List.take_succ_eq_append_getElem (by simpa using Ch)];rw[List.getElem_set_self,List.take_set_of_le (Dn _),List.drop_set_of_lt (by omega)];simp only[IU,Zzp,PT];rw[show off+k+1+vs.length=off+k+(vs.length+1) from by omega]
theorem QK(h:B9 N w0 X0 Y β s a w){J2:Nat->Option (Nat × Nat)}:∀{parts:List (Nat × Operand)} {pc:Ab}{vc:Array Value}{K:Ab->Option R},
  AJ J2 (parts.map fun q=>(q.1,Cv s.tm q.2)) pc K=some r->Bw (Ck w (Dd s.hp β Y) β) pc vc.toList->(∀c∈pc,∀id∈Aw c,s.hp id≠none) ->
  ∃pc' vc',K pc'=some r/\Instr.fill J2 vc (parts.map fun q=>(q.1,a.eval q.2))=some vc'/\Bw (Ck w (Dd s.hp β Y) β) pc' vc'.toList/\pc'.length=pc.length/\∀c∈pc',∀id∈Aw c,s.hp id≠none
 |[],pc,vc,K,hk,hv,hr=>⟨pc,vc,hk,rfl,hv,rfl,hr⟩
 |(i,x)::parts,pc,vc,K,hk,hv,hr=>by
  simp only[Rz] at hk;unfold AJ at hk;obtain⟨⟨off,size⟩,NM,hk⟩:=Dt hk;obtain⟨hb,hk⟩:=Au hk;simp only[Gl] at hb;obtain⟨⟨hok,L8⟩,CL⟩:=hb;have L8:(cellsOf (Cv s.tm x)).length=size:=D4 L8;have CL:off+size<=pc.length:=Wu CL;have hxc:=Aks hok (D2 h x);have hxl:=hxc.len;have hvl:=hv.len;have U5:vc.toList.length=vc.size:=by simp
  have VL:(a.eval x).cells.toList.length=(a.eval x).cells.size:=by simp
  have BT:=Ai6 (a.eval x).cells.toList 0 off vc (by omega);simp only[GD] at BT
  have A4i:((a.eval x).cells.zipIdx.foldl (fun cs (q:Value × Nat)=>cs.setIfInBounds (off+q.2) q.1) vc).toList=vc.toList.take off++(a.eval x).cells.toList++vc.toList.drop (off+(a.eval x).cells.toList.length):=by
   rw[<-BT,<-Array.foldl_toList];simp
  obtain⟨pc',vc',hk,hf,h2,hl,hr'⟩:=QK h (pc:=Bp pc (cellsOf (Cv s.tm x)) off) (vc:=(a.eval x).cells.zipIdx.foldl (fun cs (q:Value × Nat)=>cs.setIfInBounds (off+q.2) q.1) vc) hk (by
    rw[A4i,<-hxl];exact (((hv.take off).app hxc).app (hv.drop _))) (by
    intro c hc id Br;unfold Bp at hc;rcases Bu.1 hc with hc|hc
    ·rcases Bu.1 hc with hc|hc
     ·exact hr c (List.mem_of_mem_take hc) id Br
     ·refine Hg h x id ?_;cases hp:Cv s.tm x with
      |agg cs=>rw[hp] at hc;exact List.mem_flatMap.2 ⟨c,hc,Br⟩
      |tup cs=>rw[hp] at hc;simp[cellsOf] at hc;subst hc;cases Br
      |_=>rw[hp] at hc;simp[cellsOf] at hc;subst hc;exact Br
    ·exact hr c (List.mem_of_mem_drop hc) id Br)
  refine⟨pc',vc',hk,?_,h2,?_,hr'⟩
  ·simp only[Rz,Instr.fill,NM];rw[Ba (by simp;omega)]
   exact hf
  ·rw[hl];simp[Bp];omega
theorem Abe{t:TypeId}{z:Value}{cs:Ab}(hl:cs.length=z.cells.toList.length)(hc:∀(j:Nat) c,cs[j]?=some c->CO c/\∃u,z.cells.toList[j]?=some u/\u.oneCell'=true/\∀(w:World)(A:Nat->Prop),Az w A c u)(_ht:EJ P t=some z):
  Bw (Ck w A β) cs z.cells.toList/\∀c∈cs,Aw c=[]:=by
 refine⟨Bw.of_at hl fun i c u hci hu=>?_,fun c hcm=>?_⟩
 ·obtain⟨hT,u',M7,_,hv⟩:=hc i c hci;rw[hu] at M7;cases M7;exact (Pu hT).2 (hv _ _)
 ·obtain⟨j,hj⟩:=List.mem_iff_getElem?.1 hcm;exact Kr (hc j c hj).1
theorem PD:∀{fs:List Field},(fs.all fun f=>RJ P f.type)=true->fs.mapM (fun f=>(P.info? f.type).map fun i=>(f.offset,i.size))=some (fs.map fun f=>(f.offset,Bm P f.type))
 |[],_=>rfl
 |f::fs,h=>by
  simp only[List.all_cons,Gl] at h;obtain⟨i,hi⟩:=Option.isSome_iff_exists.1 h.1;simp[List.mapM_cons,hi,PD h.2,Bm]
theorem ER{p q:Nat->Option (Nat × Nat)}(h:∀i,p i=q i)(cells:Array Value)(parts:List (Nat × Value)):Instr.fill p cells parts=Instr.fill q cells parts:=by have:p=q:=funext h;rw[this]
theorem Ab6(h:B9 N w0 X0 Y β s a w){t:TypeId}{ps:Array (Nat × Operand)}(ho:o.op=.build t ps){K:PV->Option R}(hk:(At (V1 P t&&Cr P t)<|Jw P t fun z=>AJ (Xy P t) (ps.toList.map fun q=>(q.1,Cv s.tm q.2)) z fun cs=>Vd (Lm P t) cs 0 fun cs'=>K (.agg cs'))=some r):∃v,K v=some r/\Gj P a w o Y β s v [] []:=by
 obtain⟨NM,hk⟩:=Au hk;simp only[Gl] at NM;obtain⟨NM,Im⟩:=NM;obtain⟨z,cs,hk,hz,hct,hl,L8,hc⟩:=Um hk;obtain⟨hzr,QO⟩:=Abe (w:=w) (A:=Dd s.hp β Y) (β:=β) hl hc hz;obtain⟨pc',vc',hk,hf,h2,Pc,hr'⟩:=QK h hk hzr (fun c hcm id Br=>by rw[QO c hcm] at Br;cases Br)
 obtain⟨qs,hk,hql,JD,hq⟩:=Zw hk
 have Axt:P.built t (ps.toList.map fun q=>(q.1,a.eval q.2))=some vc':=by
  have hzi:∃i,P.info? t=some i/\i.zero=some z:=by
   unfold EJ at hz;cases hi:P.info? t with
   |none=>rw[hi] at hz;cases hz
   |some i=>rw[hi] at hz;exact⟨i,rfl,hz⟩
  obtain⟨i,hi,hzi⟩:=hzi;unfold V1 at NM;unfold Program.built;split at NM
  ·rename_i fs hu
   have ZO:Instr.fill (((fs.toList.map fun f=>(f.offset,Bm P f.type)).toArray)[·]?) z.cells (ps.toList.map fun q=>(q.1,a.eval q.2))=some vc':=by
    rw[<-hf];refine ER (fun j=>?_) _ _;simp[Xy,hu]
   simp only[hi,hu,hzi,PD NM];exact ZO
  ·rename_i n e hu;obtain⟨ie,hie⟩:=Option.isSome_iff_exists.1 NM
   have ZO:Instr.fill (fun j=>some (j*ie.size,ie.size)) z.cells (ps.toList.map fun q=>(q.1,a.eval q.2))=some vc':=by
    rw[<-hf];refine ER (fun j=>?_) _ _;simp[Xy,hu,Bm,hie]
   simp only[hi,hu,hzi,hie];exact ZO
  ·rename_i e hu;simp[Cr,hu] at Im
  ·cases NM
 refine⟨_,hk,Cz (val:=.agg vc') ?_ ⟨vc'.toList,rfl,?_⟩ ?_⟩
 ·unfold execOp;rw[ho];have:=run_build (P:=P) w t (ps.map fun q=>(q.1,a.eval q.2)) vc' (by simpa using Axt);simp[this]
 ·refine Bw.of_at (by have:=h2.len;omega) fun j c u hcj hu=>?_
  obtain⟨p,hp,_,_,EF⟩:=hq j c hcj;rw[Cu] at hp;exact (EF _ _ _ _ (h2.at_ hp hu)).1
 ·intro id Br;obtain⟨c,hcm,Br⟩:=List.mem_flatMap.1 (show id∈qs.flatMap Aw from Br);obtain⟨j,hj⟩:=List.mem_iff_getElem?.1 hcm;obtain⟨p,hp,_,hpr,_⟩:=hq j c hj;rw[Cu] at hp;exact hr' p (List.mem_of_getElem? hp) id (hpr id Br)
end
open Go.RowKit
section
variable {R:Type}{r:R}{P:Program}{N:Nat}{w0:World}{X0:F6}{Y:Nat->Prop}{β β':Bt}{s:St}{a:Act}{w w':World}{o:Oper}{A:Nat->Prop}
theorem Agh(h:B9 N w0 X0 Y β s a w){fz:B5}(JF:∀id∈fz,∃f c,s.hp id=some (.ar f c)){id:Nat}(hm:id∈fz){f:Bool}{c:Ab}(hb:s.hp id=some (.ar f c)){b ob:Nat}(hβ:β id=some (b,ob)):
  ¬Dd (Ae s.hp fz) β Y b/\UQ w (Dd (Ae s.hp fz) β Y) ⟨b,ob,none⟩ c/\b<w.heap.size:=by
 have hf:=h.freeze JF;have he:Ae s.hp fz id=some (.ar true c):=by rw[Cp,B7 hm,hb];rfl
 rcases hf.box id _ he with⟨h1,_⟩|⟨b',o',h1,h2,_,h4⟩
 ·rw[hβ] at h1;cases h1
 ·rw[hβ] at h1;simp at h1;obtain⟨rfl,rfl⟩:=h1;exact⟨h4 rfl,h2,h.blt id b ob (by rw[hb];simp) hβ⟩
theorem Akm(h:B9 N w0 X0 Y β s a w){fz:B5}(JF:∀id∈fz,∃f c,s.hp id=some (.ar f c)){id es off n:Nat}(hm:id∈fz){f:Bool}{c:Ab}(hb:s.hp id=some (.ar f c)){v:Value}(hv:Ck w (Dd s.hp β Y) β (.view id es off n) v):Az w (Dd (Ae s.hp fz) β Y) (.lst false es n ((c.drop off).take (n*es))) v:=by
 rcases hv with⟨_,rfl,rfl,ad,rfl⟩|⟨b,ob,y,cap,hβ,rfl,hy,hn,_,Ch⟩
 ·simp only[Nat.zero_mul,List.take_zero];cases ad with
  |none=>exact Az.lnil false es
  |some p=>exact Az.lemp es p 0
 ·obtain⟨h1,h2,_⟩:=Agh h JF hm hb hβ;by_cases OH:n*es=0
  ·rw[OH,List.take_zero];exact Az.lst es n [] ⟨b,y,none⟩ cap (fun _=>undef) rfl Ch h1 hn (by simp) (by simp) (by simp)
  ·have hy:y=ob+off:=by
    rcases hy with hy|⟨h0,_⟩
    ·exact hy
    ·rw[h0] at OH;simp at OH
   subst hy
   have hcell:∀(j:Nat) q,((c.drop off).take (n*es))[j]?=some q->c[off+j]?=some q:=by
    intro j q hq;rw[List.getElem?_take] at hq;split at hq
    ·rw[List.getElem?_drop] at hq;exact hq
    ·cases hq
   refine Az.lst es n _ ⟨b,ob+off,none⟩ cap (fun j=>(w.cell? ⟨b,ob+off+j,none⟩).getD undef) rfl Ch h1 hn (fun j q hq=>?_) (fun j q hq=>?_) (fun j q hq=>?_)
   ·obtain⟨v,hv,_⟩:=h2 _ q (hcell j q hq);rw[Fe,<-Qp] at hv;rw[Fe,hv];rfl
   ·obtain⟨v,hv,h3,_⟩:=h2 _ q (hcell j q hq);rw[Fe,<-Qp] at hv;rw[hv];exact h3
   ·obtain⟨v,hv,_,ht⟩:=h2 _ q (hcell j q hq);rw[Fe,<-Qp] at hv;rw[hv];exact ht
theorem Az.zf{A:Nat->Prop}{z:Bool}{es n:Nat}{c:Ab}{v:Value}(h:Az w A (.lst z es n c) v):Az w A (.lst false es n c) v:=by
 cases h with
 |lnil=>exact .lnil _ _
 |lemp=>exact .lemp _ _ _
 |lst _ _ _ a cap f hs hb hA hn hc h1 hr=>exact .lst _ _ _ a cap f hs hb hA hn hc h1 hr
theorem PZ(h:B9 N w0 X0 Y β s a w){t:CT}{p:PV}{K:PV->B5->Option R}(hk:Tq (Od s.hp) t p K=some r):
  ∃c m,K c m=some r/\CO c/\TY p/\(∀id∈m,∃f cc,s.hp id=some (.ar f cc))/\∀fz:B5,(∀id∈m,id∈fz)->(∀id∈fz,∃f cc,s.hp id=some (.ar f cc))->∀v,Ck w (Dd s.hp β Y) β p v->Az w (Dd (Ae s.hp fz) β Y) c v/\v.oneCell'=true:=by
 have tree:∀t',(KH t' p fun c=>K c [])=some r->∃c m,K c m=some r/\CO c/\TY p/\(∀id∈m,∃f cc,s.hp id=some (.ar f cc))/\∀fz:B5,(∀id∈m,id∈fz)->(∀id∈fz,∃f cc,s.hp id=some (.ar f cc))->∀v,Ck w (Dd s.hp β Y) β p v->Az w (Dd (Ae s.hp fz) β Y) c v/\v.oneCell'=true:=by
  intro t' hk;obtain⟨c,hk,hT,SX,hv⟩:=Ro hk;refine⟨c,[],hk,hT,Xg SX,by simp,fun fz _ JF v EF=>?_⟩;obtain⟨h1,h2⟩:=hv _ _ _ _ EF;exact⟨h1.step (Cq.refl _ _) (fun b _ hb=>hb.imp Vu id),h2⟩
 cases t with
 |sl es=>
  unfold Tq at hk;dsimp only at hk;split at hk
  ·rename_i id es' off n;cases hb:Nat.beq es' es
   ·rw[hb] at hk;cases hk
   ·rw[hb] at hk;have:=D4 hb;subst this;obtain⟨c,hc,hk⟩:=Dt (show Gi _ _=some r from hk);obtain⟨_,hk⟩:=Au hk;obtain⟨f,Oc⟩:=YJ hc;refine⟨_,[id],hk,trivial,trivial,?_,fun fz hm JF v hv=>⟨Akm h JF (hm id (by simp)) Oc hv,?_⟩⟩
    ·intro i hi;simp at hi;subst hi;exact⟨f,c,Oc⟩
    ·rcases hv with⟨_,_,_,_,rfl⟩|⟨_,_,_,_,_,rfl,_⟩<;>rfl
  ·obtain⟨z,n,c,hk,hp⟩:=H3 hk;refine⟨_,[],hk,trivial,?_,by simp,fun fz _ JF v EF=>?_⟩
   ·rcases hp with rfl|⟨rfl,_⟩<;>trivial
   ·have ht:=EI hp EF;refine⟨Az.zf (ht.step (Cq.refl _ _) (fun b _ hb=>hb.imp Vu id)),?_⟩;cases ht<;>rfl
 |int k=>exact tree (.int k) hk
 |bool=>exact tree .bool hk
 |str=>exact tree .str hk
 |any=>exact tree .any hk
theorem W0(h:B9 N w0 X0 Y β s a w):∀{ts:List CT}{ps:Ab}{K:Ab->B5->Option R},Sv (Od s.hp) ts ps K=some r ->
  ∃cs m,K cs m=some r/\cs.length=ts.length/\ps.length=ts.length/\(∀c∈cs,CO c)/\(∀p∈ps,TY p)/\(∀id∈m,∃f cc,s.hp id=some (.ar f cc)) /\
   ∀fz:B5,(∀id∈m,id∈fz)->(∀id∈fz,∃f cc,s.hp id=some (.ar f cc))->∀vs,Bw (Ck w (Dd s.hp β Y) β) ps vs->Bw (Az w (Dd (Ae s.hp fz) β Y)) cs vs/\∀v∈vs,v.oneCell'=true
 |[],[],K,hk=>⟨[],[],hk,rfl,rfl,by simp,by simp,by simp,fun fz _ _ vs hv=>by
   cases vs with
   |nil=>exact⟨trivial,by simp⟩
   |cons v vs=>exact hv.elim⟩
 |[],_::_,K,hk=>by cases hk
 |_::_,[],K,hk=>by cases hk
 |t::ts,p::ps,K,hk=>by
  unfold Sv at hk;obtain⟨c,m,hk,hT,hF,hm,hv⟩:=PZ h hk;obtain⟨cs,ms,hk,hl,Pc,hTs,hFs,RB,U5⟩:=W0 h hk;refine⟨c::cs,m++ms,hk,by simp[hl],by simp[Pc],?_,?_,?_,fun fz hfm JF vs h2=>?_⟩
  ·intro x hx;rcases Bx.1 hx with rfl|hx
   ·exact hT
   ·exact hTs x hx
  ·intro x hx;rcases Bx.1 hx with rfl|hx
   ·exact hF
   ·exact hFs x hx
  ·intro x hx;rcases Bu.1 hx with hx|hx
   ·exact hm x hx
   ·exact RB x hx
  ·cases vs with
   |nil=>exact h2.elim
   |cons v vs=>
    obtain⟨h3,h4⟩:=hv fz (fun i hi=>hfm i (by simp[hi])) JF v h2.1;obtain⟨h5,h6⟩:=U5 fz (fun i hi=>hfm i (by simp[hi])) JF vs h2.2;refine⟨⟨h3,h5⟩,?_⟩;intro x hx;rcases Bx.1 hx with rfl|hx
    ·exact h4
    ·exact h6 x hx
theorem Als{R':PV->Value->Prop}{cs:Ab}{z:Array Value}(h:Bw R' cs z.toList)(n:Nat):Bw R' (V5 n cs) (madeCells z (n*cs.length)).toList:=by
 have hzl:z.size=cs.length:=by have:=h.len;simp at this;exact this.symm
 refine Bw.of_at ?_ fun j c v hc hv=>?_
 ·rw[Adb];simp[size_madeCells]
 ·obtain⟨h1,h2⟩:=HV hc
  have Ch:j % cs.length<cs.length:=by
   rcases K6 (j % cs.length) cs.length with h|h
   ·exact h
   ·rw[List.getElem?_eq_none h] at h2;cases h2
  obtain⟨u,hu,hcu⟩:=h.get h2;have:(madeCells z (n*cs.length))[j]?=some u:=Aer h1 (by rw[hzl];simpa using hu)
  have Uq:(madeCells z (n*cs.length))[j]?=some v:=by simpa using hv
  rw[this] at Uq;cases Uq;exact hcu
theorem KP(h:B9 N w0 X0 Y β s a w){t:TypeId}{n:Nat}{ps:Array (Nat × Operand)}(ho:o.op=.buildSlice t n ps){d:Nat}{K:PV->B5->List (Nat × Bz)->Option R}(hk:(match P.underlying t with
   |some (.slice e)=>At (V1 P t&&Nat.ble (n*Bm P e) 16777216) (Jw P e fun z=>AJ (Xy P t) (ps.toList.map fun q=>(q.1,Cv s.tm q.2)) (V5 n z) fun cs=>
     Sv (Od s.hp) (List.replicate n (Lm P e)).flatten cs fun cs' m=>K (.view d (Bm P e) 0 n) m [(d,.ar false cs')])
   |_=>none)=some r):∃v fz nw,K v fz nw=some r/\Gj P a w o Y β s v fz nw:=by
 split at hk
 ·rename_i e hu;obtain⟨hb,hk⟩:=Au hk;simp only[Gl] at hb;have CL:n*Bm P e<=16777216:=Wu hb.2;have Vc:(P.info? e).isSome=true:=by have:=hb.1;unfold V1 at this;rw[hu] at this;exact this
  obtain⟨z,cs,hk,hz,hct,hl,L8,hc⟩:=Um hk;obtain⟨hzr,QO⟩:=Abe (w:=w) (A:=Dd s.hp β Y) (β:=β) hl hc hz;have A5d:=Als hzr n
  obtain⟨pc',vc',hk,hf,h2,Pc,hr'⟩:=QK h hk A5d (fun c hcm id Br=>by
   obtain⟨j,hj⟩:=List.mem_iff_getElem?.1 hcm;obtain⟨_,hg⟩:=HV hj;rw[QO c (List.mem_of_getElem? hg)] at Br;cases Br)
  obtain⟨qs,m,hk,hql,NM,hqT,_,hm,hqv⟩:=W0 h hk;obtain⟨h3,h3'⟩:=hqv m (fun _ hi=>hi) hm _ h2
  have ZO:Instr.fill (fun i=>some (i*Bm P e,Bm P e)) (madeCells z.cells (n*cs.length)) (ps.toList.map fun q=>(q.1,a.eval q.2))=some vc':=by
   rw[<-hf];refine ER (fun i=>?_) _ _;simp[Xy,hu]
  have hvl:vc'.size=n*Bm P e:=by
   have h4:=h2.len;rw[Pc,Adb] at h4;simp at h4;rw[<-h4,L8]
  have Dv:(execOp a.eval o).run P w=.ok (.value (.slice (some ⟨w.heap.size,0,none⟩) n n)) (w.alloc (.cells vc' e)):=by
   unfold execOp;rw[ho];have A11:¬(n*Bm P e>2 ^ 24):=by omega
   rw[L8] at ZO;by_cases OH:n*Bm P e=0
   ·simp only[Instr.buildSlice,Sem.run_bind,run_underlying hu,Result.andThen_ok,Dr Vc,Ba A11,OH];rw[OH] at ZO;have e0:madeCells z.cells 0=(Array.range 0).map (fun _=>default):=by simp[madeCells]
    rw[e0] at ZO;simp[ZO,newRow]
   ·simp only[Instr.buildSlice,Sem.run_bind,run_underlying hu,Result.andThen_ok,Dr Vc,Ba A11,Ba OH,DH hz];unfold madeCells at ZO;simp[ZO,newRow]
  refine⟨_,_,_,hk,Wt (c:=vc') (e:=e) hm Dv (I0.alloc w vc' e) (fun j p hj=>?_) (.inr ⟨Bm P e,n,n,rfl,rfl,Dn _,by rw[hvl];exact Dn _⟩)⟩
  obtain⟨u,M7,hp⟩:=h3.get hj;exact⟨u,by simpa using M7,h3' u (List.mem_of_getElem? M7),hp⟩
 ·cases hk
end
end
end
end Go.Proofs.YtpogefhpiaaliaaGreatDoor.Pv
