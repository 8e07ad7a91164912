/-
  The proof of SigninBinds, part 1.
-/
import Derived.Orders
import Derived.LoopN
import Derived.Below
import Derived.Laws.Cover4
import Derived.Lib.ValidU
import Derived.Lib.Bytealg
import Derived.IntWalk
import Derived.WalkKit
import Derived.WalkLawsBesides
import Derived.Laws.IdiomStrings
import Derived.Laws.MakeOwn
import Derived.Laws.Tables
set_option linter.unusedSimpArgs false
set_option linter.unusedVariables false
namespace Go.Proofs.YtohcncipgljdkaaGreatDoor.Pv
set_option maxRecDepth 1000000
noncomputable section
theorem Fl:type_of% @Bool.not_true:=@Bool.not_true
theorem Gw:type_of% @Bool.not_false:=@Bool.not_false
theorem J1:type_of% @Nat.mul_one:=@Nat.mul_one
theorem Ie:type_of% @Nat.zero_add:=@Nat.zero_add
theorem Me:type_of% @List.drop_zero.{0}:=@List.drop_zero
theorem Hz:type_of% @List.take_of_length_le.{0}:=@List.take_of_length_le
theorem Wy:type_of% @List.length_append.{0}:=@List.length_append
theorem WG:type_of% @List.length_nil.{0}:=@List.length_nil
theorem Tm:type_of% @List.length_cons.{0}:=@List.length_cons
theorem Jd:type_of% @Int.toNat_natCast:=@Int.toNat_natCast
theorem B3:type_of% @if_neg.{1}:=@if_neg
theorem Cr:type_of% @if_pos.{1}:=@if_pos
theorem XY:type_of% @Bool.true_and:=@Bool.true_and
theorem Zzp:type_of% @List.cons_append.{0}:=@List.cons_append
theorem VW:type_of% @List.nil_append.{0}:=@List.nil_append
theorem ZW:type_of% @Nat.add_zero:=@Nat.add_zero
theorem UR:type_of% @Bool.false_and:=@Bool.false_and
theorem Zzv:type_of% @List.append_assoc.{0}:=@List.append_assoc
theorem X4:type_of% @List.map_cons.{0,0}:=@List.map_cons
theorem Fc:type_of% @Bool.and_eq_true:=@Bool.and_eq_true
theorem GF:type_of% @decide_eq_true_eq:=@decide_eq_true_eq
theorem Dx:type_of% @Nat.eq_of_beq_eq_true:=@Nat.eq_of_beq_eq_true
theorem Ch:type_of% @List.mem_cons.{0}:=@List.mem_cons
theorem B5:type_of% @List.mem_append.{0}:=@List.mem_append
theorem Ji:type_of% @List.flatMap_cons.{0,0}:=@List.flatMap_cons
theorem Vv:type_of% @List.mem_singleton_self.{0}:=@List.mem_singleton_self
theorem Ft:type_of% @Nat.lt_of_lt_of_le:=@Nat.lt_of_lt_of_le
theorem Tz:type_of% @List.mem_cons_of_mem.{0}:=@List.mem_cons_of_mem
theorem R5:type_of% @Nat.le_of_ble_eq_true:=@Nat.le_of_ble_eq_true
theorem Ig:type_of% @Nat.lt_or_ge:=@Nat.lt_or_ge
theorem Qi:type_of% @List.mem_singleton.{0}:=@List.mem_singleton
theorem Ci:type_of% @Nat.le_refl:=@Nat.le_refl
theorem Jc:type_of% @Nat.add_assoc:=@Nat.add_assoc
theorem Og:type_of% @Nat.beq_refl:=@Nat.beq_refl
theorem FR:type_of% @List.mem_cons_self.{0}:=@List.mem_cons_self
theorem Zp:type_of% @List.not_mem_nil.{0}:=@List.not_mem_nil
inductive PV where
 |sc (v:Value)
 |lst (z:Bool) (es n:Nat) (cells:List PV)
 |own (es n:Nat) (cells:List PV)
 |view (id es off n:Nat)
 |ptr (id off:Nat)
 |iptr (cells:List PV) (off:Nat)
 |pbox (cells:List PV)
 |agg (cells:List PV)
 |tup (vs:List PV)
 |top
 |ub
abbrev Ae:=List PV
abbrev Al:=List Int
abbrev B9:=List Nat
inductive Cc where
 |st (cells:Ae)
 |ar (fz:Bool) (cells:Ae)
 |mv
structure St where
 tm:Nat->PV
 hp:Nat->Option Cc
structure Bv where
 vals:Ae
 outs:List Ae
structure Ih where
 shr:FuncId->Bool
 mvd:FuncId->Nat->Bool
 lnd:FuncId->Nat->Bool
 kz:FuncId->Bool
 ext:FuncId->Option (Ae->Option Bv)
 nz:Nat->Bool
def Ih.core(C:Ih):Ih:={ C with ext:=fun _=>none }
def Dt{α:Type}(f:Nat->α)(i:Nat)(v:α):Nat->α:=fun j=>bif Nat.beq j i then v else f j
def rd(hp:Nat->Option Cc)(id:Nat):Option Ae:=
 match hp id with
 |some (.st c)=>some c
 |some (.ar _ c)=>some c
 |_=>none
def Mh(hp:Nat->Option Cc)(id:Nat):Option Ae:=
 match hp id with
 |some (.ar _ c)=>some c
 |_=>none
inductive CT where
 |int (k:IntKind)
 |bool
 |str
 |sl (es:Nat)
 |any
def Bp(P:Program)(t:TypeId):Nat:=((P.info? t).map (·.size)).getD 0
def C5(P:Program)(t:TypeId):Bool:=
 match P.underlying t with
 |some (.struct _)=>true
 |some (.array _ _)=>true
 |_=>false
def A4g(P:Program):Nat->TypeId->List CT
 |0,_=>[]
 |d+1,t=>
  match P.underlying t with
  |some (.int k)=>[.int k]
  |some .bool=>[.bool]
  |some .string=>[.str]
  |some (.slice e)=>[.sl (Bp P e)]
  |some (.struct fs)=>fs.toList.flatMap fun f=>A4g P d f.type
  |some (.array n e)=>(List.replicate n (A4g P d e)).flatten
  |_=>[.any]
abbrev Kn(P:Program)(t:TypeId):List CT:=A4g P 9 t
def Ly(P:Program)(t:TypeId):Bool:=(P.underlying t).isSome&&Nat.beq (Kn P t).length (Bp P t)
abbrev D2(k:IntKind)(a b:Int):Int:=k.wrap (BitVec.ofInt k.bits a &&& BitVec.ofInt k.bits b).toNat
abbrev Xr(k:IntKind)(a b:Int):Int:=k.wrap (BitVec.ofInt k.bits a ||| BitVec.ofInt k.bits b).toNat
abbrev Ew(k:IntKind)(a b:Int):Int:=k.wrap (BitVec.ofInt k.bits a ^^^ BitVec.ofInt k.bits b).toNat
abbrev Yp(k:IntKind)(a b:Int):Int:=k.wrap (BitVec.ofInt k.bits a &&& ~~~BitVec.ofInt k.bits b).toNat
abbrev Eu(k:IntKind)(a b:Int):Int:=k.wrap (a*2 ^ (min b.toNat k.bits))
abbrev Hc(k:IntKind)(a b:Int):Int:=a.fdiv (2 ^ (min b.toNat k.bits))
abbrev Bc0(k:IntKind)(n:Int):Int:=k.wrap (BitVec.ofInt k.bits (if k.signed then -1 else k.max) ^^^ BitVec.ofInt k.bits n).toNat
section
variable {R:Type}
def Bq(k:IntKind)(p:PV)(K:Int->Option R):Option R:=
 match p with
 |.sc (.int k' n)=>if k'=k then K n else none
 |_=>none
def Ax(p:PV)(K:Bool->Option R):Option R:=
 match p with
 |.sc (.bool b)=>K b
 |_=>none
def Bd(p:PV)(K:ByteArray->Option R):Option R:=
 match p with
 |.sc (.string s)=>K s
 |_=>none
def Ys(es:Nat)(p:PV)(K:Bool->Nat->Ae->Option R):Option R:=
 match p with
 |.lst z es' n c=>bif Nat.beq es' es then K z n c else none
 |.sc (.slice none 0 0)=>K true 0 []
 |_=>none
def fsK(es:Nat)(p:PV)(K:PV->Option R):Option R:=
 match p with
 |.view id es' off n=>bif Nat.beq es' es then K (.view id es off n) else none
 |p=>Ys es p fun z n c=>K (.lst z es n c)
def Kf(es:Nat)(p:PV)(K:Nat->Ae->Option R):Option R:=
 match p with
 |.own es' n c=>bif Nat.beq es' es then K n c else none
 |_=>none
def As(b:Bool)(K:Option R):Option R:=bif b then K else none
abbrev Aa{α:Type}(x:α)(K:α->Option R):Option R:=K x
def XA(b:Bool)(x y:Option R):Option R:=bif b then x else y
abbrev Bms(x:Nat)(K:Nat->Option R):Option R:=K x
def Avu(x:List B9)(K:List B9->Option R):Option R:=K x
def Aw(b:Bool)(x y:Option R):Option R:=bif b then x else y
def D4{α:Type}(o:Option α)(K:α->Option R):Option R:=
 match o with
 |some a=>K a
 |none=>none
def Ad{α:Type}(l:List α)(K:α->List α->Option R):Option R:=
 match l with
 |a::r=>K a r
 |[]=>none
def Ak{α:Type}(l:List α)(K:Option R):Option R:=
 match l with
 |[]=>K
 |_::_=>none
def Di(p:PV)(K:Ae->Option R):Option R:=
 match p with
 |.agg c=>K c
 |_=>none
def EP(p:PV)(K:Ae->Option R):Option R:=
 match p with
 |.pbox c=>K c
 |_=>none
def A9(r:Option Bv)(K:Ae->List Ae->Option R):Option R:=
 match r with
 |some ⟨v,o⟩=>K v o
 |none=>none
def fnK(p:PV)(K:Value->Option R):Option R:=
 match p with
 |.sc (.func f a b)=>K (.func f a b)
 |.sc (.map none)=>K (.map none)
 |_=>none
def fvK(p:PV)(K:FuncId->Option R):Option R:=
 match p with
 |.sc (.func (.func f) a b)=>bif a.isEmpty&&b.isEmpty then K f else none
 |_=>none
def MB(t:CT)(p:PV)(K:PV->Option R):Option R:=
 match t with
 |.int k=>Bq k p fun n=>K (.sc (.int k n))
 |.bool=>Ax p fun b=>K (.sc (.bool b))
 |.str=>Bd p fun s=>K (.sc (.string s))
 |.sl es=>Ys es p fun z n c=>K (.lst z es n c)
 |.any=>fnK p fun v=>K (.sc v)
def fcK(t:CT)(p:PV)(K:PV->Option R):Option R:=
 match t with
 |.sl es=>fsK es p K
 |t=>MB t p K
def Zq:List CT->Ae->Nat->(Ae->Option R)->Option R
 |[],_,_,K=>K []
 |t::ts,cells,off,K=>MB t (cells.getD off .top) fun c=>Zq ts cells (off+1) fun r=>K (c::r)
def Tu:List CT->Ae->Nat->(Ae->Option R)->Option R
 |[],_,_,K=>K []
 |t::ts,cells,off,K=>fcK t (cells.getD off .top) fun c=>Tu ts cells (off+1) fun r=>K (c::r)
def mkV(agg:Bool)(cells:Ae)(K:PV->Option R):Option R:=
 bif agg then K (.agg cells) else Ad cells fun c r=>Ak r (K c)
def cellsOf:PV->Ae
 |.agg c=>c
 |p=>[p]
def cvK(P:Program)(t:TypeId)(v:Value)(K:PV->Option R):Option R:=
 match v with
 |.agg cs=>As (Nat.beq cs.toList.length (Kn P t).length) (Zq (Kn P t) (cs.toList.map .sc) 0 fun c=>K (.agg c))
 |.slice none 0 0=>
  match P.underlying t with
  |some (.slice e)=>K (.lst true (Bp P e) 0 [])
  |_=>none
 |v=>K (.sc v)
end
def Cx(tm:Nat->PV):Operand->PV
 |.tmp t=>tm t
 |.const (.agg cs)=>.agg (cs.toList.map .sc)
 |.const v=>.sc v
 |.func f=>.sc (.func (.func f) #[] #[])
 |.global g=>.sc (.pointer (some ⟨g,0,none⟩))
section
variable {R:Type}
def Et(p:PV)(K:IntKind->Int->Option R):Option R:=
 match p with
 |.sc (.int k n)=>K k n
 |_=>none
def Afg(rdf:Nat->Option Ae)(es:Nat)(p:PV)(K:Nat->Ae->Option R):Option R:=
 match p with
 |.view id es' off n=>bif Nat.beq es' es then D4 (rdf id) fun c=>As (decide (off+n*es<=c.length)) (K n ((c.drop off).take (n*es))) else none
 |p=>Ys es p fun _ n c=>K n c
def Tr(rdf:Nat->Option Ae)(t:CT)(p:PV)(K:PV->B9->Option R):Option R:=
 match t with
 |.sl es=>
  match p with
  |.view id es' off n=>bif Nat.beq es' es then D4 (rdf id) fun c=>As (decide (off+n*es<=c.length)) (K (.lst false es n ((c.drop off).take (n*es))) [id]) else none
  |p=>Ys es p fun _ n c=>K (.lst false es n c) []
 |t=>MB t p fun c=>K c []
def Sl(rdf:Nat->Option Ae):List CT->Ae->(Ae->B9->Option R)->Option R
 |[],[],K=>K [] []
 |t::ts,p::ps,K=>Tr rdf t p fun c m=>Sl rdf ts ps fun cs ms=>K (c::cs) (m++ms)
 |_,_,_=>none
def Afv(k:Bool):Ae->Ae->Ae
  |p::ps,c::cs=>
    (match k,p with
     |true,.lst true es 0 []=>.lst true es 0 []
     |_,_=>c)::Afv k ps cs
  |_,cs=>cs
def Aih(P:Program)(rdf:Nat->Option Ae)(t:TypeId)(p:PV)(K:PV->B9->Option R):Option R:=
 bif C5 P t then Di p fun ps=>Sl rdf (Kn P t) ps fun cs m=>K (.agg cs) m
 else Sl rdf (Kn P t) [p] fun cs m=>Ad cs fun c r=>Ak r (K c m)
def TU(P:Program)(rdf:Nat->Option Ae):List TypeId->Ae->(Ae->B9->Option R)->Option R
 |[],[],K=>K [] []
 |t::ts,p::ps,K=>Aih P rdf t p fun v m=>TU P rdf ts ps fun vs ms=>K (v::vs) (m++ms)
 |_,_,_=>none
def Aqn(shr:Bool)(id:Nat)(t:CT)(p:PV)(K:PV->List (Nat × Cc)->Option R):Option R:=
 match t with
 |.sl es=>bif shr then Ys es p fun _ n c=>K (.lst false es n c) [] else Kf es p fun n c=>K (.view id es 0 n) [(id,.ar false c)]
 |t=>MB t p fun c=>K c []
def Wm(shr:Bool)(N:Nat):Nat->List CT->Ae->(Ae->List (Nat × Cc)->Option R)->Option R
 |_,[],ps,K=>Ak ps (K [] [])
 |id,t::ts,ps,K=>Ad ps fun p ps=>Aqn shr id t p fun c b=>Wm shr N (id+N) ts ps fun cs bs=>K (c::cs) (b++bs)
def KG(P:Program)(t:TypeId):Option TypeId:=
 match P.underlying t with
 |some (.pointer e)=>some e
 |_=>none
def Af5(P:Program)(t:TypeId):Nat:=
 match KG P t with
 |some e=>1+(Kn P e).length
 |none=>(Kn P t).length
def Anx(P:Program)(shr:Bool)(N:Nat)(id:Nat)(t:TypeId)(p:PV)(K:PV->List (Nat × Cc)->Option R):Option R:=
 match KG P t with
 |some e=>EP p fun ps=>Wm shr N (id+N) (Kn P e) ps fun cs bs=>K (.ptr id 0) ((id,.st cs)::bs)
 |none=>
 bif C5 P t then Di p fun ps=>Wm shr N id (Kn P t) ps fun cs bs=>K (.agg cs) bs
 else Wm shr N id (Kn P t) [p] fun cs bs=>Ad cs fun c r=>Ak r (K c bs)
def NN(P:Program)(shr:Bool)(N:Nat):Nat->List TypeId->Ae->(Ae->List (Nat × Cc)->Option R)->Option R
 |_,[],ps,K=>Ak ps (K [] [])
 |id,t::ts,ps,K=>Ad ps fun p ps=>Anx P shr N id t p fun v bs=>NN P shr N (id+N*Af5 P t) ts ps fun vs bs'=>K (v::vs) (bs++bs')
def Sb(P:Program)(t:TypeId):List TypeId:=
 match P.underlying t with
 |some (.tuple ts)=>ts.toList
 |_=>[t]
def Su(vs:Ae)(t:Bool):PV:=bif t then .tup vs else vs.headD .top
def Uc(P:Program)(t:TypeId):Bool:=
 match P.underlying t with
 |some (.tuple _)=>true
 |_=>false
def Az9(op:BinOp)(a b:Int)(K:Bool->Option R):Option R:=
 match op with
 |.eql=>K (a==b)
 |.neq=>K (a != b)
 |.lss=>K (decide (a<b))
 |.leq=>K (decide (a<=b))
 |.gtr=>K (decide (a>b))
 |.geq=>K (decide (a>=b))
 |_=>none
def RL(op:BinOp)(k:IntKind)(a b:Int)(K:PV->Option R):Option R:=
 match op with
 |.add=>Aa ((k.wrap (a+b))) fun n=>K (.sc (.int k n))
 |.sub=>Aa ((k.wrap (a-b))) fun n=>K (.sc (.int k n))
 |.mul=>Aa ((k.wrap (a*b))) fun n=>K (.sc (.int k n))
 |.quo=>As (decide (b≠0)) (Aa ((k.wrap (a.tdiv b))) fun n=>K (.sc (.int k n)))
 |.rem=>As (decide (b≠0)) (Aa ((a.tmod b)) fun n=>K (.sc (.int k n)))
 |.and=>Aa (D2 k a b) fun n=>K (.sc (.int k n))
 |.or=>Aa (Xr k a b) fun n=>K (.sc (.int k n))
 |.xor=>Aa (Ew k a b) fun n=>K (.sc (.int k n))
 |.andNot=>Aa (Yp k a b) fun n=>K (.sc (.int k n))
 |op=>Az9 op a b fun r=>K (.sc (.bool r))
def VM(op:BinOp)(x y:ByteArray)(K:PV->Option R):Option R:=
 match op with
 |.add=>As (decide (x.size+y.size<=9223372036854775807)) (Aa (x++y) fun s=>K (.sc (.string s)))
 |.eql=>K (.sc (.bool (x.data.toList==y.data.toList)))
 |.neq=>K (.sc (.bool !(x.data.toList==y.data.toList)))
 |.lss=>K (.sc (.bool (Op.bytesLess x.data.toList y.data.toList)))
 |.leq=>K (.sc (.bool (Op.bytesLess x.data.toList y.data.toList||x.data.toList==y.data.toList)))
 |.gtr=>K (.sc (.bool !(Op.bytesLess x.data.toList y.data.toList||x.data.toList==y.data.toList)))
 |.geq=>K (.sc (.bool !(Op.bytesLess x.data.toList y.data.toList)))
 |_=>none
def SI(e:Bool)(p:PV)(K:PV->Option R):Option R:=
 match p with
 |.sc (.slice none 0 0)=>K (.sc (.bool e))
 |.lst z _ n _=>Aw z (K (.sc (.bool e))) (Aw (decide (0<n)) (K (.sc (.bool !e))) (K .ub))
 |.view _ _ _ n=>Aw (decide (0<n)) (K (.sc (.bool !e))) (K .ub)
 |_=>none
def Agk(P:Program):List Field->Nat->Bool
 |[],_=>true
 |f::r,i=>Nat.beq f.offset i&&(f.name != "_")&&(match P.underlying f.type with|some (.int _)=>true|some .bool=>true|some .string=>true|_=>false)&&Agk P r (i+1)
def Ta(P:Program):List Field->Nat->Bool
  |[],_=>true
  |f::r,i=>Nat.beq f.offset i&&(f.name != "_") &&
    (match P.underlying f.type with
     |some (.int _)=>Ta P r (i+1)
     |some .bool=>Ta P r (i+1)
     |some .string=>Ta P r (i+1)
     |some (.struct gs)=>Agk P gs.toList 0 && !P.stoodInHeld f.type&&(P.info? f.type).isSome&&Nat.beq (Bp P f.type) gs.size&&Ta P r (i+gs.size)
     |_=>false)
def Aco(P:Program)(t:TypeId)(fs:Array Field):Bool:=Ta P fs.toList 0 && !P.stoodInHeld t && !P.eqGuardType P.depth t
def fty(P:Program)(f:Field):CT:=
 match P.underlying f.type with
 |some (.int k)=>.int k
 |some .bool=>.bool
 |some .string=>.str
 |_=>.any
def Ag1(P:Program)(f:Field):List CT:=
 match P.underlying f.type with
 |some (.struct gs)=>gs.toList.map (fty P)
 |_=>[fty P f]
def EY(P:Program):List Field->List CT
 |[]=>[]
 |f::r=>Ag1 P f++EY P r
def O8:List CT->Ae->Ae->(Bool->Option R)->Option R
 |[],[],[],K=>K true
 |.int k::ts,p::ps,q::qs,K=>Bq k p fun a=>Bq k q fun b=>O8 ts ps qs fun r=>K ((a==b)&&r)
 |.bool::ts,p::ps,q::qs,K=>Ax p fun a=>Ax q fun b=>O8 ts ps qs fun r=>K ((a==b)&&r)
 |.str::ts,p::ps,q::qs,K=>Bd p fun a=>Bd q fun b=>O8 ts ps qs fun r=>K ((a==b)&&r)
 |_,_,_,_=>none
def Aub(P:Program)(op:BinOp)(t:TypeId)(x y:PV)(K:PV->Option R):Option R:=
 match P.underlying t with
 |some (.int k)=>
  match op with
  |.shl=>Bq k x fun a=>Et y fun _ b=>As (decide (0<=b)) (Aa (Eu k a b) fun n=>K (.sc (.int k n)))
  |.shr=>Bq k x fun a=>Et y fun _ b=>As (decide (0<=b)) (Aa (Hc k a b) fun n=>K (.sc (.int k n)))
  |op=>Bq k x fun a=>Bq k y fun b=>RL op k a b K
 |some .string=>Bd x fun a=>Bd y fun b=>VM op a b K
 |some .bool=>
  match op with
  |.eql=>Ax x fun a=>Ax y fun b=>K (.sc (.bool (a==b)))
  |.neq=>Ax x fun a=>Ax y fun b=>K (.sc (.bool !(a==b)))
  |_=>none
 |some (.slice _)=>
  match op,y with
  |.eql,.sc (.slice none 0 0)=>SI true x K
  |.neq,.sc (.slice none 0 0)=>SI false x K
  |_,_=>none
 |some (.map _ _)=>
  match op,x,y with
  |.eql,.sc (.map none),.sc (.map none)=>K (.sc (.bool true))
  |.neq,.sc (.map none),.sc (.map none)=>K (.sc (.bool false))
  |_,_,_=>none
 |_=>none
def DC(P:Program)(op:BinOp)(t:TypeId)(x y:PV)(K:PV->Option R):Option R:=
 match P.underlying t with
 |some (.struct fs)=>
  match op with
  |.eql=>As (Aco P t fs) (Di x fun xs=>Di y fun ys=>O8 (EY P fs.toList) xs ys fun b=>K (.sc (.bool b)))
  |.neq=>As (Aco P t fs) (Di x fun xs=>Di y fun ys=>O8 (EY P fs.toList) xs ys fun b=>K (.sc (.bool !b)))
  |_=>none
 |_=>Aub P op t x y K
def unK(op:UnOp)(x:PV)(K:PV->Option R):Option R:=
 match op with
 |.not=>Ax x fun b=>K (.sc (.bool !b))
 |.neg=>Et x fun k n=>Aa (k.wrap (0-n)) fun n=>K (.sc (.int k n))
 |.xor=>Et x fun k n=>Aa (Bc0 k n) fun n=>K (.sc (.int k n))
 |_=>none
def K4:Ae->Option (List UInt8)
 |[]=>some []
 |.sc (.int .u8 n)::r=>(K4 r).map (n.toNat.toUInt8 :: ·)
 |_::_=>none
def CW:Ae->Option Al
 |[]=>some []
 |.sc (.int .i32 n)::r=>(CW r).map (n :: ·)
 |_::_=>none
def D3(s:ByteArray):Ae:=s.data.toList.map fun b=>.sc (.int .u8 b.toNat)
def SN(P:Program)(rdf:Nat->Option Ae)(d:Nat)(src dst:TypeId)(x:PV)(K:PV->List (Nat × Cc)->Option R):Option R:=
 match P.underlying dst with
 |some (.int k)=>As (P.underlying src).isSome (Et x fun _ n=>Aa (k.wrap n) fun n=>K (.sc (.int k n)) [])
 |some .string=>
  match P.underlying src with
  |some .string=>Bd x fun s=>K (.sc (.string s)) []
  |some (.slice e)=>
   match P.underlying e with
   |some (.int .u8)=>Afg rdf 1 x fun n c=>As (decide (c.length=n)) (D4 (K4 c) fun b=>K (.sc (.string ⟨b.toArray⟩)) [])
   |some (.int .i32)=>Afg rdf 1 x fun n c=>As (decide (c.length=n)) (D4 (CW c) fun ns=>Aa (runesBytes ns) fun s=>K (.sc (.string s)) [])
   |_=>none
  |_=>none
 |some (.slice e)=>
  match P.underlying e,P.underlying src with
  |some (.int .u8),some .string=>Bd x fun s=>As (decide (s.size<=1099511627776)) (K (.view d 1 0 s.size) [(d,.ar false (D3 s))])
  |_,_=>none
 |_=>none
def Is(p:Option PV)(dflt:Nat)(K:Nat->Option R):Option R:=
 match p with
 |none=>K dflt
 |some p=>Et p fun _ i=>As (decide (0<=i)) (K i.toNat)
def MI(P:Program)(rdf:Nat->Option Ae)(t:TypeId)(x:PV)(lo hi:Option PV)(K:PV->Option R):Option R:=
 match P.underlying t with
 |some .string=>Bd x fun s=>Is lo 0 fun l=>Is hi s.size fun h=>As (decide (l<=h)&&decide (h<=s.size)) (Aa (s.extract l h) fun s=>K (.sc (.string s)))
 |some (.slice e)=>As (P.info? e).isSome (
  match x with
  |.view id es off n=>As (Nat.beq es (Bp P e)) (Is lo 0 fun l=>Is hi n fun h=>As (decide (l<=h)&&decide (h<=n)) (Aa (off+l*es) fun o=>Aa (h-l) fun n=>K (.view id es o n)))
  |x=>Ys (Bp P e) x fun z n c=>Is lo 0 fun l=>Is hi n fun h=>As (decide (l<=h)&&decide (h<=n)) (Aa (h-l) fun n=>Aa ((c.drop (l*Bp P e)).take (n*Bp P e)) fun c=>K (.lst z (Bp P e) n c)))
 |some (.array n e)=>As (P.info? e).isSome (
  match x with
  |.ptr id off=>D4 (rdf id) fun c=>As (decide (1<=n*Bp P e)&&decide (off+n*Bp P e<=c.length)&&Nat.beq (Bp P e) 1)<|Is lo 0 fun l=>Is hi n fun h=>As (decide (l<=h)&&decide (h<=n)) (Aa (off+l*Bp P e) fun o=>Aa (h-l) fun n=>K (.view id (Bp P e) o n))
  |_=>none)
 |_=>none
def CQ(P:Program)(d:Nat)(t:TypeId)(x:PV)(lo hi mx:Option PV)(K:PV->List (Nat × Cc)->Option R):Option R:=
 match P.underlying t with
 |some (.slice e)=>As ((P.info? e).isSome&&hi.isSome) (
  match x with
  |.view _ es _ n=>As (Nat.beq es (Bp P e)) (Is lo 0 fun l=>Is hi n fun h=>Is mx n fun m=>As (Nat.beq l m&&Nat.beq h m&&decide (m<=n)) (K (.view d (Bp P e) 0 0) [(d,.ar false [])]))
  |x=>Ys (Bp P e) x fun _ n _=>Is lo 0 fun l=>Is hi n fun h=>Is mx n fun m=>As (Nat.beq l m&&Nat.beq h m&&decide (m<=n)) (K (.view d (Bp P e) 0 0) [(d,.ar false [])]))
 |_=>none
def AB(x:PV)(d:Nat)(K:PV->Option R):Option R:=
 match x with
 |.ptr id off=>K (.ptr id (off+d))
 |.iptr c off=>K (.iptr c (off+d))
 |_=>none
def VG(P:Program)(e:TypeId):Bool:=(P.info? e).isSome
def V3(P:Program)(t:TypeId)(f:Nat):Option (Nat × TypeId):=
 match P.underlying t with
 |some (.struct fs)=>(fs[f]?).map fun g=>(g.offset,g.type)
 |_=>none
def N3(P:Program)(t:TypeId)(x:PV)(i:Int)(K:PV->Option R):Option R:=
 match P.underlying t with
 |some (.array n e)=>As (VG P e) (As (decide (0<=i)&&decide (i<n)) (AB x (i.toNat*Bp P e) K))
 |some (.slice e)=>As (VG P e) (
  match x with
  |.view id es off n=>As (Nat.beq es (Bp P e)) (As (decide (0<=i)&&decide (i<n)) (K (.ptr id (off+i.toNat*es))))
  |x=>Ys (Bp P e) x fun _ n c=>As (decide (0<=i)&&decide (i<n)) (K (.iptr c (i.toNat*Bp P e))))
 |_=>none
def FI(P:Program)(rdf:Nat->Option Ae)(t:TypeId)(x:PV)(K:PV->Option R):Option R:=
 match x with
 |.ptr id off=>As (Ly P t) (D4 (rdf id) fun c=>Tu (Kn P t) c off fun cs=>mkV (C5 P t) cs K)
 |.iptr c off=>As (Ly P t) (Zq (Kn P t) c off fun cs=>mkV (C5 P t) cs K)
 |_=>none
def Abe:PV->PV
 |.lst _ es n c=>.lst false es n c
 |p=>p
def Aib:PV->PV
 |.agg cs=>.agg (cs.map Abe)
 |p=>Abe p
def JH(nz:Bool)(P:Program)(rdf rdaf:Nat->Option Ae)(t:TypeId)(x:PV)(K:PV->Option R):Option R:=
 match x with
 |.ptr id off=>As (Ly P t) (
  match rdaf id with
  |some c=>Zq (Kn P t) c off fun cs=>mkV (C5 P t) cs fun v=>K (bif nz then v else Aib v)
  |none=>D4 (rdf id) fun c=>Tu (Kn P t) c off fun cs=>mkV (C5 P t) cs K)
 |.iptr c off=>As (Ly P t) (Zq (Kn P t) c off fun cs=>mkV (C5 P t) cs fun v=>K (bif nz then v else Aib v))
 |_=>none
def B6(cells new:Ae)(off:Nat):Ae:=cells.take off++new++cells.drop (off+new.length)
def okP:PV->Bool
 |.agg _=>true
 |.lst _ _ _ _=>true
 |.view _ _ _ _=>true
 |.sc (.int _ _)=>true
 |.sc (.bool _)=>true
 |.sc (.string _)=>true
 |.sc (.slice none 0 0)=>true
 |_=>false
def BE(Ik:Nat->Option (Nat × Nat)):List (Nat × PV)->Ae->(Ae->Option R)->Option R
 |[],cells,K=>K cells
 |(i,p)::r,cells,K=>D4 (Ik i) fun q=>As (okP p&&Nat.beq (cellsOf p).length q.2&&Nat.ble (q.1+q.2) cells.length) (Aa (B6 cells (cellsOf p) q.1) fun cells=>BE Ik r cells K)
def Ym(P:Program)(t:TypeId)(i:Nat):Option (Nat × Nat):=
 match P.underlying t with
 |some (.struct fs)=>(fs[i]?).map fun f=>(f.offset,Bp P f.type)
 |some (.array _ e)=>some (i*Bp P e,Bp P e)
 |some (.slice e)=>some (i*Bp P e,Bp P e)
 |_=>none
def Wu(P:Program)(t:TypeId):Bool:=
 match P.underlying t with
 |some (.struct fs)=>fs.toList.all fun f=>VG P f.type
 |some (.array _ e)=>VG P e
 |some (.slice e)=>VG P e
 |_=>false
def Vk(P:Program)(t:TypeId):Option Value:=(P.info? t).bind (·.zero)
def I0(P:Program)(t:TypeId)(K:Ae->Option R):Option R:=
 D4 (Vk P t) fun v=>As (Nat.beq v.cells.toList.length (Kn P t).length&&Ly P t) (Zq (Kn P t) (v.cells.toList.map .sc) 0 K)
def Yk(P:Program)(t:TypeId):Bool:=
 match P.underlying t with
 |some (.array _ _)=>true
 |_=>false
def Aqt(P:Program)(t:TypeId)(cells:Ae):Cc:=bif Yk P t then .ar false cells else .st cells
def Tx(n:Nat)(l:Ae):Ae:=(List.replicate n l).flatten
def Ayj(a b:PV)(K:PV->Option R):Option R:=Et a fun k x=>Bq k b fun y=>Aa (if y<x then y else x) fun n=>K (.sc (.int k n))
def Aw2(a b:PV)(K:PV->Option R):Option R:=Et a fun k x=>Bq k b fun y=>Aa (if x<y then y else x) fun n=>K (.sc (.int k n))
def Apd(P:Program)(t:TypeId)(x:PV)(K:Nat->Option R):Option R:=
 match P.underlying t with
 |some .string=>Bd x fun s=>K s.size
 |some (.array n _)=>K n
 |some (.slice e)=>
  match x with
  |.view _ es _ n=>As (Nat.beq es (Bp P e)) (K n)
  |x=>Ys (Bp P e) x fun _ n _=>K n
 |_=>none
end
abbrev Ap:=FuncId->Ae->Option Bv
section
variable {R:Type}
def Mg(P:Program)(ts:List TypeId):Bool:=ts.any fun t=>(KG P t).isSome||(Kn P t).any fun c=>match c with | .sl _=>true|_=>false
def ML(P:Program)(t:TypeId)(tm:Nat->PV)(x:Operand)(K:PV->Option R):Option R:=
 match x with
 |.const v=>cvK P t v K
 |x=>K (Cx tm x)
def Ace(P:Program)(e:TypeId):Bool:=
 match P.info? e with
 |some i=>(match i.zero with|some z=>Nat.beq z.cells.size i.size|none=>false)
 |none=>false
def Aig(P:Program)(rdaf:Nat->Option Ae)(es:Nat)(t:TypeId)(x:PV)(K:Nat->Ae->Option R):Option R:=
 match P.underlying t with
 |some .string=>As (Nat.beq es 1) (Bd x fun b=>K b.size (D3 b))
 |some (.slice _)=>Afg rdaf es x K
 |_=>none
abbrev Aho(P:Program)(s:St)(es:Nat)(t:TypeId)(x:PV)(K:Nat->Ae->Option R):Option R:=Aig P (Mh s.hp) es t x K
def LD(c:Call):Bool:=
 match c.args.toList with
 |.const (.slice none 0 0)::_=>true
 |_=>false
def DD(P:Program)(rdaf:Nat->Option Ae)(d:Nat)(t tx:TypeId)(x:PV)(K:PV->List (Nat × Cc)->Option R):Option R:=
 match P.underlying t with
 |some (.slice e)=>As (Ace P e) <|
  Aig P rdaf (Bp P e) tx x fun m new=>
   As (decide (new.length=m*Bp P e)&&decide (m*((P.info? e).map (·.bytes)).getD 0<=1099511627776)&&decide (m<=1099511627776)) (K (.view d (Bp P e) 0 m) [(d,.ar false new)])
 |_=>none
def Mw(k:Bool):List Operand->Ae->Ae
  |x::xs,p::ps=>
    (match x,p with
     |.const (.slice none 0 0),.lst z es 0 []=>.lst (k||z) es 0 []
     |_,p=>p)::Mw k xs ps
  |_,ps=>ps
def Apz(P:Program)(t:TypeId)(x:PV)(K:Nat->Option R):Option R:=
 match P.underlying t with
 |some (.slice e)=>Ys (Bp P e) x fun z _ _=>As z (K 0)
 |_=>none
def SG(P:Program)(f:FuncId)(c:Call):List TypeId:=
 match P.funcs[f]? with
 |some fn=>fn.params.toList
 |none=>c.argTypes.toList
def ST(C:Ih)(P:Program)(N:Nat)(call:Ap)(tm:Nat->PV)(rdaf:Nat->Option Ae)(o:Oper)(c:Call)(f:FuncId)(K:PV->B9->List (Nat × Cc)->Option R):Option R:=
 TU P rdaf (SG P f c) (c.args.toList.map (Cx tm)) fun vs m=>
  A9 (call f (Mw (C.kz f) c.args.toList vs)) fun rv ro=>Ak ro (As (Nat.blt 0 N)<|NN P (C.shr f) N (o.dst.getD 0) (Sb P o.type) rv fun ws bs=>
   As (bif Uc P o.type then !Nat.beq ws.length 1 else Nat.beq ws.length 1)<|K (Su ws (Uc P o.type)) (bif Mg P (Sb P o.type) then m else []) bs)
def SF(C:Ih)(P:Program)(N:Nat)(call:Ap)(tm:Nat->PV)(rdf rdaf:Nat->Option Ae)(o:Oper)(K:PV->B9->List (Nat × Cc)->Option R):Option R:=
  match o.op with
  |.move x=>ML P o.type tm x fun p=>K p [] []
  |.assign x=>ML P o.type tm x fun p=>K p [] []
  |.pick c a b=>Ax (Cx tm c) fun t=>Aw t (K (Cx tm a) [] []) (K (Cx tm b) [] [])
  |.alloc t=>D4 o.dst fun d=>I0 P t fun cs=>K (.ptr d 0) [] [(d,Aqt P t cs)]
  |.box t x=>D4 o.dst fun d=>As (Ly P t&&Nat.beq (cellsOf (Cx tm x)).length (Kn P t).length)
      (bif Yk P t then Zq (Kn P t) (cellsOf (Cx tm x)) 0 fun cs=>K (.ptr d 0) [] [(d,.ar false cs)]
       else Tu (Kn P t) (cellsOf (Cx tm x)) 0 fun cs=>K (.ptr d 0) [] [(d,.st cs)])
  |.build t ps=>As (Wu P t&&C5 P t)<|I0 P t fun z=>BE (Ym P t) (ps.toList.map fun q=>(q.1,Cx tm q.2)) z fun cs=>Tu (Kn P t) cs 0 fun cs'=>K (.agg cs') [] []
  |.buildSlice t n ps=>D4 o.dst fun d=>
      match P.underlying t with
      |some (.slice e)=>As (Wu P t&&Nat.ble (n*Bp P e) 16777216) (I0 P e fun z=>BE (Ym P t) (ps.toList.map fun q=>(q.1,Cx tm q.2)) (Tx n z) fun cs=>
          Sl rdaf (List.replicate n (Kn P e)).flatten cs fun cs' m=>K (.view d (Bp P e) 0 n) m [(d,.ar false (bif C.nz N then Afv true cs cs' else cs'))])
      |_=>none
  |.load t a=>JH (C.nz N) P rdf rdaf t (Cx tm a) fun v=>K v [] []
  |.nilCheck x=>AB (Cx tm x) 0 fun p=>K p [] []
  |.binOp op t x y _=>
      DC P op t (Cx tm x) (Cx tm y) fun v=>K v [] []
  |.unOp op _ x=>unK op (Cx tm x) fun v=>K v [] []
  |.convert src dst x=>SN P rdaf (o.dst.getD 0) src dst (Cx tm x) fun v b=>D4 o.dst fun _=>K v [] b
  |.makeSlice t l c=>D4 o.dst fun d=>
      match P.underlying t with
      |some (.slice e)=>Et (Cx tm l) fun _ n=>Et (Cx tm c) fun _ m=>
          As (decide (0<=n)&&decide (n<=m)&&decide (m*((P.info? e).map (·.bytes)).getD 0<=1099511627776)&&decide (m<=1099511627776))
            (I0 P e fun z=>K (.view d (Bp P e) 0 n.toNat) [] [(d,.ar false (Tx n.toNat z))])
      |_=>none
  |.slice t x lo hi mx=>
      match mx with
      |none=>MI P rdf t (Cx tm x) (lo.map (Cx tm)) (hi.map (Cx tm)) fun v=>K v [] []
      |some m=>D4 o.dst fun d=>CQ P d t (Cx tm x) (lo.map (Cx tm)) (hi.map (Cx tm)) (some (Cx tm m)) fun v nw=>K v [] nw
  |.fieldAddr t x f=>D4 (V3 P t f) fun q=>As (Nat.ble 1 (Bp P q.2)) (AB (Cx tm x) q.1 fun p=>K p [] [])
  |.field t x f=>D4 (V3 P t f) fun q=>As (Ly P q.2)<|Di (Cx tm x) fun cs=>Tu (Kn P q.2) cs q.1 fun c=>mkV (C5 P q.2) c fun v=>K v [] []
  |.indexAddr t x i=>Et (Cx tm i) fun _ n=>N3 P t (Cx tm x) n fun p=>K p [] []
  |.index t x i=>Et (Cx tm i) fun _ n=>
      match P.underlying t with
      |some .string=>Bd (Cx tm x) fun s=>As (decide (0<=n)) (D4 (s.data.toList[n.toNat]?) fun b=>K (.sc (.int .u8 b.toNat)) [] [])
      |some (.array len e)=>Di (Cx tm x) fun cs=>As (decide (0<=n)&&decide (n<len)&&Ly P e) (Tu (Kn P e) cs (n.toNat*Bp P e) fun c=>mkV (C5 P e) c fun v=>K v [] [])
      |_=>none
  |.lookup t x k ok=>
      match P.underlying t with
      |some (.map kt vt)=>As (match P.underlying kt with|some .string=>true|_=>false) (
        match Cx tm x with
        |.sc (.map none)=>Bd (Cx tm k) fun _=>D4 (Vk P vt) fun z=>cvK P vt z fun v=>As (match v with | .tup _=>false|_=>true) (K (bif ok then .tup [v,.sc (.bool false)] else v) [] [])
        |_=>none)
      |_=>none
  |.extract x i=>
      match Cx tm x with
      |.tup vs=>D4 vs[i]? fun p=>K p [] []
      |_=>none
  |.call c=>
      match c.callee with
      |.builtin .len=>Ad c.args.toList fun x _=>Ad c.argTypes.toList fun t _=>Apd P t (Cx tm x) fun n=>K (.sc (.int .i64 n)) [] []
      |.builtin .cap=>Ad c.args.toList fun x _=>Ad c.argTypes.toList fun t _=>Apz P t (Cx tm x) fun n=>K (.sc (.int .i64 n)) [] []
      |.builtin .min=>Ad c.args.toList fun x r=>Ad r fun y r'=>Ak r' (Ayj (Cx tm x) (Cx tm y) fun v=>K v [] [])
      |.builtin .max=>Ad c.args.toList fun x r=>Ad r fun y r'=>Ak r' (Aw2 (Cx tm x) (Cx tm y) fun v=>K v [] [])
      |.builtin .append=>As (LD c) (D4 o.dst fun d=>Ad c.args.toList fun _ r=>Ad r fun x r'=>Ak r' (Ad c.argTypes.toList fun t u=>Ad u fun tx _=>DD P rdaf d t tx (Cx tm x) fun v nw=>K v [] nw))
      |.value (.func f)=>ST C P N call tm rdaf o c f K
      |.value (.tmp t)=>fvK (tm t) fun f=>ST C P N call tm rdaf o c f K
      |_=>none
  |_=>none
def Xt(C:Ih)(P:Program)(o:Op):Bool:=
 match o with
 |.store .. =>true
 |.call c=>
  match c.callee with
  |.builtin .append=> !LD c
  |.builtin .copy=>true
  |.builtin _=>false
  |.value (.func f)=>((SG P f c).any fun t=>(KG P t).isSome)||((SG P f c).zipIdx.any fun q=>C.mvd f q.2||C.lnd f q.2)
  |_=>false
 |_=>false
def BZ(b:Cc):Cc:=
 match b with
 |.ar _ c=>.ar true c
 |b=>b
def Ah(hp:Nat->Option Cc)(ids:B9):Nat->Option Cc:=fun i=>bif ids.any (Nat.beq i) then (hp i).map BZ else hp i
def A6(hp:Nat->Option Cc):List (Nat × Cc)->Nat->Option Cc
 |[]=>hp
 |(i,b)::r=>A6 (Dt hp i (some b)) r
def Co(hp:Nat->Option Cc):List (Nat × Cc)->Bool
 |[]=>true
 |(i,_)::r=>(hp i).isNone && !(r.any fun q=>Nat.beq q.1 i)&&Co hp r
def Ce(tm:Nat->PV)(d:Option Tmp)(v:PV):Nat->PV:=
 match d with
 |some i=>Dt tm i v
 |none=>tm
def H9(N:Nat)(d:Option Tmp):Bool:=
 match d with
 |some i=>Nat.blt i N
 |none=>true
def MA(N:Nat)(s:St)(d:Option Tmp)(v:PV)(fz:B9)(nw:List (Nat × Cc))(K:St->Option R):Option R:=
 As (H9 N d&&Co s.hp nw) (K ⟨Ce s.tm d v,A6 (Ah s.hp fz) nw⟩)
def NJ(P:Program)(s:St)(t:TypeId)(a x:PV)(K:St->Option R):Option R:=
 match a with
 |.ptr id off=>
  match s.hp id with
  |some (.st c)=>As (Ly P t&&Nat.beq (cellsOf x).length (Kn P t).length&&decide (off+(Kn P t).length<=c.length)) (Tu (Kn P t) (cellsOf x) 0 fun cs=>Aa (B6 c cs off) fun c=>K ⟨s.tm,Dt s.hp id (some (.st c))⟩)
  |some (.ar false c)=>As (Ly P t&&decide (off+(Kn P t).length<=c.length)) (Sl (Mh s.hp) (Kn P t) (cellsOf x) fun cs m=>As (!m.any (Nat.beq id)) (Aa (B6 c cs off) fun c=>K ⟨s.tm,Dt (Ah s.hp m) id (some (.ar false c))⟩))
  |_=>none
 |_=>none
def HT(P:Program)(t:TypeId):Bool:=
 match P.underlying t with
 |some (.int _)=>true
 |_=>false
def AG(P:Program)(N:Nat)(s:St)(d:Nat)(e:TypeId)(b x:PV)(K:St->Option R):Option R:=
 Et x fun _ n=>Ys (Bp P e) b fun z _ _=>
  As (z&&Nat.blt d N&&(s.hp d).isNone&&decide (0<=n)&&decide (n.toNat*((P.info? e).map (·.bytes)).getD 0<=1099511627776)&&decide (n<=1099511627776))
   (K ⟨Dt s.tm d (.view d (Bp P e) 0 n.toNat),Dt s.hp d (some (.ar false []))⟩)
def Ur(P:Program)(N:Nat)(s:St)(d:Nat)(t tx:TypeId)(b x:PV)(K:St->Option R):Option R:=
 match P.underlying t with
 |some (.slice e)=>As (Ace P e) <|
  bif HT P tx then AG P N s d e b x K else
  Aho P s (Bp P e) tx x fun m new=>
  match b with
  |.view id es off n=>
   match s.hp id with
   |some (.ar false c)=>
    As (Nat.beq es (Bp P e)&&Nat.beq off 0&&Nat.blt d N&&(s.hp d).isNone&&decide (n*es<=c.length)&&decide (new.length=m*es)
     && decide ((n+m)*((P.info? e).map (·.bytes)).getD 0<=1099511627776)&&decide (n+m<=1099511627776))
     (Aa (n+m) fun n'=>Aa (c.take (n*es)++new) fun c=>K ⟨Dt s.tm d (.view d es 0 n'),Dt (Dt s.hp id (some .mv)) d (some (.ar false c))⟩)
   |_=>none
  |b=>Ys (Bp P e) b fun z _ _=>
    As (z&&Nat.blt d N&&(s.hp d).isNone&&decide (new.length=m*Bp P e)&&decide (m*((P.info? e).map (·.bytes)).getD 0<=1099511627776)&&decide (m<=1099511627776))
     (K ⟨Dt s.tm d (.view d (Bp P e) 0 m),Dt s.hp d (some (.ar false new))⟩)
 |_=>none
def YW(P:Program)(N:Nat)(s:St)(d:Option Tmp)(t tx:TypeId)(b x:PV)(K:St->Option R):Option R:=
 match P.underlying t with
 |some (.slice e)=>As (VG P e&&H9 N d) <|
  Aho P s (Bp P e) tx x fun m new=>
  match b with
  |.view id es off n=>
   match s.hp id with
   |some (.ar false c)=>As (Nat.beq es (Bp P e)&&decide (off+n*es<=c.length)&&decide (new.length=m*es))
     (Aa (min m n) fun k=>Aa (B6 c (new.take (k*es)) off) fun c=>K ⟨Ce s.tm d (.sc (.int .i64 k)),Dt s.hp id (some (.ar false c))⟩)
   |_=>none
  |_=>none
 |_=>none
def Anv(mv:Bool)(hp:Nat->Option Cc)(t:CT)(p:PV)(K:PV->B9->B9->Option R):Option R:=
 match t with
 |.sl es=>
  bif mv then
   match p with
   |.view id es' off n=>
    match hp id with
    |some (.ar false c)=>
     bif Nat.beq es' es&&Nat.beq off 0 then As (decide (n*es<=c.length)) (K (.own es n (c.take (n*es))) [] [id])
     else Tr (Mh hp) (.sl es) (.view id es' off n) fun c m=>K c m []
    |_=>Tr (Mh hp) (.sl es) (.view id es' off n) fun c m=>K c m []
   |p=>Ys es p fun z n c=>bif z then K (.own es 0 []) [] [] else K (.lst false es n c) [] []
  else Tr (Mh hp) (.sl es) p fun c m=>K c m []
 |t=>MB t p fun c=>K c [] []
def PB(mv:Bool)(hp:Nat->Option Cc):List CT->Ae->(Ae->B9->B9->Option R)->Option R
 |[],[],K=>K [] [] []
 |t::ts,p::ps,K=>Anv mv hp t p fun c m x=>PB mv hp ts ps fun cs ms xs=>K (c::cs) (m++ms) (x++xs)
 |_,_,_=>none
inductive Ip where
 |var (id off:Nat) (cts:List CT) (ws:Ae)
 |row (id:Nat)
 |none
def Ip.ids:Ip->B9
 |.var id _ _ _=>[id]
 |.row id=>[id]
 |.none=>[]
def Bca(P:Program)(t:TypeId):Option TypeId:=
 match P.underlying t with
 |some (.slice e)=>some e
 |_=>none
def Ar7(hp:Nat->Option Cc)(es:Nat)(p:PV)(K:PV->List Ip->Option R):Option R:=
 match p with
 |.view id es' off n=>
  match hp id with
  |some (.ar false c)=>As (Nat.beq es' es&&Nat.beq off 0) (K (.tup [.own es n c]) [.row id])
  |_=>none
 |p=>Ys es p fun z _ _=>As z (K (.tup [.own es 0 []]) [.none])
def MF(C:Ih)(P:Program)(f:FuncId)(hp:Nat->Option Cc)(i:Nat)(t:TypeId)(p:PV)(K:PV->B9->B9->List Ip->Option R):Option R:=
 match KG P t with
 |some e=>
  match p with
  |.ptr id off=>
   match hp id with
   |some (.st c)=>As (Ly P e&&decide (off+(Kn P e).length<=c.length)) (PB (C.mvd f i) hp (Kn P e) ((c.drop off).take (Kn P e).length) fun cs m x=>K (.pbox cs) m x [.var id off (Kn P e) cs])
   |_=>none
  |_=>none
 |none=>
  bif C.lnd f i then D4 (Bca P t) fun e=>Ar7 hp (Bp P e) p fun v l=>K v [] [] l
  else bif C5 P t then Di p fun ps=>PB (C.mvd f i) hp (Kn P t) ps fun cs m x=>K (.agg cs) m x []
  else PB (C.mvd f i) hp (Kn P t) [p] fun cs m x=>Ad cs fun c r=>Ak r (K c m x [])
def YM(C:Ih)(P:Program)(f:FuncId)(hp:Nat->Option Cc):Nat->List TypeId->Ae->(Ae->B9->B9->List Ip->Option R)->Option R
 |_,[],[],K=>K [] [] [] []
 |i,t::ts,p::ps,K=>MF C P f hp i t p fun v m x l=>YM C P f hp (i+1) ts ps fun vs ms xs ls=>K (v::vs) (m++ms) (x++xs) (l++ls)
 |_,_,_,_=>none
def BC(hp:Nat->Option Cc)(ids:B9):Nat->Option Cc:=fun i=>bif ids.any (Nat.beq i) then (hp i).map (fun _=>Cc.mv) else hp i
def nid(N t:Nat):Nat:=N*(1000+t)
def Age(N:Nat)(hp:Nat->Option Cc):Nat->Nat->Nat
 |0,t=>t
 |k+1,t=>bif (hp (nid N t)).isNone then t else Age N hp k (t+1)
def Apu(N t:Nat)(ct:CT)(was p:PV)(K:Nat->PV->List (Nat × Cc)->Option R):Option R:=
 match ct with
 |.sl es=>
  match was with
  |.own _ _ _=>Kf es p fun n c=>K (t+1) (.view (nid N t) es 0 n) [(nid N t,.ar false c)]
  |_=>Ys es p fun _ n c=>K t (.lst false es n c) []
 |ct=>MB ct p fun c=>K t c []
def Aaa(N:Nat):Nat->List CT->Ae->Ae->(Nat->Ae->List (Nat × Cc)->Option R)->Option R
 |t,[],[],ps,K=>Ak ps (K t [] [])
 |t,ct::cts,w::ws,ps,K=>Ad ps fun p ps=>Apu N t ct w p fun t' c b=>Aaa N t' cts ws ps fun t'' cs bs=>K t'' (c::cs) (b++bs)
 |_,_,_,_,_=>none
def GW(N:Nat):Nat->List Ip->List Ae->(Nat->Option Cc)->((Nat->Option Cc)->List (Nat × Cc)->Option R)->Option R
 |_,[],ro,hp,K=>Ak ro (K hp [])
 |t,.var id off cts ws::l,ro,hp,K=>Ad ro fun cs ro=>Aaa N t cts ws cs fun t' cs' bs=>
   match hp id with
   |some (.st c)=>Aa (B6 c cs' off) fun c=>GW N t' l ro (Dt hp id (some (.st c))) fun Do bs'=>K Do (bs++bs')
   |_=>none
 |t,.row id::l,ro,hp,K=>Ad ro fun cs ro=>GW N t l ro (Dt hp id (some (.ar false cs))) K
 |t,.none::l,ro,hp,K=>Ad ro fun _ ro=>GW N t l ro hp K
def Fa:B9->Bool
 |[]=>true
 |a::r=> !(r.any (Nat.beq a))&&Fa r
def MO(C:Ih)(P:Program)(N:Nat)(call:Ap)(s:St)(o:Oper)(f:FuncId)(c:Call)(K:St->Option R):Option R:=
 YM C P f s.hp 0 (SG P f c) (c.args.toList.map (Cx s.tm)) fun vs m x l=>
  As (Fa (l.flatMap Ip.ids++x)&&m.all (fun i=> !((l.flatMap Ip.ids++x).any (Nat.beq i)))&&Nat.blt 0 N&&H9 N o.dst) <|
  A9 (call f (Mw (C.kz f) c.args.toList vs)) fun rv ro=>
   NN P (C.shr f) N (o.dst.getD N) (Sb P o.type) rv fun ws bs=>
    As (bif Uc P o.type then !Nat.beq ws.length 1 else Nat.beq ws.length 1) <|
    Bms (Age N s.hp 100 0) fun t0=>GW N t0 l ro (BC (Ah s.hp m) x) fun Do bs'=>
     As (Co Do (bs++bs')) (K ⟨Ce s.tm o.dst (Su ws (Uc P o.type)),A6 Do (bs++bs')⟩)
def EL(C:Ih)(P:Program)(N:Nat)(call:Ap)(s:St)(o:Oper)(K:St->Option R):Option R:=
 match o.op with
 |.store t a x=>As (o.dst.isNone) (NJ P s t (Cx s.tm a) (Cx s.tm x) K)
 |.call c=>
  match c.callee with
  |.builtin .append=>D4 o.dst fun d=>Ad c.args.toList fun b r=>Ad r fun x r'=>Ak r' (Ad c.argTypes.toList fun t u=>Ad u fun tx _=>Ur P N s d t tx (Cx s.tm b) (Cx s.tm x) K)
  |.builtin .copy=>Ad c.args.toList fun b r=>Ad r fun x r'=>Ak r' (Ad c.argTypes.toList fun t u=>Ad u fun tx _=>YW P N s o.dst t tx (Cx s.tm b) (Cx s.tm x) K)
  |.value (.func f)=>MO C P N call s o f c K
  |_=>none
 |_=>none
def Ae8(C:Ih)(P:Program)(N:Nat)(call:Ap)(o:Oper)(s:St)(K:St->Option R):Option R:=
 bif Xt C P o.op then EL C P N call s o K
 else SF C P N call s.tm (rd s.hp) (Mh s.hp) o fun v fz nw=>MA N s o.dst v fz nw K
def Eo(C:Ih)(P:Program)(N:Nat)(call:Ap)(ops:Array Oper)(o:Oper)(s:St)(K:St->Option R):Option R:=
 match o.guard with
 |none=>Ae8 C P N call o s K
 |some (j,want)=>
  match (ops[j]?).bind (·.dst) with
  |none=>none
  |some d=>
   match s.tm d with
   |.sc (.bool b)=>
    Aw b (bif want then Ae8 C P N call o ⟨Dt s.tm d (.sc (.bool true)),s.hp⟩ K else As (H9 N o.dst) (K ⟨Ce (Dt s.tm d (.sc (.bool true))) o.dst (.sc undef),s.hp⟩))
     (bif want then As (H9 N o.dst) (K ⟨Ce (Dt s.tm d (.sc (.bool false))) o.dst (.sc undef),s.hp⟩) else Ae8 C P N call o ⟨Dt s.tm d (.sc (.bool false)),s.hp⟩ K)
   |.sc (.tuple _)=>As (H9 N o.dst) (K ⟨Ce s.tm o.dst (.sc undef),s.hp⟩)
   |_=>none
def Sa(C:Ih)(P:Program)(N:Nat)(call:Ap)(ops:Array Oper):List Oper->St->(St->Option R)->Option R
 |[],s,K=>K s
 |o::r,s,K=>Eo C P N call ops o s fun s'=>Sa C P N call ops r s' K
def EQ(x y:Option R):Option R:=open Classical in if x=y then x else none
def Ahm(ops:Array Oper)(o:Oper)(s:St)(F:St->Option R):Option R:=
 match o.guard with
 |none=>F s
 |some (j,_)=>
  match (ops[j]?).bind (·.dst) with
  |none=>F s
  |some d=>
   match s.tm d with
   |.ub=>EQ (F ⟨Dt s.tm d (.sc (.bool true)),s.hp⟩) (F ⟨Dt s.tm d (.sc (.bool false)),s.hp⟩)
   |_=>F s
def Ve(C:Ih)(P:Program)(N:Nat)(call:Ap)(ops:Array Oper):List Oper->St->(St->Option R)->Option R
 |[],s,K=>K s
 |o::r,s,K=>Ahm ops o s fun s1=>Eo C P N call ops o s1 fun s'=>Ve C P N call ops r s' K
end
def Atu(o:Oper):B9:=o.op.operands.toList.filterMap fun x=>match x with | .tmp t=>some t|_=>none
def looks(ops:Array Oper)(o:Oper):B9:=
 Atu o++(match o.guard with|some (g,_)=>((ops[g]?).bind (·.dst)).toList|none=>[])
def J3(P:Program)(o:Op):Bool:=
 match o with
 |.slice t .. =>match P.underlying t with|some (.array _ _)=>true|_=>false
 |.buildSlice t _ _=>match P.underlying t with|some (.slice e)=>Mg P [e]|_=>true
 |.convert _ dst _=>match P.underlying dst with|some .string=>true|_=>false
 |.alloc _ | .box .. | .makeSlice .. =>false
 |.move _ | .assign _ | .pick .. | .build .. | .binOp .. | .unOp .. | .fieldAddr .. | .field .. | .index .. | .indexAddr .. | .extract .. | .nilCheck _=>false
 |.call c=>match c.callee with | .builtin .len=>false | .builtin .min=>false | .builtin .max=>false|_=>true
 |_=>true
def SY(C:Ih)(P:Program)(ops:Array Oper)(x y:Oper):Bool:=
 (match x.dst with|some d=>(looks ops y).any (Nat.beq d)||(match y.dst with|some e=>Nat.beq d e|none=>false)|none=>false) ||
 (match y.dst with|some e=>(looks ops x).any (Nat.beq e)|none=>false) ||
 (Xt C P x.op&&J3 P y.op)||(Xt C P y.op&&J3 P x.op)
def K6(ops:List Oper):B9->B9
 |acc=>match ops with
  |[]=>acc
  |o::r=>K6 r (acc++[o.after.toList.foldl (fun s e=>bif Region.binds .any e then s ||| 2 ^ e.on ||| acc.getD e.on 0 else s) 0])
def QW(C:Ih)(P:Program)(ops:Array Oper)(bs:B9):List Oper->Nat->Bool
 |[],_=>true
 |o::r,i=>(ops.toList.zipIdx.all fun q=> !Nat.blt q.2 i || !SY C P ops q.1 o||(bs.getD i 0).testBit q.2)&&QW C P ops bs r (i+1)
def SQ(C:Ih)(P:Program)(ops:Array Oper):Bool:=
 ops.toList.zipIdx.all (fun q=>q.1.after.toList.all fun e=> !Region.binds .any e||Nat.blt e.on q.2)&&QW C P ops (K6 ops.toList []) ops.toList 0
def Au:PV->B9
 |.view id _ _ _=>[id]
 |.ptr id _=>[id]
 |_=>[]
def Ct:PV->B9
 |.agg cs=>cs.flatMap Au
 |p=>Au p
def Cd:PV->B9
 |.tup ps=>ps.flatMap Ct
 |p=>Ct p
def AZ(P:Program)(o:Op):Bool:=
 match o with
 |.load .. =>true
 |.convert _ dst _=>(match P.underlying dst with|some .string=>true|_=>false)
 |_=>false
def S9(o:Op):Bool:=
 match o with
 |.call c=>(match c.callee with | .builtin .append=> !LD c|_=>false)
 |_=>false
def Asz(ops:Array Oper)(x y:Oper):Bool:=
 (match x.dst with|some d=>(looks ops y).any (Nat.beq d)||(match y.dst with|some e=>Nat.beq d e|none=>false)|none=>false) ||
 (match y.dst with|some e=>(looks ops x).any (Nat.beq e)|none=>false)
def Xw(C:Ih)(P:Program)(x y:Oper):Bool:=(Xt C P x.op&&J3 P y.op)||(Xt C P y.op&&J3 P x.op)
def Nh(C:Ih)(P:Program)(x y:Oper):Bool:=(Xt C P x.op&&AZ P y.op)||(Xt C P y.op&&AZ P x.op)||(S9 x.op&&S9 y.op)
def As6(C:Ih)(P:Program)(ops:Array Oper)(x y:Oper):Bool:=Asz ops x y||(Xw C P x y && !Nh C P x y)
def JP(C:Ih)(P:Program)(ops:Array Oper)(bs:B9):List Oper->Nat->Bool
 |[],_=>true
 |o::r,i=>(ops.toList.zipIdx.all fun q=> !Nat.blt q.2 i || !As6 C P ops q.1 o||(bs.getD i 0).testBit q.2)&&JP C P ops bs r (i+1)
def TK(C:Ih)(P:Program)(ops:Array Oper):Bool:=
 ops.toList.zipIdx.all (fun q=>q.1.after.toList.all fun e=> !Region.binds .any e||Nat.blt e.on q.2)&&JP C P ops (K6 ops.toList []) ops.toList 0
def Qx(C:Ih)(P:Program)(s:St)(o:Oper):B9:=
 let l:=o.op.operands.toList.flatMap fun y=>Cd (Cx s.tm y)
 bif Xt C P o.op && !S9 o.op then l++l.flatMap (fun i=>match s.hp i with|some (.st c)=>c.flatMap Au|_=>[])
 else bif AZ P o.op||S9 o.op then l else []
def Ap7(a b:B9):Bool:=a.all fun i=> !b.any (Nat.beq i)
def KH(C:Ih)(P:Program)(ops:Array Oper)(bs:B9)(i:Nat)(o:Oper):B9:=
 (ops.toList.zipIdx.filter fun q=>Nh C P q.1 o && !(Nat.blt q.2 i&&(bs.getD i 0).testBit q.2) && !(Nat.blt i q.2&&(bs.getD q.2 0).testBit i)).map (·.2)
def OU(C:Ih)(P:Program)(ops:Array Oper)(bs:B9):List B9:=ops.toList.zipIdx.map fun q=>KH C P ops bs q.2 q.1
def PW(C:Ih)(P:Program)(sm:List B9)(s:St)(i:Nat)(o:Oper):B9:=
 match sm.getD i [] with
 |[]=>[]
 |_::_=>Qx C P s o
def WY(C:Ih)(P:Program)(sm:List B9)(s:St)(i:Nat)(o:Oper)(q:Nat × Oper × B9):Bool:=
 !((sm.getD i []).any (Nat.beq q.1))||Ap7 q.2.2 (PW C P sm s i o)
def Kh{R:Type}(C:Ih)(P:Program)(N:Nat)(call:Ap)(ops:Array Oper)(sm:List B9):List (Nat × Oper × B9)->B9->St->(St->Option R)->Option R
 |_,[],s,K=>K s
 |dn,i::l,s,K=>D4 ops[i]? fun o=>As (dn.all (WY C P sm s i o)&&(PW C P sm s i o).all (fun k=>(s.hp k).isSome)) (Eo C P N call ops o s fun s'=>Kh C P N call ops sm ((i,o,PW C P sm s i o)::dn) l s' K)
def Avw(m i:Nat):Nat:=m ||| 2 ^ i
def Bl8(m i:Nat):Nat:=bif m.testBit i then m ^^^ 2 ^ i else m
def Al0(ops:Array Oper):List Oper->Nat->Nat
 |[],m=>m
 |o::r,m=>
  let m1:=Al0 ops r m
  let m2:=match o.dst with|some d=>Bl8 m1 d|none=>m1
  (looks ops o).foldl Avw m2
def Tn:Code->Nat->(Nat->Nat)->Nat->Nat
 |.skip,ln,_,_=>ln
 |.region _ ops _,ln,_,_=>Al0 ops ops.toList ln
 |.seq a b,ln,lx,lr=>Tn a (Tn b ln lx lr) lx lr
 |.cond c a b,ln,lx,lr=>let m:=Tn a ln lx lr ||| Tn b ln lx lr;match c with | .tmp d=>Avw m d|_=>m
 |.block id c,ln,lx,lr=>Tn c ln (fun j=>bif Nat.beq j id then ln else lx j) lr
 |.loop c,_,lx,lr=>Tn c (Tn c 0 lx lr) lx lr
 |.exit id,_,lx,_=>lx id
 |.ret,_,_,lr=>lr
 |_,_,_,_=>0
def Afj(ops:List Oper):B9:=(ops.filterMap fun o=>o.guard.map (·.1)).eraseDups
def Sw:Code->Nat
 |.region _ _ _=>1
 |.seq a b=>Sw a+Sw b
 |.cond _ a b=>Sw a+Sw b
 |.block _ c=>Sw c
 |.loop c=>Sw c
 |_=>0
def LS:Code->Nat
 |.skip=>1
 |.region _ ops _=>2 ^ min 6 (Afj ops.toList).length
 |.seq a b=>bif (Nat.ble 7 (LS a)&&Nat.ble 6 (Sw b))||(Nat.ble 5 (LS a)&&Nat.ble 9 (Sw b)) then LS b else min 1000 (LS a*LS b)
 |.cond _ a b=>LS a+LS b
 |.block _ c=>LS c
 |.loop _=>1
 |.exit _=>1
 |_=>0
def A0d(P:Program)(o:Oper):Bool:=
 match o.op with
 |.load t _=>Yk P t&&Nat.ble 8 (Bp P t)
 |.store t _ _=>Yk P t&&Nat.ble 8 (Bp P t)
 |_=>false
def Afx(P:Program):Code->Bool
 |.region _ ops _=>ops.toList.any (A0d P)
 |.seq a _=>Afx P a
 |_=>false
def Al4(P:Program):Code->Bool
 |.region _ ops _=>ops.toList.any (A0d P)
 |.seq _ b=>Al4 P b
 |_=>false
def Ayf(P:Program)(o:Oper):Bool:=
 match o.op with
 |.call _=> !Yk P o.type&&(Nat.beq (Bp P o.type) 8||Nat.ble 15 (Bp P o.type))
 |_=>false
def IJ(P:Program):Code->Bool
 |.region _ ops _=>ops.toList.any (Ayf P)
 |.seq _ b=>IJ P b
 |.cond _ a b=>IJ P a||IJ P b
 |_=>false
def A7h:Code->Nat
 |.seq a b=>match b with
  |.ret=>(match a with | .region _ ops _=>(Afj ops.toList).length|_=>0)
  |_=>A7h b
 |_=>0
def Av1(x y:Code):Bool:=(Nat.beq (LS x) 1&&Nat.beq (A7h y) 11)||(Nat.beq (LS x) 4&&Nat.beq (Sw x) 7&&(Nat.beq (Sw y) 3||Nat.beq (Sw y) 1))||(Nat.beq (LS x) 9&&Nat.beq (Sw x) 5&&Nat.beq (Sw y) 5)
def JF(a b:Code):Bool:=Av1 a b||(match b with | .seq x y=>Av1 x y|_=>false)
def Aml(P:Program)(a b:Code):Bool:=(Nat.ble 7 (LS a)&&Nat.ble 6 (Sw b))||(Nat.ble 5 (LS a)&&Nat.ble 9 (Sw b))||JF a b||Afx P b||Al4 P a||IJ P a
def Qk(m:Nat):Nat->B9
 |0=>[]
 |n+1=>Qk m n++(bif m.testBit n then [n] else [])
def lk(l:List (Nat × PV))(i:Nat):PV:=
 match l with
 |[]=>.top
 |(j,p)::r=>bif Nat.beq i j then p else lk r i
def C4(l:List (Nat × Cc))(i:Nat):Option Cc:=
 match l with
 |[]=>none
 |(j,b)::r=>bif Nat.beq i j then some b else C4 r i
def EH(l:List (Nat × Nat))(i:Nat):Option Nat:=
 match l with
 |[]=>none
 |(j,b)::r=>bif Nat.beq i j then some b else EH r i
def QJ(N:Nat)(s:St)(i:Nat):St:=
 match s.tm i with
 |.lst true es 0 []=>
  bif (s.hp i).isNone then ⟨Dt s.tm i (.view i es 0 0),Dt s.hp i (some (.ar false []))⟩
  else bif (s.hp (i+N*3000)).isNone then ⟨Dt s.tm i (.view (i+N*3000) es 0 0),Dt s.hp (i+N*3000) (some (.ar false []))⟩
  else s
 |_=>s
def Abn(N:Nat)(id:Nat)(s:St)(j:Nat):St:=
 match s.hp id with
 |some (.st c)=>
  match c[j]? with
  |some (.lst true es 0 [])=>bif (s.hp (id+N*(j+1))).isNone then ⟨s.tm,Dt (Dt s.hp id (some (.st (c.set j (.view (id+N*(j+1)) es 0 0))))) (id+N*(j+1)) (some (.ar false []))⟩ else s
  |_=>s
 |_=>s
def Abg(N:Nat)(s:St)(i:Nat):St:=
 match s.tm i with
 |.ptr id _=>
  match s.hp id with
  |some (.st c)=>(List.range c.length).foldl (Abn N id) s
  |_=>s
 |_=>s
def Aab(m:List (Nat × Nat))(old new:Nat):List (Nat × Nat):=
 match EH m old with
 |some _=>m
 |none=>m++[(old,new)]
def Xs(N new:Nat):Ae->Nat->List (Nat × Nat)->List (Nat × Nat)
 |[],_,m=>m
 |.view id _ _ _::r,j,m=>Xs N new r (j+1) (Aab m id (new+N*(j+1)))
 |_::r,j,m=>Xs N new r (j+1) m
def QK(N:Nat)(s:St)(m:List (Nat × Nat))(i:Nat):List (Nat × Nat):=
 match s.tm i with
 |.view id _ _ _=>Aab m id i
 |.ptr id _=>
  match EH m id with
  |some _=>m
  |none=>
   match s.hp id with
   |some (.st c)=>Xs N i c 0 (Aab m id i)
   |_=>Aab m id i
 |.agg c=>Xs N i c 0 m
 |_=>m
def Akb(m:List (Nat × Nat)):PV->PV
 |.view id es off n=>match EH m id with|some j=>.view j es off n|none=>.top
 |.ptr id off=>match EH m id with|some j=>.ptr j off|none=>.top
 |.sc v=>.sc v
 |.lst z es n c=>.lst z es n c
 |.iptr c off=>.iptr c off
 |_=>.top
def Aob(m:List (Nat × Nat)):PV->PV
 |.agg c=>.agg (c.map (Akb m))
 |p=>Akb m p
def Axr(m:List (Nat × Nat)):Cc->Cc
 |.st c=>.st (c.map (Akb m))
 |b=>b
def D1(N i:Nat):Nat:=i+N*2000
def Ad5(N:Nat)(hp:Nat->Option Cc):Nat->List (Nat × Nat)
 |0=>[]
 |i+1=>bif (hp (D1 N i)).isSome then Ad5 N hp i++[(D1 N i,D1 N i)] else Ad5 N hp i
def CC(N:Nat)(hp:Nat->Option Cc):Nat->List (Nat × Nat)->List (Nat × Nat)
 |0,m=>m
 |i+1,m=>
  match hp (D1 N i) with
  |some (.st c)=>Xs N (D1 N i) c 0 (CC N hp i m)
  |_=>CC N hp i m
def Bmr(N:Nat)(hp:Nat->Option Cc)(k:Nat):List (Nat × Nat):=CC N hp k (Ad5 N hp k)
def Qv(m:List (Nat × Nat))(hp:Nat->Option Cc):List (Nat × Nat)->List (Nat × Cc)
 |[]=>[]
 |(old,new)::r=>match hp old with
  |some b=>(new,Axr m b)::Qv m hp r
  |none=>Qv m hp r
section
variable {R:Type}
def Ak9(N:Nat)(ls:B9)(q:Bool)(s:St)(K:St->Option R):Option R:=
 let s2:=bif q then s else ls.foldl (Abg N) (ls.foldl (QJ N) s)
 let m:=ls.foldl (QK N s2) (Bmr N s2.hp 8)
 As (Fa (m.map (·.1))&&Fa (m.map (·.2))) (K ⟨lk (ls.map fun i=>(i,Aob m (s2.tm i))),C4 (Qv m s2.hp m)⟩)
def Mu(N L:Nat)(s:St)(K:St->Option R):Option R:=Ak9 N (Qk L N) false s K
def Aez(N L:Nat)(s:St)(K:St->Option R):Option R:=Ak9 N (Qk L N) true s K
def Adw(F:(St->Option R)->St->Option R)(nm:St->(St->Option R)->Option R):Nat->St->Option R
 |0,_=>none
 |n+1,s=>F (fun s'=>nm s' (Adw F nm n)) s
def SO(n:Nat)(F:St->Option R)(s:St):Option R:=
 match n with
 |0=>none
 |_+1=>F s
def Avh(s:St)(c:Operand)(kt kf:St->Option R):Option R:=
 match c with
 |.tmp d=>
  match s.tm d with
  |.sc (.bool b)=>Aw b (kt ⟨Dt s.tm d (.sc (.bool true)),s.hp⟩) (kf ⟨Dt s.tm d (.sc (.bool false)),s.hp⟩)
  |.ub=>EQ (kt s) (kf s)
  |_=>none
 |.const (.bool true)=>kt s
 |.const (.bool false)=>kf s
 |_=>none
def Mq(C:Ih)(P:Program)(fu N:Nat)(call:Ap):Code->Nat->(Nat->Nat)->Nat->(St->Option R)->(Nat->St->Option R)->(St->Option R)->St->Option R
 |.skip,_,_,_,kn,_,_,s=>kn s
 |.region _ ops draw,_,_,_,kn,_,_,s=>XA (draw && !SQ C P ops) (As (TK C P ops) (Avu (OU C P ops (K6 ops.toList [])) fun sm=>Kh C P N call ops sm [] (List.range ops.size) s kn)) (XA draw (Sa C P N call ops ops.toList s kn) (Ve C P N call ops ops.toList s kn))
 |.seq a b,ln,lx,lr,kn,kx,kr,s=>Mq C P fu N call a (Tn b ln lx lr) lx lr (fun s'=>XA (Aml P a b) (XA (JF a b) (Aez N (Tn b ln lx lr) s' (SO fu fun s''=>Mq C P fu N call b ln lx lr kn kx kr s'')) (Mu N (Tn b ln lx lr) s' (SO fu fun s''=>Mq C P fu N call b ln lx lr kn kx kr s''))) (Mq C P fu N call b ln lx lr kn kx kr s')) kx kr s
 |.cond c a b,ln,lx,lr,kn,kx,kr,s=>Avh s c (Mq C P fu N call a ln lx lr kn kx kr) (Mq C P fu N call b ln lx lr kn kx kr)
 |.block id c,ln,lx,lr,kn,kx,kr,s=>Mq C P fu N call c ln (fun j=>bif Nat.beq j id then ln else lx j) lr kn (fun j s'=>bif Nat.beq j id then kn s' else kx j s') kr s
 |.loop c,ln,lx,lr,_,kx,kr,s=>
  Mu N (Tn (.loop c) ln lx lr) s (Adw (fun k s'=>Mq C P fu N call c (Tn (.loop c) ln lx lr) lx lr k kx kr s') (Mu N (Tn (.loop c) ln lx lr)) fu)
 |.exit id,_,_,_,_,kx,_,s=>kx id s
 |.ret,_,_,_,_,_,kr,s=>kr s
 |_,_,_,_,_,_,_,_=>none
def Art(id:Nat)(t:CT)(p:PV)(K:PV->List (Nat × Cc)->Option R):Option R:=
 match t with
 |.sl es=>
  match p with
  |.own es' n c=>bif Nat.beq es' es then K (.view id es 0 n) [(id,.ar false c)] else none
  |p=>Ys es p fun z n c=>K (.lst z es n c) []
 |t=>MB t p fun c=>K c []
def NV(N:Nat):Nat->List CT->Ae->(Ae->List (Nat × Cc)->Option R)->Option R
 |_,[],ps,K=>Ak ps (K [] [])
 |id,t::ts,ps,K=>Ad ps fun p ps=>Art id t p fun c b=>NV N (id+N) ts ps fun cs bs=>K (c::cs) (b++bs)
def inK(P:Program)(N i:Nat)(t:TypeId)(p:PV)(K:PV->List (Nat × Cc)->Option R):Option R:=
 match KG P t with
 |some e=>EP p fun ps=>As (Nat.blt i 8) (NV N (D1 N i+N) (Kn P e) ps fun cs bs=>K (.ptr (D1 N i) 0) ((D1 N i,.st cs)::bs))
 |none=>
  match p with
  |.tup ps=>D4 (Bca P t) fun e=>As (Nat.blt i 8) (Ad ps fun q r=>Ak r (Kf (Bp P e) q fun n c=>K (.view (D1 N i) (Bp P e) 0 n) [(D1 N i,.ar false c)]))
  |p=>
   bif C5 P t then Di p fun ps=>NV N (i+N) (Kn P t) ps fun cs bs=>K (.agg cs) bs
   else NV N (i+N) (Kn P t) [p] fun cs bs=>Ad cs fun c r=>Ak r (K c bs)
def Am6(P:Program)(N:Nat):Nat->List TypeId->Ae->(List (Nat × PV)->List (Nat × Cc)->Option R)->Option R
 |_,[],ps,K=>Ak ps (K [] [])
 |i,t::ts,ps,K=>Ad ps fun p ps=>inK P N i t p fun v bs=>Am6 P N (i+1) ts ps fun vs bs'=>K ((i,v)::vs) (bs++bs')
def A1a(hp:Nat->Option Cc)(t:CT)(p:PV)(K:PV->B9->B9->Option R):Option R:=
  match t with
  |.sl es=>
    match p with
    |.view id es' off n=>bif Nat.beq es' es&&Nat.beq off 0 then
        (match hp id with
         |some (.ar false c)=>As (decide (n*es<=c.length)) (K (.own es n (c.take (n*es))) [id] [])
         |_=>none) else none
    |p=>Ys es p fun z _ _=>As z (K (.own es 0 []) [] [])
  |t=>MB t p fun c=>K c [] []
def Ami(shr:Bool)(hp:Nat->Option Cc)(t:CT)(p:PV)(K:PV->B9->B9->Option R):Option R:=
 bif shr then Tr (Mh hp) t p fun c m=>K c [] m else A1a hp t p K
def LJ(shr:Bool)(hp:Nat->Option Cc):List CT->Ae->(Ae->B9->B9->Option R)->Option R
 |[],[],K=>K [] [] []
 |t::ts,p::ps,K=>Ami shr hp t p fun c m z=>LJ shr hp ts ps fun cs ms zs=>K (c::cs) (m++ms) (z++zs)
 |_,_,_=>none
def Avn(P:Program)(shr:Bool)(hp:Nat->Option Cc)(t:TypeId)(p:PV)(K:PV->B9->B9->Option R):Option R:=
 match KG P t with
 |some e=>
  match p with
  |.ptr id off=>
   match hp id with
   |some (.st c)=>As (Nat.beq off 0) (LJ shr hp (Kn P e) c fun cs m z=>K (.pbox cs) (id::m) z)
   |_=>none
  |_=>none
 |none=>
  bif C5 P t then Di p fun ps=>LJ shr hp (Kn P t) ps fun cs m z=>K (.agg cs) m z
  else LJ shr hp (Kn P t) [p] fun cs m z=>Ad cs fun c r=>Ak r (K c m z)
def Att(P:Program)(s:St)(r:ResultVar)(K:PV->Option R):Option R:=
 match r with
 |.tmp t=>K (s.tm t)
 |.cell a t=>JH false P (rd s.hp) (Mh s.hp) t (s.tm a) K
def Abp(P:Program)(shr:Bool)(s:St):List ResultVar->List TypeId->(Ae->B9->B9->Option R)->Option R
 |[],[],K=>K [] [] []
 |r::rs,t::ts,K=>Att P s r fun p=>Avn P shr s.hp t p fun v m z=>Abp P shr s rs ts fun vs ms zs=>K (v::vs) (m++ms) (z++zs)
 |_,_,_=>none
def RA(hp:Nat->Option Cc):List CT->Ae->Ae->(Ae->B9->B9->Option R)->Option R
 |[],[],[],K=>K [] [] []
 |t::ts,w::ws,p::ps,K=>Ami (match w with | .own _ _ _=>false|_=>true) hp t p fun c m z=>RA hp ts ws ps fun cs ms zs=>K (c::cs) (m++ms) (z++zs)
 |_,_,_,_=>none
def LN(P:Program)(N:Nat)(hp:Nat->Option Cc):Nat->List TypeId->Ae->(List Ae->B9->B9->B9->Option R)->Option R
 |_,[],ps,K=>Ak ps (K [] [] [] [])
 |i,t::ts,ps,K=>Ad ps fun p ps=>
  match p with
  |.pbox ws=>D4 (KG P t) fun e=>
    match hp (D1 N i) with
    |some (.st c)=>RA hp (Kn P e) ws c fun cs m z=>LN P N hp (i+1) ts ps fun r m' z' q=>K (cs::r) (m++m') (z++z') (D1 N i::q)
    |_=>none
  |.tup _=>
    match hp (D1 N i) with
    |some (.ar false c)=>LN P N hp (i+1) ts ps fun r m' z' q=>K (c::r) m' z' (D1 N i::q)
    |_=>none
  |_=>LN P N hp (i+1) ts ps K
def Aln(rs:List ResultVar):Nat:=rs.foldl (fun m r=>match r with | .tmp t=>Avw m t | .cell a _=>Avw m a) 0
end
def SA(P:Program):Nat->List TypeId->Nat->Nat
 |_,[],m=>m
 |i,t::ts,m=>SA P (i+1) ts (match P.underlying t with|some (.pointer _)=>Avw m i|_=>m)
def Ahq(C:Ih)(P:Program)(f:FuncId)(fn:Func)(args:Ae)(s:St):Option Bv:=
 Abp P (C.shr f) s fn.results.toList fn.resultTypes.toList fun vs m z=>LN P fn.ntmps s.hp 0 fn.params.toList args fun os m' z' q=>
  As (Fa ((m++m')++q)&&(z++z').all (fun i=> !(((m++m')++q).any (Nat.beq i)))) (some ⟨vs,os⟩)
def A3z(C:Ih)(P:Program)(fu:Nat)(call:Ap)(f:FuncId)(fn:Func)(c:Code)(args:Ae):Option Bv:=
  Am6 P fn.ntmps 0 fn.params.toList args fun tms bs=>As (Nat.ble args.length fn.ntmps&&Co (fun _=>none) bs)
    (let lr:=SA P 0 fn.params.toList (Aln fn.results.toList)
     Mq C P fu fn.ntmps call c lr (fun _=>0) lr (Ahq C P f fn args) (fun _ _=>none) (Ahq C P f fn args) ⟨lk tms,C4 bs⟩)
def Ac(C:Ih)(P:Program)(fu:Nat):Nat->FuncId->Ae->Option Bv
 |0,_,_=>none
 |d+1,f,args=>
  match C.ext f with
  |some g=>g args
  |none=>
   match P.funcs[f]? with
   |none=>none
   |some fn=>match fn.body with
    |none=>none
    |some c=>A3z C.core P fu (Ac C P fu d) f fn c args
inductive Dir where
 |l
 |r
 |i (m:Nat)
section
variable {R:Type}
def GZ(C:Ih)(P:Program)(fu N:Nat)(call:Ap):List Dir->Code->Nat->(Nat->Nat)->Nat->(St->Option R)->(Nat->St->Option R)->(St->Option R)->Nat->St->Option R
 |[],.seq _ b,ln,lx,lr,kn,kx,kr,n,s=>SO n (fun s''=>Mq C P fu N call b ln lx lr kn kx kr s'') s
 |[],.loop c,ln,lx,lr,_,kx,kr,n,s=>Adw (fun k s'=>Mq C P fu N call c (Tn (.loop c) ln lx lr) lx lr k kx kr s') (Mu N (Tn (.loop c) ln lx lr)) n s
 |.l::p,.seq a b,ln,lx,lr,kn,kx,kr,n,s=>GZ C P fu N call p a (Tn b ln lx lr) lx lr (fun s'=>XA (Aml P a b) (XA (JF a b) (Aez N (Tn b ln lx lr) s' (SO fu fun s''=>Mq C P fu N call b ln lx lr kn kx kr s'')) (Mu N (Tn b ln lx lr) s' (SO fu fun s''=>Mq C P fu N call b ln lx lr kn kx kr s''))) (Mq C P fu N call b ln lx lr kn kx kr s')) kx kr n s
 |.r::p,.seq _ b,ln,lx,lr,kn,kx,kr,n,s=>GZ C P fu N call p b ln lx lr kn kx kr n s
 |.l::p,.cond _ a _,ln,lx,lr,kn,kx,kr,n,s=>GZ C P fu N call p a ln lx lr kn kx kr n s
 |.r::p,.cond _ _ b,ln,lx,lr,kn,kx,kr,n,s=>GZ C P fu N call p b ln lx lr kn kx kr n s
 |.l::p,.block id c,ln,lx,lr,kn,kx,kr,n,s=>GZ C P fu N call p c ln (fun j=>bif Nat.beq j id then ln else lx j) lr kn (fun j s'=>bif Nat.beq j id then kn s' else kx j s') kr n s
 |.i m::p,.loop c,ln,lx,lr,_,kx,kr,n,s=>
  GZ C P fu N call p c (Tn (.loop c) ln lx lr) lx lr
   (fun s'=>Mu N (Tn (.loop c) ln lx lr) s' (Adw (fun k s'=>Mq C P fu N call c (Tn (.loop c) ln lx lr) lx lr k kx kr s') (Mu N (Tn (.loop c) ln lx lr)) m)) kx kr n s
 |_,_,_,_,_,_,_,_,_,_=>none
end
def A9k(C:Ih)(P:Program)(fu:Nat)(call:Ap)(f:FuncId)(fn:Func)(c:Code)(args:Ae)(p:List Dir)(n:Nat)(s:St):Option Bv:=
 let lr:=SA P 0 fn.params.toList (Aln fn.results.toList)
 GZ C P fu fn.ntmps call p c lr (fun _=>0) lr (Ahq C P f fn args) (fun _ _=>none) (Ahq C P f fn args) n s
def Azu:B9:=[
 130,
 1000000]
def A39:B9:=[
 79,
 7,
 103,
 75,
 28,
 16,
 96,
 135,
 162,
 163,
 42,
 123,
 55,
 13,
 23,
 43,
 14,
 12,
 18,
 8,
 27,
 1000000]
def A3y:B9:=[
 1000000]
def Aze:B9:=[
 99,
 1000000]
def A22:B9:=[
 99,
 1000000]
def Ah5(args:Ae):Option Bv:=
 match args with
 |[.sc (.string s)]=>bif decide (s.size<=9223372036854775807) then some ⟨[.sc (.bool (Lib.validD s.data.toList))],[]⟩ else none
 |_=>none
def Ya:B9:=[
 184,
 207,
 191,
 176,
 196,
 193,
 208,
 221,
 222,
 91,
 159,
 160,
 158,
 129,
 86,
 166,
 141,
 105,
 69,
 63,
 62,
 56,
 131,
 132,
 133,
 92,
 87,
 88,
 89,
 93,
 128,
 83,
 49,
 52,
 162,
 163,
 135,
 96,
 98,
 84,
 46,
 137,
 1000000]
def Bh8:B9:=[
 1000000]
def CB:Ih:=⟨fun f=>A39.any (Nat.beq f),fun f i=>Nat.beq i 0&&A22.any (Nat.beq f),fun f i=>(Nat.beq i 0&&A3y.any (Nat.beq f))||(Nat.beq i 2&&Aze.any (Nat.beq f)),fun f=>Azu.any (Nat.beq f),fun _=>none,fun N=>Bh8.any (Nat.beq N)⟩
def CX(xs:FuncId->Option (Ae->Option Bv)):Ih:={ CB with ext:=fun f=>bif Ya.any (Nat.beq f) then none else xs f }
def Aje(f:Func):Code:=match f.body with|some c=>c|none=>.skip
section
variable {R:Type}{r:Option R}
theorem Bi{k:IntKind}{p:PV}{K:Int->Option R}{n:Int}(h:p=.sc (.int k n))(hk:K n=r):Bq k p K=r:=by subst h;unfold Bq;simp[hk]
theorem Bnu{p:PV}{K:IntKind->Int->Option R}{k:IntKind}{n:Int}(h:p=.sc (.int k n))(hk:K k n=r):Et p K=r:=by subst h;exact hk
theorem Ba{p:PV}{K:Bool->Option R}{b:Bool}(h:p=.sc (.bool b))(hk:K b=r):Ax p K=r:=by subst h;exact hk
theorem Bm{p:PV}{K:ByteArray->Option R}{s:ByteArray}(h:p=.sc (.string s))(hk:K s=r):Bd p K=r:=by subst h;exact hk
theorem Ar3{es:Nat}{p:PV}{K:Bool->Nat->Ae->Option R}{z:Bool}{n:Nat}{c:Ae}(h:p=.lst z es n c)(hk:K z n c=r):Ys es p K=r:=by subst h;unfold Ys;simp[Og,hk]
theorem TY{es:Nat}{p:PV}{K:Nat->Ae->Option R}{n:Nat}{c:Ae}(h:p=.own es n c)(hk:K n c=r):Kf es p K=r:=by subst h;unfold Kf;simp[Og,hk]
theorem Bh{b:Bool}{K:Option R}(h:b=true)(hk:K=r):As b K=r:=by subst h;exact hk
theorem Bgp{b:Bool}{x y:Option R}(h:b=true)(hx:x=r):Aw b x y=r:=by subst h;exact hx
theorem Bir{b:Bool}{x y:Option R}(h:b=false)(hx:y=r):Aw b x y=r:=by subst h;exact hx
theorem Fb{α:Type}{o:Option α}{K:α->Option R}{a:α}(h:o=some a)(hk:K a=r):D4 o K=r:=by subst h;exact hk
theorem Ay{α:Type}{l:List α}{K:α->List α->Option R}{a:α}{t:List α}(h:l=a::t)(hk:K a t=r):Ad l K=r:=by subst h;exact hk
theorem Bj{α:Type}{l:List α}{K:Option R}(h:l=[])(hk:K=r):Ak l K=r:=by subst h;exact hk
theorem Kl{p:PV}{K:Ae->Option R}{c:Ae}(h:p=.agg c)(hk:K c=r):Di p K=r:=by subst h;exact hk
theorem Ak6{p:PV}{K:Ae->Option R}{c:Ae}(h:p=.pbox c)(hk:K c=r):EP p K=r:=by subst h;exact hk
theorem Az{o:Option Bv}{K:Ae->List Ae->Option R}{v:Ae}{q:List Ae}(h:o=some ⟨v,q⟩)(hk:K v q=r):A9 o K=r:=by subst h;exact hk
end
theorem PO(a b:Int):(a != b)=decide (a≠b):=by by_cases h:a=b<;>simp[h,bne]
theorem Aod(a b:Int):(a==b)=decide (a=b):=by by_cases h:a=b<;>simp[h]
section
variable {R:Type}
theorem CF(v:Ae)(o:List Ae)(K:Ae->List Ae->Option R):A9 (some ⟨v,o⟩) K=K v o:=by exact id rfl
theorem MG{α:Type}(K:Option R):Ak ([]:List α) K=K:=by exact id rfl
theorem CJ{α:Type}(a:α)(r:List α)(K:α->List α->Option R):Ad (a::r) K=K a r:=by exact id rfl
theorem HY(b:Bool)(K:Bool->Option R):Ax (.sc (.bool b)) K=K b:=by exact id rfl
theorem Acg(s:ByteArray)(K:ByteArray->Option R):Bd (.sc (.string s)) K=K s:=by exact id rfl
theorem RO(k:IntKind)(n:Int)(K:Int->Option R):Bq k (.sc (.int k n)) K=K n:=by unfold Bq;simp
theorem Ast(k:IntKind)(n:Int)(K:IntKind->Int->Option R):Et (.sc (.int k n)) K=K k n:=by exact id rfl
theorem A1v(z:Bool)(es n:Nat)(c:Ae)(K:Bool->Nat->Ae->Option R):Ys es (.lst z es n c) K=K z n c:=by unfold Ys;simp
theorem A0o(es n:Nat)(c:Ae)(K:Nat->Ae->Option R):Kf es (.own es n c) K=K n c:=by unfold Kf;simp
theorem Asf(c:Ae)(K:Ae->Option R):Di (.agg c) K=K c:=by exact id rfl
theorem Akj(c:Ae)(K:Ae->Option R):EP (.pbox c) K=K c:=by exact id rfl
theorem Aq4{α:Type}(a:α)(K:α->Option R):D4 (some a) K=K a:=by exact id rfl
theorem Gf{α:Type}(a:α)(K:α->Option R):Aa a K=K a:=by exact id rfl
theorem As2(K:Option R):As true K=K:=by exact id rfl
theorem Acx(p:Prop)[Decidable p](K:Option R)(h:p):As (decide p) K=K:=by simp[As,h]
theorem Alc(b c:Bool)(K:Option R):As (b&&c) K=As b (As c K):=by cases b<;>rfl
theorem Ac8(x y:Option R):Aw true x y=x:=by exact id rfl
theorem Aca(x y:Option R):Aw false x y=y:=by exact id rfl
theorem GX(p:Prop)[Decidable p](x y:Option R)(h:p):Aw (decide p) x y=x:=by simp[Aw,h]
theorem Gs(p:Prop)[Decidable p](x y:Option R)(h:¬p):Aw (decide p) x y=y:=by simp[Aw,h]
theorem GB(p:Prop)[Decidable p](x y:Option R):Aw (decide p) x y=if p then x else y:=by by_cases h:p<;>simp[Aw,h]
theorem Alv(b:Bool)(x y:Option R):Aw b x y=if b=true then x else y:=by cases b<;>rfl
theorem Avi(b:Bool)(x y:Option R):Aw (!b) x y=Aw b y x:=by cases b<;>rfl
theorem Ov(a b:Int)(x y:Option R):Aw (a==b) x y=if a=b then x else y:=by rw[Aod,GB]
theorem Hh(a b:Int)(x y:Option R):Aw (a != b) x y=if a=b then y else x:=by rw[PO,GB];by_cases h:a=b<;>simp[h]
theorem Amo(x:Option R):EQ x x=x:=by unfold EQ;simp
end
theorem wrap_i64{x:Int}(h1: -9223372036854775808<=x)(h2:x<=9223372036854775807):IntKind.wrap .i64 x=x:=by have:=IntWalk.i64_in x (by omega);exact this
theorem RW{x:Int}(h1:0<=x)(h2:x<=18446744073709551615):IntKind.wrap .u64 x=x:=by simp only[IntKind.wrap,IntKind.signed,IntKind.bits];simp;omega
theorem Ow{x:Int}(h1:0<=x)(h2:x<=255):IntKind.wrap .u8 x=x:=by simp only[IntKind.wrap,IntKind.signed,IntKind.bits];simp;omega
theorem Tk(x:Int):0<=IntKind.wrap .u64 x/\IntKind.wrap .u64 x<=18446744073709551615:=by simp only[IntKind.wrap,IntKind.signed,IntKind.bits];simp;omega
theorem Aj5{c:Prop}[Decidable c](k:IntKind)(a b:Int)(o:List Ae):(if c then some (Bv.mk [.sc (.int k a)] o) else some (Bv.mk [.sc (.int k b)] o))=some (Bv.mk [.sc (.int k (if c then a else b))] o):=by split<;>rfl
theorem D8{α:Type}{l r:List α}{x:α}{i:Nat}(h:l.drop i=x::r):i<l.length/\l[i]?=some x/\l.drop (i+1)=r:=by
 have h1:i<l.length:=by
  rcases Ig i l.length with h1|h1
  ·exact h1
  ·rw[List.drop_of_length_le h1] at h;cases h
 rw[List.drop_eq_getElem_cons h1] at h;injection h with h2 h3;exact⟨h1,by rw[List.getElem?_eq_getElem h1,h2],h3⟩
theorem drop_nil{α:Type}{l:List α}{i:Nat}(h:l.drop i=[]):l.length<=i:=by have:=congrArg List.length h;simp at this;omega
section
variable {α:Type}{f:α->Ae}{k:Nat}
theorem UN(hf:∀x,(f x).length=k):∀(l:List α),(l.flatMap f).length=l.length*k
 |[]=>by simp
 |x::l=>by simp[hf x,UN hf l,Nat.succ_mul];omega
theorem QP(hf:∀x,(f x).length=k):∀(l:List α)(i:Nat),(l.flatMap f).drop (i*k)=(l.drop i).flatMap f
 |l,0=>by simp
 |[],i+1=>by simp
 |x::l,i+1=>by
  rw[Ji,Nat.succ_mul,Nat.add_comm,<-List.drop_drop,List.drop_append_of_le_length (by rw[hf x];omega)]
  rw[show (f x).drop k=[] from List.drop_of_length_le (by rw[hf x];omega),VW]
  exact QP hf l i
theorem Acc(hf:∀x,(f x).length=k):∀(l:List α)(i:Nat),(l.flatMap f).take (i*k)=(l.take i).flatMap f
 |l,0=>by simp
 |[],i+1=>by simp
 |x::l,i+1=>by
  rw[Ji,Nat.succ_mul,Nat.add_comm,List.take_succ_cons,Ji,<-Acc hf l i];rw[show k+i*k=(f x).length+i*k by rw[hf x],List.take_length_add_append]
theorem KU(hf:∀x,(f x).length=k){l:List α}{i:Nat}{x:α}(h:l[i]?=some x){j:Nat}(hj:j<k):(l.flatMap f).getD (i*k+j) .top=(f x).getD j .top:=by
 have h1:((l.flatMap f).drop (i*k))[j]?=(l.flatMap f)[i*k+j]?:=List.getElem?_drop;rw[QP hf] at h1
 have h2:i<l.length:=by
  rcases Ig i l.length with h1|h1
  ·exact h1
  ·rw[List.getElem?_eq_none h1] at h;cases h
 rw[List.drop_eq_getElem_cons h2,Ji] at h1;have h3:l[i]=x:=by rw[List.getElem?_eq_getElem h2] at h;injection h
 rw[h3,List.getElem?_append_left (by rw[hf x];exact hj)] at h1
 simp only[List.getD_eq_getElem?_getD,<-h1]
theorem Aji(hf:∀x,(f x).length=k){p:PV}{j:Nat}(hj:j<k):∀{l:List α}{i:Nat}{x y:α},l[i]?=some x->f y=(f x).set j p->(l.flatMap f).set (i*k+j) p=(l.set i y).flatMap f
 |[],i,x,y,h,_=>by simp at h
 |a::l,0,x,y,h,hy=>by
  simp at h;subst h;rw[Nat.zero_mul,Ie,Ji,List.set_cons_zero,Ji,hy,List.set_append_left _ _ (by rw[hf];exact hj)]
 |a::l,i+1,x,y,h,hy=>by
  simp at h;rw[Ji,List.set_cons_succ,Ji,List.set_append_right _ _ (by rw[hf,Nat.succ_mul];omega),hf]
  congr 1
  rw[show (i+1)*k+j-k=i*k+j by rw[Nat.succ_mul];omega]
  exact Aji hf hj h hy
theorem Id{c:Ae}{p:PV}{i:Nat}(h:i<c.length):B6 c [p] i=c.set i p:=by unfold B6;rw[List.set_eq_take_append_cons_drop,Cr h];simp
end
theorem Yo{α:Type}{l:List α}{i:Nat}{x:α}(h:l[i]?=some x):i<l.length:=by
 rcases Ig i l.length with h1|h1
 ·exact h1
 ·rw[List.getElem?_eq_none h1] at h;cases h
abbrev Ayw(k:IntKind)(n:Int):Ae:=[.sc (.int k n)]
abbrev Af(k:IntKind)(l:Al):Ae:=l.flatMap (Ayw k)
theorem AF(k:IntKind)(n:Int):(Ayw k n).length=1:=rfl
theorem HJ{k:IntKind}{l:Al}{i:Nat}{n:Int}(h:l[i]?=some n):(Af k l).getD i .top=.sc (.int k n):=by
 have:=KU (AF k) h (j:=0) (by omega)
 simpa using this
theorem An(k:IntKind)(l:Al):(Af k l).length=l.length:=by rw[UN (AF k)];omega
theorem Wv(k:IntKind)(l:Al)(n:Int):Af k l++[.sc (.int k n)]=Af k (l++[n]):=by simp
theorem PL(k:IntKind)(l:Al):List.take l.length (Af k l)=Af k l:=Hz (by rw[An];omega)
theorem Aen{a m:Int}(h0:0<=m)(h1:m<9223372036854775808):0<=D2 .i64 a m/\D2 .i64 a m<=m:=by
 have Zi:(BitVec.ofInt 64 a &&& BitVec.ofInt 64 m).toNat<=m.toNat:=by
  rw[BitVec.toNat_and];refine Nat.le_trans Nat.and_le_right ?_;rw[BitVec.toNat_ofInt];omega
 have:D2 .i64 a m=((BitVec.ofInt 64 a &&& BitVec.ofInt 64 m).toNat:Int):=by
  unfold D2;exact wrap_i64 (by omega) (by show ((BitVec.ofInt 64 a &&& BitVec.ofInt 64 m).toNat:Int)<=_;omega)
 rw[this];omega
theorem Be:type_of% @CF/\type_of% @MG/\type_of% @CJ/\type_of% @HY/\type_of% @Acg/\type_of% @RO/\type_of% @Ast/\type_of% @A1v/\type_of% @A0o/\type_of% @Asf/\type_of% @Akj/\type_of% @Aq4/\type_of% @Gf/\type_of% @As2/\type_of% @Acx/\type_of% @Alc/\type_of% @Ac8/\type_of% @Aca/\type_of% @GX/\type_of% @Gs/\type_of% @Amo/\type_of% @Bool.not_true/\type_of% @Bool.not_false/\type_of% @Bool.false_eq_true/\type_of% @if_true.{1}/\type_of% @if_false.{1}/\type_of% @Bool.true_and/\type_of% @Bool.and_true/\type_of% @Bool.false_and/\type_of% @Bool.and_false/\type_of% @decide_true/\type_of% @decide_false:=
 ⟨@CF,@MG,@CJ,@HY,@Acg,@RO,@Ast,@A1v,@A0o,@Asf,@Akj,@Aq4,@Gf,@As2,@Acx,@Alc,@Ac8,@Aca,@GX,@Gs,@Amo,@Bool.not_true,@Bool.not_false,@Bool.false_eq_true,@if_true.{1},@if_false.{1},@Bool.true_and,@Bool.and_true,@Bool.false_and,@Bool.and_false,@decide_true,@decide_false⟩
theorem gT:type_of% @Bool.and_eq_true/\type_of% @decide_eq_true_eq/\type_of% @beq_iff_eq.{0}/\type_of% @bne_iff_ne.{0}/\type_of% @ne_eq.{1}/\type_of% @Bool.not_eq_true'/\type_of% @true_and/\type_of% @and_true:=
 ⟨@Bool.and_eq_true,@decide_eq_true_eq,@beq_iff_eq.{0},@bne_iff_ne.{0},@ne_eq.{1},@Bool.not_eq_true',@true_and,@and_true⟩
theorem gF:type_of% @decide_eq_false_iff_not/\type_of% @beq_eq_false_iff_ne.{0}/\type_of% @bne_eq_false_iff_eq.{0}/\type_of% @ne_eq.{1}/\type_of% @Bool.not_eq_false':=
 ⟨@decide_eq_false_iff_not,@beq_eq_false_iff_ne.{0},@bne_eq_false_iff_eq.{0},@ne_eq.{1},@Bool.not_eq_false'⟩
section
open Go.RowKit
def Bx{α β:Type}(R:α->β->Prop):List α->List β->Prop
 |[],[]=>True
 |a::zs,b::bs=>R a b/\Bx R zs bs
 |_,_=>False
section
variable {α β γ:Type}{R S:α->β->Prop}
theorem Bx.len:∀{zs:List α}{bs:List β},Bx R zs bs->zs.length=bs.length
 |[],[],_=>rfl
 |_::_,_::_,h=>by simp[Bx.len h.2]
 |[],_::_,h=>h.elim
 |_::_,[],h=>h.elim
theorem Bx.at_:∀{zs:List α}{bs:List β},Bx R zs bs->∀{i:Nat} {a b},zs[i]?=some a->bs[i]?=some b->R a b
 |[],[],_,i,a,b,h,_=>by simp at h
 |_::_,_::_,h,0,a,b,ha,hb=>by simp at ha hb;subst ha;subst hb;exact h.1
 |_::_,_::_,h,i+1,a,b,ha,hb=>by simp at ha hb;exact Bx.at_ h.2 ha hb
 |[],_::_,h,_,_,_,_,_=>h.elim
 |_::_,[],h,_,_,_,_,_=>h.elim
theorem Bx.of_at:∀{zs:List α}{bs:List β},zs.length=bs.length->(∀(i:Nat) a b,zs[i]?=some a->bs[i]?=some b->R a b)->Bx R zs bs
 |[],[],_,_=>trivial
 |a::zs,b::bs,hl,h=>⟨h 0 a b rfl rfl,Bx.of_at (by simpa using hl) fun i x y hx hy=>h (i+1) x y hx hy⟩
 |[],_::_,hl,_=>by simp at hl
 |_::_,[],hl,_=>by simp at hl
theorem Bx.mono(hRS:∀a b,R a b->S a b):∀{zs:List α}{bs:List β},Bx R zs bs->Bx S zs bs
 |[],[],_=>trivial
 |_::_,_::_,h=>⟨hRS _ _ h.1,Bx.mono hRS h.2⟩
 |[],_::_,h=>h.elim
 |_::_,[],h=>h.elim
theorem Bx.mono_mem:∀{zs:List α}{bs:List β},(∀a∈zs,∀b,R a b->S a b)->Bx R zs bs->Bx S zs bs
 |[],[],_,_=>trivial
 |a::_,_::_,hRS,h=>⟨hRS a (by simp) _ h.1,Bx.mono_mem (fun x hx=>hRS x (by simp[hx])) h.2⟩
 |[],_::_,_,h=>h.elim
 |_::_,[],_,h=>h.elim
theorem Bx.app:∀{zs:List α}{bs:List β}{as':List α}{bs':List β},Bx R zs bs->Bx R as' bs'->Bx R (zs++as') (bs++bs')
 |[],[],_,_,_,h'=>h'
 |_::_,_::_,_,_,h,h'=>⟨h.1,Bx.app h.2 h'⟩
 |[],_::_,_,_,h,_=>h.elim
 |_::_,[],_,_,h,_=>h.elim
theorem Bx.take:∀(n:Nat){zs:List α}{bs:List β},Bx R zs bs->Bx R (zs.take n) (bs.take n)
 |0,_,_,_=>by simp[Bx]
 |_+1,[],[],_=>trivial
 |n+1,_::_,_::_,h=>⟨h.1,Bx.take n h.2⟩
 |_+1,[],_::_,h=>h.elim
 |_+1,_::_,[],h=>h.elim
theorem Bx.drop:∀(n:Nat){zs:List α}{bs:List β},Bx R zs bs->Bx R (zs.drop n) (bs.drop n)
 |0,_,_,h=>h
 |_+1,[],[],_=>trivial
 |n+1,_::_,_::_,h=>Bx.drop n h.2
 |_+1,[],_::_,h=>h.elim
 |_+1,_::_,[],h=>h.elim
end
inductive Av(w:World)(A:Nat->Prop):PV->Value->Prop where
 |sc (v:Value):Av w A (.sc v) v
 |top (v:Value):Av w A .top v
 |ub (b:Bool):Av w A .ub (.bool b)
 |lnil (z:Bool) (es:Nat):Av w A (.lst z es 0 []) (.slice none 0 0)
 |lemp (es:Nat) (a:Addr) (cap:Nat):Av w A (.lst false es 0 []) (.slice (some a) 0 cap)
 |lst (es n:Nat) (cells:Ae) (a:Addr) (cap:Nat) (f:Nat->Value) (hs:a.spot=none) (hb:a.block<w.heap.size) (hA:¬A a.block) (hn:n<=cap)
   (hc:∀j c,cells[j]?=some c->w.cell? (a.add j)=some (f j)) (h1:∀j c,cells[j]?=some c->(f j).oneCell'=true) (hr:∀j c,cells[j]?=some c->Av w A c (f j)):Av w A (.lst false es n cells) (.slice (some a) n cap)
def bsz(w:World)(b:Nat):Nat:=
 match w.heap[b]? with
 |some (.cells c _ _)=>c.size
 |_=>0
def endF(w:World)(b:Nat):Bool:=w.frozen? ⟨b,bsz w b,none⟩
def Fit(w:World)(es b e:Nat):Prop:=e<=bsz w b/\(es=1\/endF w b=false)
def Fi(w w':World)(b:Nat):Prop:=bsz w b<=bsz w' b/\(endF w b=false->endF w' b=false)
theorem Fi.refl(w:World)(b:Nat):Fi w w b:=⟨Ci _,id⟩
theorem Fi.same{w w':World}{b:Nat}(h:w'.heap[b]?=w.heap[b]?):Fi w w' b:=by
 have e:bsz w' b=bsz w b:=by unfold bsz;rw[h]
 refine⟨by rw[e];exact Ci _,fun q=>?_⟩
 unfold endF at q ⊢;rw[e];unfold World.frozen? at q ⊢;simp only[h];exact q
theorem Fi.trans{w w' w'':World}{b:Nat}(h:Fi w w' b)(h':Fi w' w'' b):Fi w w'' b:=⟨Nat.le_trans h.1 h'.1,fun q=>h'.2 (h.2 q)⟩
theorem Fit.step{w w':World}{es b e:Nat}(h:Fit w es b e)(hb:Fi w w' b):Fit w' es b e:=⟨Nat.le_trans h.1 hb.1,h.2.imp id hb.2⟩
def VV(w:World)(A:Nat->Prop)(a:Addr)(cells:Ae):Prop:=∀j c,cells[j]?=some c->∃v,w.cell? (a.add j)=some v/\v.oneCell'=true/\Av w A c v
def Cm(w:World)(A:Nat->Prop)(β:Nat->Option (Nat × Nat))(p:PV)(v:Value):Prop:=
 match p with
 |.view id es off n=>(β id=none/\off=0/\n=0/\∃ad,v=.slice ad 0 0) \/
   ∃b o x cap,β id=some (b,o)/\v=.slice (some ⟨b,x,none⟩) n cap/\(x=o+off\/(n=0/\off≠0))/\n<=cap/\Fit w es b (x+cap*es)/\b<w.heap.size
 |.ptr id off=>∃b o,β id=some (b,o)/\v=.pointer (some ⟨b,o+off,none⟩)
 |.iptr c off=>∃a:Addr,v=.pointer (some (a.add off))/\a.spot=none/\a.block<w.heap.size/\¬A a.block/\VV w A a c
 |p=>Av w A p v
def Hq(w:World)(A:Nat->Prop)(β:Nat->Option (Nat × Nat))(p:PV)(v:Value):Prop:=
 match p with
 |.agg cs=>∃vs,v=.agg ⟨vs⟩/\Bx (Cm w A β) cs vs
 |p=>Cm w A β p v
def Ex(w:World)(A:Nat->Prop)(β:Nat->Option (Nat × Nat))(p:PV)(v:Value):Prop:=
 match p with
 |.tup ps=>∃vs,v=.tuple ⟨vs⟩/\Bx (Hq w A β) ps vs
 |p=>Hq w A β p v
structure Cw(A:Nat->Prop)(w w':World):Prop where
 size:w.heap.size<=w'.heap.size
 keep:∀b,b<w.heap.size->¬A b->w'.heap[b]?=w.heap[b]?
 bs:∀b,b<w.heap.size->Fi w w' b
theorem Fv(a:Addr)(j:Nat):(a.add j).block=a.block:=by unfold Addr.add;split<;>rfl
theorem add_add(a:Addr)(i j:Nat):(a.add i).add j=a.add (i+j):=by unfold Addr.add;by_cases hi:i=0<;>by_cases hj:j=0<;>simp[hi,hj,Jc]
theorem Ep(b o j:Nat):(⟨b,o,none⟩:Addr).add j=⟨b,o+j,none⟩:=by unfold Addr.add;by_cases hj:j=0<;>simp[hj]
theorem Asq{a:Addr}(h:a.spot=none)(j:Nat):(a.add j).spot=none:=by unfold Addr.add;split<;>simp[h]
section
variable {w w':World}{A A':Nat->Prop}{β β':Nat->Option (Nat × Nat)}
theorem Cw.cell(h:Cw A w w'){a:Addr}(hb:a.block<w.heap.size)(hA:¬A a.block):w'.cell? a=w.cell? a:=
 World.cell?_of_block (h.keep a.block hb hA)
theorem Av.step(h:Cw A w w')(hA:∀b,b<w.heap.size->A' b->A b){p:PV}{v:Value}(t:Av w A p v):Av w' A' p v:=by
 induction t with
 |sc v=>exact .sc v
 |top v=>exact .top v
 |ub b=>exact .ub b
 |lnil z es=>exact .lnil z es
 |lemp es a cap=>exact .lemp es a cap
 |lst es n cells a cap f hs hb hA1 hn hc h1 hr ih=>
  refine .lst es n cells a cap f hs (Ft hb h.size) (fun x=>hA1 (hA _ hb x)) hn (fun j c hj=>?_) h1 (fun j c hj=>ih j c hj);rw[h.cell (by rw[Fv];exact hb) (by rw[Fv];exact hA1)]
  exact hc j c hj
theorem VV.step(h:Cw A w w')(hA:∀b,b<w.heap.size->A' b->A b){a:Addr}(hb:a.block<w.heap.size)(hn:¬A a.block){cells:Ae}(t:VV w A a cells):VV w' A' a cells:=by intro j c hj;obtain⟨v,hv,h1,ht⟩:=t j c hj;exact⟨v,by rw[h.cell (by rw[Fv];exact hb) (by rw[Fv];exact hn)];exact hv,h1,ht.step h hA⟩
theorem Cm.step(h:Cw A w w')(hA:∀b,b<w.heap.size->A' b->A b){p:PV}{v:Value}(hβ:∀id∈Au p,β' id=β id)(t:Cm w A β p v):Cm w' A' β' p v:=by
 cases p with
 |view id es off n=>
  have e:=hβ id (by simp[Au]);rcases t with⟨h1,h2,h3,h4⟩|⟨b,o,x,cap,h1,h2,hx,h3,h4,h5⟩
  ·exact .inl ⟨by rw[e];exact h1,h2,h3,h4⟩
  ·exact .inr ⟨b,o,x,cap,by rw[e];exact h1,h2,hx,h3,h4.step (h.bs b h5),Ft h5 h.size⟩
 |ptr id off=>
  have e:=hβ id (by simp[Au]);obtain⟨b,o,h1,h2⟩:=t;exact⟨b,o,by rw[e];exact h1,h2⟩
 |iptr c off=>
  obtain⟨a,h1,h2,h3,h4,h5⟩:=t;exact⟨a,h1,h2,Ft h3 h.size,fun x=>h4 (hA _ h3 x),h5.step h hA h3 h4⟩
 |sc v=>exact Av.step h hA t
 |lst z es n c=>exact Av.step h hA t
 |own es n c=>exact Av.step h hA t
 |pbox c=>exact Av.step h hA t
 |agg c=>exact Av.step h hA t
 |tup c=>exact Av.step h hA t
 |top=>exact Av.step h hA t
 |ub=>exact Av.step h hA t
theorem Hq.step(h:Cw A w w')(hA:∀b,b<w.heap.size->A' b->A b){p:PV}{v:Value}(hβ:∀id∈Ct p,β' id=β id)(t:Hq w A β p v):Hq w' A' β' p v:=by
 cases p with
 |agg cs=>
  obtain⟨vs,rfl,h2⟩:=t;exact⟨vs,rfl,h2.mono_mem fun c hc v hv=>hv.step h hA fun id B4=>hβ id (by simp only[Ct,List.mem_flatMap];exact⟨c,hc,B4⟩)⟩
 |sc x=>exact Cm.step (p:=.sc x) h hA hβ t
 |lst x y z u=>exact Cm.step (p:=.lst x y z u) h hA hβ t
 |own x y z=>exact Cm.step (p:=.own x y z) h hA hβ t
 |view x y z u=>exact Cm.step (p:=.view x y z u) h hA hβ t
 |ptr x y=>exact Cm.step (p:=.ptr x y) h hA hβ t
 |iptr x y=>exact Cm.step (p:=.iptr x y) h hA hβ t
 |pbox x=>exact Cm.step (p:=.pbox x) h hA hβ t
 |tup x=>exact Cm.step (p:=.tup x) h hA hβ t
 |top=>exact Cm.step (p:=.top) h hA hβ t
 |ub=>exact Cm.step (p:=.ub) h hA hβ t
theorem Ex.step(h:Cw A w w')(hA:∀b,b<w.heap.size->A' b->A b){p:PV}{v:Value}(hβ:∀id∈Cd p,β' id=β id)(t:Ex w A β p v):Ex w' A' β' p v:=by
 cases p with
 |tup cs=>
  obtain⟨vs,rfl,h2⟩:=t;exact⟨vs,rfl,h2.mono_mem fun c hc v hv=>hv.step h hA fun id B4=>hβ id (by simp only[Cd,List.mem_flatMap];exact⟨c,hc,B4⟩)⟩
 |sc x=>exact Hq.step (p:=.sc x) h hA hβ t
 |lst x y z u=>exact Hq.step (p:=.lst x y z u) h hA hβ t
 |own x y z=>exact Hq.step (p:=.own x y z) h hA hβ t
 |view x y z u=>exact Hq.step (p:=.view x y z u) h hA hβ t
 |ptr x y=>exact Hq.step (p:=.ptr x y) h hA hβ t
 |iptr x y=>exact Hq.step (p:=.iptr x y) h hA hβ t
 |pbox x=>exact Hq.step (p:=.pbox x) h hA hβ t
 |top=>exact Hq.step (p:=.top) h hA hβ t
 |ub=>exact Hq.step (p:=.ub) h hA hβ t
 |agg x=>exact Hq.step (p:=.agg x) h hA hβ t
theorem Cw.refl(A:Nat->Prop)(w:World):Cw A w w:=⟨Ci _,fun _ _ _=>rfl,fun _ _=>Fi.refl _ _⟩
theorem VV.weak(hA:∀b,b<w.heap.size->A' b->A b){a:Addr}{cells:Ae}(t:VV w A a cells):VV w A' a cells:=by intro j c hj;obtain⟨v,hv,h1,ht⟩:=t j c hj;exact⟨v,hv,h1,ht.step (Cw.refl A w) hA⟩
theorem Cw.trans{w'':World}(h:Cw A w w')(h':Cw A' w' w'')(hA:∀b,b<w.heap.size->A' b->A b):Cw A w w'':=
  ⟨Nat.le_trans h.size h'.size,fun b hb hn=>(h'.keep b (Ft hb h.size) (fun x=>hn (hA b hb x))).trans (h.keep b hb hn),
   fun b hb=>(h.bs b hb).trans (h'.bs b (Ft hb h.size))⟩
theorem Cw.weaken(h:Cw A w w')(hA:∀b,b<w.heap.size->A b->A' b):Cw A' w w':=⟨h.size,fun b hb hn=>h.keep b hb (fun x=>hn (hA b hb x)),h.bs⟩
end
section
variable {R:Type}{r:R}
theorem Fp{k:IntKind}{p:PV}{K:Int->Option R}(h:Bq k p K=some r):∃n,p=.sc (.int k n)/\K n=some r:=by
 unfold Bq at h;split at h
 ·split at h
  ·rename_i hk;subst hk;exact⟨_,rfl,h⟩
  ·cases h
 ·cases h
theorem Ey{p:PV}{K:Bool->Option R}(h:Ax p K=some r):∃b,p=.sc (.bool b)/\K b=some r:=by
 unfold Ax at h;split at h
 ·exact⟨_,rfl,h⟩
 ·cases h
theorem El{p:PV}{K:ByteArray->Option R}(h:Bd p K=some r):∃b,p=.sc (.string b)/\K b=some r:=by
 unfold Bd at h;split at h
 ·exact⟨_,rfl,h⟩
 ·cases h
theorem Ei{p:PV}{K:IntKind->Int->Option R}(h:Et p K=some r):∃k n,p=.sc (.int k n)/\K k n=some r:=by
 unfold Et at h;split at h
 ·exact⟨_,_,rfl,h⟩
 ·cases h
theorem Aq{b:Bool}{K:Option R}(h:As b K=some r):b=true/\K=some r:=by
 unfold As at h;cases b
 ·cases h
 ·exact⟨rfl,h⟩
theorem Dd{α:Type}{o:Option α}{K:α->Option R}(h:D4 o K=some r):∃a,o=some a/\K a=some r:=by
 unfold D4 at h;split at h
 ·exact⟨_,rfl,h⟩
 ·cases h
theorem Bo{α:Type}{l:List α}{K:α->List α->Option R}(h:Ad l K=some r):∃a t,l=a::t/\K a t=some r:=by
 unfold Ad at h;split at h
 ·exact⟨_,_,rfl,h⟩
 ·cases h
theorem Em{α:Type}{l:List α}{K:Option R}(h:Ak l K=some r):l=[]/\K=some r:=by
 unfold Ak at h;split at h
 ·exact⟨rfl,h⟩
 ·cases h
theorem Jj{p:PV}{K:Ae->Option R}(h:Di p K=some r):∃c,p=.agg c/\K c=some r:=by
 unfold Di at h;split at h
 ·exact⟨_,rfl,h⟩
 ·cases h
theorem YE{p:PV}{K:Ae->Option R}(h:EP p K=some r):∃c,p=.pbox c/\K c=some r:=by
 unfold EP at h;split at h
 ·exact⟨_,rfl,h⟩
 ·cases h
theorem Al7{p:PV}{K:Value->Option R}(h:fnK p K=some r):∃v,p=.sc v/\v.oneCell'=true/\K v=some r:=by
 unfold fnK at h;split at h
 ·exact⟨_,rfl,rfl,h⟩
 ·exact⟨_,rfl,rfl,h⟩
 ·cases h
theorem Axw{p:PV}{K:FuncId->Option R}(h:fvK p K=some r):∃f,p=.sc (.func (.func f) #[] #[])/\K f=some r:=by
 unfold fvK at h;split at h
 ·rename_i f a b;cases hb:(a.isEmpty&&b.isEmpty)<;>rw[hb] at h
  ·cases h
  ·simp only[Fc,Array.isEmpty_iff] at hb;rw[hb.1,hb.2];exact⟨f,rfl,h⟩
 ·cases h
theorem ZX{o:Option Bv}{K:Ae->List Ae->Option R}(h:A9 o K=some r):∃v x,o=some ⟨v,x⟩/\K v x=some r:=by
 unfold A9 at h;split at h
 ·exact⟨_,_,rfl,h⟩
 ·cases h
theorem Rp{b:Bool}{x y:Option R}(h:Aw b x y=some r):(b=true/\x=some r)\/(b=false/\y=some r):=by
 unfold Aw at h;cases b
 ·exact .inr ⟨rfl,h⟩
 ·exact .inl ⟨rfl,h⟩
theorem G0{es:Nat}{p:PV}{K:Bool->Nat->Ae->Option R}(h:Ys es p K=some r):
  ∃z n c,K z n c=some r/\(p=.lst z es n c\/(p=.sc (.slice none 0 0)/\z=true/\n=0/\c=[])):=by
 unfold Ys at h;split at h
 ·rename_i z es' n c;cases hb:Nat.beq es' es
  ·rw[hb] at h;cases h
  ·rw[hb] at h;have:=Dx hb;subst this;exact⟨z,n,c,h,.inl rfl⟩
 ·exact⟨true,0,[],h,.inr ⟨rfl,rfl,rfl,rfl⟩⟩
 ·cases h
def FE:PV->Prop
 |.sc _=>True
 |.lst _ _ _ _=>True
 |_=>False
def XG:PV->Prop
 |.sc _=>True
 |.lst _ _ _ _=>True
 |.view _ _ _ _=>True
 |_=>False
theorem Yl{c:PV}(h:FE c):XG c:=by cases c<;>first|trivial|exact h.elim
theorem J2{c:PV}(h:FE c):Au c=[]:=by cases c<;>first|rfl|exact h.elim
variable {w:World}{A:Nat->Prop}{β:Nat->Option (Nat × Nat)}
theorem Qa{c:PV}{v:Value}(h:FE c):Cm w A β c v↔Av w A c v:=by cases c<;>first|exact Iff.rfl|exact h.elim
theorem Yn{c:PV}{v:Value}(h:∀cs,c ≠ .agg cs):Hq w A β c v↔Cm w A β c v:=by cases c<;>first|exact Iff.rfl|exact absurd rfl (h _)
theorem Oy{c:PV}{v:Value}(h:∀cs,c ≠ .tup cs):Ex w A β c v↔Hq w A β c v:=by cases c<;>first|exact Iff.rfl|exact absurd rfl (h _)
theorem IQ{c:PV}(h:FE c)(cs:Ae):c ≠ .agg cs:=by rintro rfl;exact h
theorem Amh{c:PV}(h:FE c)(cs:Ae):c ≠ .tup cs:=by rintro rfl;exact h
theorem Av.val{v u:Value}(h:Av w A (.sc v) u):u=v:=by cases h;rfl
theorem FH{es n:Nat}{z:Bool}{c:Ae}{p:PV}{v:Value}(h:p=.lst z es n c\/(p=.sc (.slice none 0 0)/\z=true/\n=0/\c=[]))(hv:Cm w A β p v):Av w A (.lst z es n c) v:=by
 rcases h with rfl|⟨rfl,rfl,rfl,rfl⟩
 ·exact hv
 ·have:=Av.val (w:=w) (A:=A) hv;subst this;exact .lnil true es
theorem Rb{t:CT}{p:PV}{K:PV->Option R}(h:MB t p K=some r):
  ∃c,K c=some r/\FE c/\FE p/\∀(w:World) (A:Nat->Prop) (β:Nat->Option (Nat × Nat)) (v:Value),Cm w A β p v->Av w A c v/\v.oneCell'=true:=by
 cases t with
 |int k=>obtain⟨n,rfl,h2⟩:=Fp h;exact⟨_,h2,trivial,trivial,fun w A β v hv=>⟨hv,by have:=Av.val (w:=w) (A:=A) hv;subst this;rfl⟩⟩
 |bool=>obtain⟨n,rfl,h⟩:=Ey h;exact⟨_,h,trivial,trivial,fun w A β v hv=>⟨hv,by have:=Av.val (w:=w) (A:=A) hv;subst this;rfl⟩⟩
 |str=>obtain⟨n,rfl,h⟩:=El h;exact⟨_,h,trivial,trivial,fun w A β v hv=>⟨hv,by have:=Av.val (w:=w) (A:=A) hv;subst this;rfl⟩⟩
 |sl es=>
  obtain⟨z,n,c,h,hp⟩:=G0 h;refine⟨_,h,trivial,?_,fun w A β v hv=>⟨FH hp hv,?_⟩⟩
  ·rcases hp with rfl|⟨rfl,_⟩<;>trivial
  ·have ht:=FH hp hv;cases ht<;>rfl
 |any=>
  obtain⟨u,rfl,h1,h2⟩:=Al7 (show fnK p (fun v=>K (.sc v))=some r from h);exact⟨_,h2,trivial,trivial,fun w A β v hv=>⟨hv,by have:=Av.val (w:=w) (A:=A) hv;subst this;exact h1⟩⟩
theorem Axk{t:CT}{p:PV}{K:PV->Option R}(h:fcK t p K=some r):
  ∃c,K c=some r/\(FE c\/c=p)/\XG p/\p ≠ .top/\(∀cs,c ≠ .agg cs)/\(∀cs,c ≠ .tup cs)/\(∀id,id∈Au c->id∈Au p)/\∀(w:World) (A:Nat->Prop) (β:Nat->Option (Nat × Nat)) (v:Value),Cm w A β p v->Cm w A β c v/\v.oneCell'=true:=by
 have tree:∀t',MB t' p K=some r->∃c,K c=some r/\(FE c\/c=p)/\XG p/\p ≠ .top/\(∀cs,c ≠ .agg cs)/\(∀cs,c ≠ .tup cs)/\(∀id,id∈Au c->id∈Au p)/\∀(w:World) (A:Nat->Prop) (β:Nat->Option (Nat × Nat)) (v:Value),Cm w A β p v->Cm w A β c v/\v.oneCell'=true:=by
  intro t' h;obtain⟨c,h,hc,hp,hv⟩:=Rb h;exact⟨c,h,.inl hc,Yl hp,by rintro rfl;exact hp,IQ hc,Amh hc,by rw[J2 hc];simp,fun w A β v h=>⟨(Qa hc).2 (hv w A β v h).1,(hv w A β v h).2⟩⟩
 cases t with
 |sl es=>
  unfold fcK fsK at h;dsimp only at h;split at h
  ·rename_i id es' off n;cases hb:Nat.beq es' es
   ·rw[hb] at h;cases h
   ·rw[hb] at h;have:=Dx hb;subst this;exact⟨_,h,.inr rfl,trivial,by simp,by simp,by simp,fun _ h=>h,fun _ _ _ _ h=>⟨h,by rcases h with⟨_,_,_,_,rfl⟩|⟨_,_,_,_,_,rfl,_⟩<;>rfl⟩⟩
  ·exact tree (.sl es) h
 |int k=>exact tree (.int k) h
 |bool=>exact tree (.bool) h
 |str=>exact tree (.str) h
 |any=>exact tree (.any) h
theorem NX{cells:Ae}{i:Nat}{p:PV}(h:cells.getD i .top=p)(hp:p ≠ .top):cells[i]?=some p:=by
 rw[List.getD_eq_getElem?_getD] at h;cases hc:cells[i]? with
 |none=>rw[hc] at h;exact absurd h.symm hp
 |some q=>rw[hc] at h;simp at h;rw[h]
theorem AM:∀{ts:List CT}{cells:Ae}{off:Nat}{K:Ae->Option R},Zq ts cells off K=some r ->
  ∃cs,K cs=some r/\cs.length=ts.length/\∀j c,cs[j]?=some c->FE c/\∃p,cells[off+j]?=some p/\FE p /\
   ∀(w:World) (A:Nat->Prop) (β:Nat->Option (Nat × Nat)) (v:Value),Cm w A β p v->Av w A c v/\v.oneCell'=true
 |[],_,_,_,h=>⟨[],h,rfl,fun j c hj=>by simp at hj⟩
 |t::ts,cells,off,K,h=>by
  unfold Zq at h;obtain⟨c,h,hc,hp,hv⟩:=Rb h;obtain⟨cs,h,hl,Z5⟩:=AM h;refine⟨c::cs,h,by simp[hl],fun j c' hj=>?_⟩;cases j with
  |zero=>
   simp at hj;subst hj;refine⟨hc,cells.getD off .top,NX rfl ?_,hp,hv⟩;intro e;rw[e] at hp;exact hp
  |succ j=>
   simp at hj;have:=Z5 j c' hj
   rwa [Nat.add_right_comm,Jc] at this
theorem BI:∀{ts:List CT}{cells:Ae}{off:Nat}{K:Ae->Option R},Tu ts cells off K=some r ->
  ∃cs,K cs=some r/\cs.length=ts.length/\(∀c∈cs,(∀x,c ≠ .agg x)/\(∀x,c ≠ .tup x))/\∀j c,cs[j]?=some c->∃p,cells[off+j]?=some p/\XG p/\(∀id,id∈Au c->id∈Au p) /\
   ∀(w:World) (A:Nat->Prop) (β:Nat->Option (Nat × Nat)) (v:Value),Cm w A β p v->Cm w A β c v/\v.oneCell'=true
 |[],_,_,_,h=>⟨[],h,rfl,by simp,fun j c hj=>by simp at hj⟩
 |t::ts,cells,off,K,h=>by
  unfold Tu at h;obtain⟨c,h,hc,hf,hp,ha,ht,hr,hv⟩:=Axk h;obtain⟨cs,h,hl,LM,Z5⟩:=BI h;refine⟨c::cs,h,by simp[hl],?_,fun j c' hj=>?_⟩
  ·intro x hx;rcases Ch.1 hx with rfl|hx
   ·exact⟨ha,ht⟩
   ·exact LM x hx
  ·cases j with
   |zero=>
    simp at hj;subst hj;exact⟨cells.getD off .top,NX rfl hp,hf,hr,hv⟩
   |succ j=>
    simp at hj;have:=Z5 j c' hj
    rwa [Nat.add_right_comm,Jc] at this
theorem Aa2{agg:Bool}{cells:Ae}{K:PV->Option R}(h:mkV agg cells K=some r):
  (agg=true/\K (.agg cells)=some r)\/(agg=false/\∃c,cells=[c]/\K c=some r):=by
 unfold mkV at h;cases agg
 ·obtain⟨c,t,rfl,h⟩:=Bo h;obtain⟨rfl,h⟩:=Em h;exact .inr ⟨rfl,c,rfl,h⟩
 ·exact .inl ⟨rfl,h⟩
end
open Go.RowKit
def Dj(b:Option Cc):Prop:=
 match b with
 |some (.st _)=>True
 |some (.ar false _)=>True
 |_=>False
abbrev Bt:=Nat->Option (Nat × Nat)
def II(hp:Nat->Option Cc)(β:Bt)(b:Nat):Prop:=∃id o,Dj (hp id)/\β id=some (b,o)
def Dv(hp:Nat->Option Cc)(β:Bt)(Y:Nat->Prop)(b:Nat):Prop:=II hp β b\/Y b
def Wq(w:World)(A:Nat->Prop)(β:Bt)(id:Nat)(bx:Cc):Prop:=
 match bx with
 |.st cells=>∃b o,β id=some (b,o)/\(∀j c,cells[j]?=some c->∃v,w.cell? ⟨b,o+j,none⟩=some v/\Cm w A β c v)/\∀j,j<cells.length->w.frozen? ⟨b,o+j,none⟩=false
 |.ar fz cells=>(β id=none/\cells=[])\/∃b o,β id=some (b,o)/\VV w A ⟨b,o,none⟩ cells/\(fz=false->∀j,o<=j->j<bsz w b->w.frozen? ⟨b,j,none⟩=false)/\(fz=true->¬A b)
 |.mv=>True
structure F3 where
 X:Nat->Prop
 L:Nat->Nat->Prop
 pn:Nat->Prop
 pt:Nat->Option (Nat × Nat)
 p8:∀i,pn i->i<8
def BR(bx:Cc)(o j:Nat):Prop:=
 match bx with
 |.st c=>o<=j/\j<o+c.length
 |.ar _ _=>o<=j
 |.mv=>False
structure Fr(X0:F3)(w0 w:World):Prop where
 os:w.os=w0.os
 tape:w.tape=w0.tape
 output:w.output=w0.output
 step:Cw X0.X w0 w
 rng:∀b j,b<w0.heap.size->¬X0.L b j->w.cell? ⟨b,j,none⟩=w0.cell? ⟨b,j,none⟩/\w.frozen? ⟨b,j,none⟩=w0.frozen? ⟨b,j,none⟩
structure Cj(N:Nat)(w0:World)(X0:F3)(Y:Nat->Prop)(β:Bt)(s:St)(a:Act)(w:World):Prop where
 dfr:a.defers=[]
 tsz:a.tmps.size=N
 tmo:∀i,N<=i->s.tm i=.top
 tms:∀i,i<N->Ex w (Dv s.hp β Y) β (s.tm i) (a.tmps.getD i undef)
 box:∀id b,s.hp id=some b->Wq w (Dv s.hp β Y) β id b
 inj:∀id id' b o o',Dj (s.hp id)->Dj (s.hp id')->β id=some (b,o)->β id'=some (b,o')->id=id'
 blt:∀id b o,s.hp id≠none->β id=some (b,o)->b<w.heap.size
 wfT:∀i,i<N->∀id∈Cd (s.tm i),s.hp id≠none
 wfB:∀id cells,s.hp id=some (.st cells)->∀c∈cells,∀id'∈Au c,s.hp id'≠none
 ownd:∀b,II s.hp β b->X0.X b\/w0.heap.size<=b
 rngB:∀id bx b o,s.hp id=some bx->Dj (some bx)->β id=some (b,o)->b<w0.heap.size->∀j,BR bx o j->X0.L b j
 pin:∀i,X0.pn i->s.hp (D1 N i)≠none/\β (D1 N i)=X0.pt i
 stp:∀id c b o,s.hp id=some (.st c)->β id=some (b,o)->b<w0.heap.size->∃i,id=D1 N i/\X0.pn i
 Yx:∀b,Y b->¬II s.hp β b
 Ylt:∀b,Y b->b<w0.heap.size
 fr:Fr X0 w0 w
theorem Dw{b:Option Cc}(h:Dj b):b≠none:=by rintro rfl;exact h
theorem At{α:Type}(f:Nat->α)(i:Nat)(v:α):Dt f i v i=v:=by simp[Dt,Og]
theorem Ao{α:Type}(f:Nat->α){i j:Nat}(v:α)(h:j≠i):Dt f i v j=f j:=by
 have:Nat.beq j i=false:=by
  cases hb:Nat.beq j i
  ·rfl
  ·exact absurd (Dx hb) h
 simp[Dt,this]
theorem KE{α:Type}(f:Nat->α){i:Nat}{v:α}(h:f i=v):Dt f i v=f:=by
 funext j
 by_cases e:j=i
 ·subst e;rw[At];exact h.symm
 ·exact Ao f v e
theorem Aes{α:Type}(f:Nat->α){i j:Nat}(u v:α)(h:i≠j):Dt (Dt f i u) j v=Dt (Dt f j v) i u:=by
 funext k
 by_cases e:k=j
 ·subst e;rw[At,Ao _ _ (Ne.symm h),At]
 ·rw[Ao _ _ e];by_cases e':k=i
  ·subst e';rw[At,At]
  ·rw[Ao _ _ e',Ao _ _ e',Ao _ _ e]
theorem XH{a:Act}{d:Nat}{v:Value}(h:d<a.tmps.size):(a.put (some d) v).tmps.getD d undef=v:=by simp[Act.put,h]
theorem VE{a:Act}{d i:Nat}{v:Value}(h:i≠d):(a.put (some d) v).tmps.getD i undef=a.tmps.getD i undef:=by have h':d≠i:=fun e=>h e.symm;simp[Act.put,Array.getElem?_setIfInBounds_ne h']
section
variable {N:Nat}{w0:World}{X0:F3}{Y:Nat->Prop}{β β':Bt}{s:St}{a:Act}{w w':World}
theorem Pj(d:Option Tmp)(v:Value):(a.put d v).tmps.size=a.tmps.size:=by cases d<;>simp[Act.put]
theorem Oj(d:Option Tmp)(v:Value):(a.put d v).defers=a.defers:=by cases d<;>rfl
theorem V2{d:Option Tmp}(h:H9 N d=true){i:Nat}(e:d=some i):i<N:=by subst e;exact Nat.lt_of_succ_le (R5 h)
theorem Ul{Q:Nat->PV->Value->Prop}{tm:Nat->PV}{d:Option Tmp}{v:PV}{val:Value}(hN:a.tmps.size=N)(hd:H9 N d=true)(h:∀i,i<N->Q i (tm i) (a.tmps.getD i undef))(hv:∀i,Q i v val):∀i,i<N->Q i (Ce tm d v i) ((a.put d val).tmps.getD i undef):=by
 intro i hi;cases d with
 |none=>exact h i hi
 |some d=>
  have Ck:=V2 hd rfl;by_cases e:i=d
  ·subst e;show Q i (Dt tm i v i) _;rw[At,XH (by omega)];exact hv i
  ·show Q i (Dt tm d v i) _;rw[Ao _ _ e,VE e];exact h i hi
theorem Add{tm:Nat->PV}{d:Option Tmp}{v:PV}(hd:H9 N d=true)(h:∀i,N<=i->tm i=.top):∀i,N<=i->Ce tm d v i=.top:=by
 intro i hi;cases d with
 |none=>exact h i hi
 |some d=>
  have:=V2 hd rfl;show Dt tm d v i=_;rw[Ao _ _ (by omega)];exact h i hi
theorem Cj.put(h:Cj N w0 X0 Y β s a w){d:Option Tmp}{v:PV}{val:Value}(hd:H9 N d=true)(hv:Ex w (Dv s.hp β Y) β v val)(hr:∀id∈Cd v,s.hp id≠none):
  Cj N w0 X0 Y β ⟨Ce s.tm d v,s.hp⟩ (a.put d val) w where
 dfr:=by rw[Oj];exact h.dfr
 tsz:=by rw[Pj];exact h.tsz
 tmo:=Add hd h.tmo
 tms:=Ul (Q:=fun _ p u=>Ex w (Dv s.hp β Y) β p u) h.tsz hd h.tms (fun _=>hv)
 box:=h.box
 inj:=h.inj
 blt:=h.blt
 wfT:=by
  have:=Ul (Q:=fun _ p _=>∀id∈Cd p,s.hp id≠none) (val:=val) h.tsz hd h.wfT (fun _=>hr);exact this
 wfB:=h.wfB
 ownd:=h.ownd
 rngB:=h.rngB
 pin:=h.pin
 stp:=h.stp
 Yx:=h.Yx
 Ylt:=h.Ylt
 fr:=h.fr
theorem Cu(hp:Nat->Option Cc)(ids:B9)(i:Nat):Ah hp ids i=if i∈ids then (hp i).map BZ else hp i:=by
 unfold Ah;by_cases hi:i∈ids
 ·have:ids.any (Nat.beq i)=true:=List.any_eq_true.2 ⟨i,hi,Og i⟩;rw[this,Cr hi];rfl
 ·have:ids.any (Nat.beq i)=false:=by
   cases hb:ids.any (Nat.beq i)
   ·rfl
   ·obtain⟨j,hj,e⟩:=List.any_eq_true.1 hb;exact absurd (Dx e ▸ hj) hi
  rw[this,B3 hi];rfl
theorem E8{hp:Nat->Option Cc}{ids:B9}{i:Nat}:Ah hp ids i=none↔hp i=none:=by rw[Cu];split<;>simp
theorem Uw{hp:Nat->Option Cc}{ids:B9}{i:Nat}(h:Dj (Ah hp ids i)):Dj (hp i):=by
 rw[Cu] at h;split at h
 ·cases hb:hp i with
  |none=>rw[hb] at h;exact h
  |some b=>cases b with
   |st c=>trivial
   |ar fz c=>rw[hb] at h;exact h.elim
   |mv=>rw[hb] at h;exact h
 ·exact h
theorem Lx{hp:Nat->Option Cc}{ids:B9}{i:Nat}{bx:Cc}(h:Ah hp ids i=some bx)(hl:Dj (some bx)):hp i=some bx:=by
 rw[Cu] at h;split at h
 ·cases hb:hp i with
  |none=>rw[hb] at h;cases h
  |some b=>
   rw[hb] at h;cases b with
   |st c=>exact h
   |ar fz c=>simp only[Option.map_some,BZ,Option.some.injEq] at h;subst h;exact hl.elim
   |mv=>simp only[Option.map_some,BZ,Option.some.injEq] at h;subst h;exact hl.elim
 ·exact h
theorem Vz{hp:Nat->Option Cc}{ids:B9}{b:Nat}(h:II (Ah hp ids) β b):II hp β b:=by obtain⟨id,o,hl,hb⟩:=h;exact⟨id,o,Uw hl,hb⟩
theorem Wq.step'{A A':Nat->Prop}{id:Nat}{bx:Cc}(hA:∀b,A' b->A b)(h:Wq w A β id bx):Wq w A' β id bx:=by
 have hs:=Cw.refl A w;cases bx with
 |st c=>
  obtain⟨b,o,h1,h2,h3⟩:=h;exact⟨b,o,h1,fun j c hj=>let ⟨v,hv,hc⟩:=h2 j c hj;⟨v,hv,hc.step hs (fun b _=>hA b) (fun _ _=>rfl)⟩,h3⟩
 |ar fz c=>
  rcases h with h|⟨b,o,h1,h2,h3,h4⟩
  ·exact .inl h
  ·exact .inr ⟨b,o,h1,h2.weak (fun b _=>hA b),h3,fun e x=>h4 e (hA b x)⟩
 |mv=>trivial
theorem Cj.freeze(h:Cj N w0 X0 Y β s a w){fz:B9}(Y5:∀id∈fz,∃f c,s.hp id=some (.ar f c)):Cj N w0 X0 Y β ⟨s.tm,Ah s.hp fz⟩ a w:=by
 have hA:∀b,Dv (Ah s.hp fz) β Y b->Dv s.hp β Y b:=fun b hb=>hb.imp Vz id
 refine⟨h.dfr,h.tsz,h.tmo,fun i hi=>(h.tms i hi).step (Cw.refl _ _) (fun b _=>hA b) (fun _ _=>rfl),fun id b hb=>?_,fun id id' b o o' h1 h2=>h.inj id id' b o o' (Uw h1) (Uw h2),
  fun id b o hn=>h.blt id b o (fun e=>hn (E8.2 e)),fun i hi id B4 e=>h.wfT i hi id B4 (E8.1 e),fun id cells hc c hcm id' B4 e=>?_,fun b hb=>h.ownd b (Vz hb),
  fun id bx b o hb hl=>h.rngB id bx b o (Lx hb hl) hl,fun i hi=>⟨fun e=>(h.pin i hi).1 (E8.1 e),(h.pin i hi).2⟩,fun id c b o hc=>h.stp id c b o (Lx hc trivial),fun b hb x=>h.Yx b hb (Vz x),h.Ylt,h.fr⟩
 ·simp only at hb;rw[Cu] at hb;split at hb
  ·rename_i hm;obtain⟨f,c,hc⟩:=Y5 id hm;rw[hc] at hb;simp only[Option.map_some,BZ,Option.some.injEq] at hb;subst hb;have Mz:=h.box id _ hc;rcases Mz with Mz|⟨b,o,h1,h2,h3,h4⟩
   ·exact .inl Mz
   ·refine .inr ⟨b,o,h1,h2.weak (fun b _=>hA b),(fun e=>by cases e),fun _ hb=>?_⟩;rcases hb with⟨id',o',hl,hb⟩|hY
    ·have WP:=Uw hl;cases f with
     |true=>exact h4 rfl (.inl ⟨id',o',WP,hb⟩)
     |false=>
      have e:=h.inj id' id b o' o WP (by rw[hc];trivial) hb h1
      subst e;simp only at hl;rw[Cu,Cr hm,hc] at hl;exact hl
    ·cases f with
     |true=>exact h4 rfl (.inr hY)
     |false=>exact h.Yx b hY ⟨id,o,by rw[hc];trivial,h1⟩
  ·exact (h.box id b hb).step' hA
 ·simp only at hc;rw[Cu] at hc;refine h.wfB id cells ?_ c hcm id' B4 (E8.1 e);split at hc
  ·rename_i hm;obtain⟨f,c,X8⟩:=Y5 id hm;rw[X8] at hc;cases hc
  ·exact hc
theorem Cb:∀{nw:List (Nat × Cc)} {hp:Nat->Option Cc},Co hp nw=true ->
  (∀id bx,(id,bx)∈nw->hp id=none)/\(∀id bx bx',(id,bx)∈nw->(id,bx')∈nw->bx=bx')
 |[],_,_=>⟨by simp,by simp⟩
 |(i,b)::r,hp,h=>by
  simp only[Co,Fc,Option.isNone_iff_eq_none,Bool.not_eq_true'] at h;obtain⟨⟨h1,h2⟩,h3⟩:=h;obtain⟨h4,h5⟩:=Cb h3
  have Gh:∀bx,(i,bx) ∉ r:=by
   intro bx hm;have:r.any (fun q=>Nat.beq q.1 i)=true:=List.any_eq_true.2 ⟨_,hm,Og i⟩;rw[this] at h2;cases h2
  refine⟨fun id bx hm=>?_,fun id bx bx' hm N0=>?_⟩
  ·rcases Ch.1 hm with e|hm
   ·cases e;exact h1
   ·exact h4 id bx hm
  ·rcases Ch.1 hm with e|hm
   ·cases e;rcases Ch.1 N0 with e|N0
    ·cases e;rfl
    ·exact absurd N0 (Gh _)
   ·rcases Ch.1 N0 with e|N0
    ·cases e;exact absurd hm (Gh _)
    ·exact h5 id bx bx' hm N0
theorem Fk:∀{nw:List (Nat × Cc)} {hp:Nat->Option Cc},(∀id bx bx',(id,bx)∈nw->(id,bx')∈nw->bx=bx') ->
  (∀id bx,(id,bx)∈nw->A6 hp nw id=some bx)/\(∀id,(∀bx,(id,bx) ∉ nw)->A6 hp nw id=hp id)
 |[],_,_=>⟨by simp,fun _ _=>rfl⟩
 |(i,b)::r,hp,h=>by
  obtain⟨h1,h2⟩:=Fk (nw:=r) (hp:=Dt hp i (some b)) (fun id bx bx' hm N0=>h id bx bx' (by simp[hm]) (by simp[N0]));refine⟨fun id bx hm=>?_,fun id hn=>?_⟩
  ·by_cases hr:∃bx',(id,bx')∈r
   ·obtain⟨bx',hr⟩:=hr;have:=h id bx bx' hm (by simp[hr]);subst this;exact h1 id bx hr
   ·rcases Ch.1 hm with e|hm
    ·cases e;show A6 (Dt hp i (some b)) r i=_;rw[h2 i (fun bx' hb=>hr ⟨bx',hb⟩),At]
    ·exact absurd ⟨bx,hm⟩ hr
  ·show A6 (Dt hp i (some b)) r id=_;rw[h2 id (fun bx hb=>hn bx (by simp[hb])),Ao]
   rintro rfl
   exact hn b (by simp)
structure YC(Y:Nat->Prop)(β:Bt)(s:St)(w:World)(v:PV)(nw:List (Nat × Cc))(val:Value)(w':World)(β':Bt):Prop where
 os:w'.os=w.os
 tape:w'.tape=w.tape
 output:w'.output=w.output
 ext:Cw (fun _=>False) w w'
 old:∀id,s.hp id≠none->β' id=β id
 nlive:∀id bx,(id,bx)∈nw->Dj (some bx)
 nbox:∀id bx,(id,bx)∈nw->Wq w' (Dv (A6 s.hp nw) β' Y) β' id bx
 nblk:∀id bx b o,(id,bx)∈nw->β' id=some (b,o)->w.heap.size<=b/\b<w'.heap.size
 ninj:∀id bx id' bx' b o o',(id,bx)∈nw->(id',bx')∈nw->β' id=some (b,o)->β' id'=some (b,o')->id=id'
 nwf:∀id cells,(id,.st cells)∈nw->∀c∈cells,∀id'∈Au c,s.hp id'≠none\/∃bx,(id',bx)∈nw
 val:Ex w' (Dv (A6 s.hp nw) β' Y) β' v val
 vwf:∀id∈Cd v,s.hp id≠none\/∃bx,(id,bx)∈nw
theorem Cj.stepR(h:Cj N w0 X0 Y β s a w){d:Option Tmp}{v:PV}{nw:List (Nat × Cc)}{val:Value}(hd:H9 N d=true)(Vj:Co s.hp nw=true)(st:YC Y β s w v nw val w' β'):Cj N w0 X0 Y β' ⟨Ce s.tm d v,A6 s.hp nw⟩ (a.put d val) w':=by
 obtain⟨ha1,Xk⟩:=Cb Vj;obtain⟨hg1,hg2⟩:=Fk (hp:=s.hp) Xk
 have Ju:∀id,(∃bx,(id,bx)∈nw)\/A6 s.hp nw id=s.hp id:=fun id=>by
  by_cases hx:∃bx,(id,bx)∈nw
  ·exact .inl hx
  ·exact .inr (hg2 id fun bx hb=>hx ⟨bx,hb⟩)
 have Bbp:∀id,s.hp id≠none->A6 s.hp nw id=s.hp id:=fun id hn=>by
  rcases Ju id with⟨bx,hx⟩|e
  ·exact absurd (ha1 id bx hx) hn
  ·exact e
 have Gc:∀id,(s.hp id≠none\/∃bx,(id,bx)∈nw)->A6 s.hp nw id≠none:=by
  rintro id (hn|⟨bx,hx⟩)
  ·rw[Bbp id hn];exact hn
  ·rw[hg1 id bx hx];simp
 have A14:∀b,b<w.heap.size->II (A6 s.hp nw) β' b->II s.hp β b:=by
  rintro b hb ⟨id,o,hl,hβ⟩
  rcases Ju id with⟨bx,hx⟩|e
  ·have:=(st.nblk id bx b o hx hβ).1;omega
  ·rw[e] at hl;exact⟨id,o,hl,by rw[<-st.old id (Dw hl)];exact hβ⟩
 have Alw:∀b,b<w.heap.size->Dv (A6 s.hp nw) β' Y b->Dv s.hp β Y b:=fun b hb hA=>hA.imp (A14 b hb) id;have Ald:Cw (Dv s.hp β Y) w w':=st.ext.weaken (fun _ _ x=>x.elim);refine⟨by rw[Oj];exact h.dfr,by rw[Pj];exact h.tsz,Add hd h.tmo,?_,?_,?_,?_,?_,?_,?_,?_,?_,?_,?_,h.Ylt,?_⟩
 ·refine Ul (Q:=fun _ p u=>Ex w' (Dv (A6 s.hp nw) β' Y) β' p u) h.tsz hd (fun i hi=>?_) (fun _=>st.val);exact (h.tms i hi).step Ald Alw fun id B4=>st.old id (h.wfT i hi id B4)
 ·intro id b hb;simp only at hb;rcases Ju id with⟨bx,hx⟩|e
  ·rw[hg1 id bx hx] at hb;cases hb;exact st.nbox id _ hx
  ·rw[e] at hb;have hβ:=st.old id (by rw[hb];simp)
   have Mz:=h.box id b hb;have Ck:=h.blt id;have Gh:s.hp id≠none:=by rw[hb];simp
   cases b with
   |st c=>
    obtain⟨b,o,h1,h2,h3⟩:=Mz;have Iq:=Ck b o Gh h1;have Tl:=st.ext.keep b Iq (fun x=>x);refine⟨b,o,by rw[hβ];exact h1,fun j c hj=>?_,fun j hj=>?_⟩
    ·obtain⟨v,hv,hc⟩:=h2 j c hj;refine⟨v,by rw[World.cell?_of_block (w:=w) Tl];exact hv,hc.step Ald Alw fun id' B4=>st.old id' ?_⟩
     exact h.wfB id _ hb c (List.mem_of_getElem? hj) id' B4
    ·rw[World.frozen?_of_block (w:=w) Tl];exact h3 j hj
   |ar fz c=>
    rcases Mz with⟨h1,h2⟩|⟨b,o,h1,h2,h3,h4⟩
    ·exact .inl ⟨by rw[hβ];exact h1,h2⟩
    ·have Iq:=Ck b o Gh h1;have Tl:=st.ext.keep b Iq (fun x=>x);have PZ:bsz w' b=bsz w b:=by unfold bsz;rw[Tl]
     refine .inr ⟨b,o,by rw[hβ];exact h1,fun j c hj=>?_,fun e j hj Tq=>?_,fun e x=>h4 e (Alw b Iq x)⟩
     ·obtain⟨v,hv,h5,hc⟩:=h2 j c hj;exact⟨v,by rw[World.cell?_of_block (w:=w) (by rw[Fv];exact Tl)];exact hv,h5,hc.step Ald Alw⟩
     ·rw[World.frozen?_of_block (w:=w) Tl];exact h3 e j hj (by rw[<-PZ];exact Tq)
   |mv=>trivial
 ·intro id id' b o o' hl Oo hb Iq;simp only at hl Oo;rcases Ju id with⟨bx,hx⟩|e
  ·rcases Ju id' with⟨bx',Y9⟩|e'
   ·exact st.ninj id bx id' bx' b o o' hx Y9 hb Iq
   ·rw[e'] at Oo;have h1:=(st.nblk id bx b o hx hb).1;have h2:=h.blt id' b o' (Dw Oo) (by rw[<-st.old id' (Dw Oo)];exact Iq)
    omega
  ·rw[e] at hl;rcases Ju id' with⟨bx',Y9⟩|e'
   ·have h1:=(st.nblk id' bx' b o' Y9 Iq).1;have h2:=h.blt id b o (Dw hl) (by rw[<-st.old id (Dw hl)];exact hb)
    omega
   ·rw[e'] at Oo;exact h.inj id id' b o o' hl Oo (by rw[<-st.old id (Dw hl)];exact hb) (by rw[<-st.old id' (Dw Oo)];exact Iq)
 ·intro id b o hn hb;simp only at hn;rcases Ju id with⟨bx,hx⟩|e
  ·exact (st.nblk id bx b o hx hb).2
  ·rw[e] at hn;exact Ft (h.blt id b o hn (by rw[<-st.old id hn];exact hb)) st.ext.size
 ·have:=Ul (Q:=fun _ p _=>∀id∈Cd p,A6 s.hp nw id≠none) (val:=val) (d:=d) (v:=v) h.tsz hd (fun i hi id B4=>Gc id (.inl (h.wfT i hi id B4))) (fun _ id B4=>Gc id (st.vwf id B4));exact this
 ·intro id cells hc c hcm id' B4;simp only at hc;rcases Ju id with⟨bx,hx⟩|e
  ·rw[hg1 id bx hx] at hc;cases hc;exact Gc id' (st.nwf id _ hx c hcm id' B4)
  ·rw[e] at hc;exact Gc id' (.inl (h.wfB id cells hc c hcm id' B4))
 ·rintro b ⟨id,o,hl,hb⟩
  simp only at hl;rcases Ju id with⟨bx,hx⟩|e
  ·exact .inr (Nat.le_trans h.fr.step.size (st.nblk id bx b o hx hb).1)
  ·rw[e] at hl;exact h.ownd b ⟨id,o,hl,by rw[<-st.old id (Dw hl)];exact hb⟩
 ·intro id bx b o hb hl hβ Ck;simp only at hb;rcases Ju id with⟨bx',hx⟩|e
  ·have:=(st.nblk id bx' b o hx hβ).1;have:=h.fr.step.size;omega
  ·rw[e] at hb;exact h.rngB id bx b o hb hl (by rw[<-st.old id (by rw[hb];simp)];exact hβ) Ck
 ·intro i hi;obtain⟨h1,h2⟩:=h.pin i hi;exact⟨Gc _ (.inl h1),by rw[st.old _ h1];exact h2⟩
 ·intro id c b o hb hβ Ck;simp only at hb;rcases Ju id with⟨bx',hx⟩|e
  ·have:=(st.nblk id bx' b o hx hβ).1;have:=h.fr.step.size;omega
  ·rw[e] at hb;exact h.stp id c b o hb (by rw[<-st.old id (by rw[hb];simp)];exact hβ) Ck
 ·rintro b hY hX
  have hb:b<w.heap.size:=Ft (h.Ylt b hY) h.fr.step.size;exact h.Yx b hY (A14 b hb hX)
 ·refine⟨st.os.trans h.fr.os,st.tape.trans h.fr.tape,st.output.trans h.fr.output,h.fr.step.trans st.ext (fun _ _ x=>x.elim),fun b j hb hL=>?_⟩;have Tl:=st.ext.keep b (Ft hb h.fr.step.size) (fun x=>x);have hc:w'.cell? ⟨b,j,none⟩=w.cell? ⟨b,j,none⟩:=World.cell?_of_block (w:=w) Tl;have hf:w'.frozen? ⟨b,j,none⟩=w.frozen? ⟨b,j,none⟩:=World.frozen?_of_block (w:=w) Tl;rw[hc,hf];exact h.fr.rng b j hb hL
end
open Go.RowKit
section
variable {P:Program}{N:Nat}{w0:World}{X0:F3}{Y:Nat->Prop}{β β':Bt}{s:St}{a:Act}{w w':World}{o:Oper}
theorem Afh(cs:List Value)(A:Nat->Prop):Bx (Cm w A β) (cs.map PV.sc) cs:=by
 induction cs with
 |nil=>trivial
 |cons v r ih=>exact⟨Av.sc v,ih⟩
theorem Aj3(cs:List Value):(cs.map PV.sc).flatMap Au=[]:=by
 induction cs with
 |nil=>rfl
 |cons v r ih=>exact ih
theorem D7(h:Cj N w0 X0 Y β s a w)(x:Operand):Ex w (Dv s.hp β Y) β (Cx s.tm x) (a.eval x):=by
 cases x with
 |tmp t=>
  show Ex _ _ _ (s.tm t) (a.tmps.getD t undef);by_cases ht:t<N
  ·exact h.tms t ht
  ·rw[h.tmo t (Nat.le_of_not_lt ht)];exact Av.top _
 |const v=>
  cases v with
  |agg cs=>exact⟨cs.toList,by simp[Act.eval],Afh cs.toList _⟩
  |_=>exact Av.sc _
 |func f=>exact Av.sc _
 |global g=>exact Av.sc _
theorem Gl(h:Cj N w0 X0 Y β s a w)(x:Operand):∀id∈Cd (Cx s.tm x),s.hp id≠none:=by
 cases x with
 |tmp t=>
  show ∀id∈Cd (s.tm t),_;by_cases ht:t<N
  ·exact h.wfT t ht
  ·rw[h.tmo t (Nat.le_of_not_lt ht)];intro id B4;cases B4
 |const v=>
  cases v with
  |agg cs=>
   intro id B4;have:Cd (.agg (cs.toList.map .sc))=[]:=Aj3 cs.toList;simp only[Cx] at B4;rw[this] at B4;cases B4
  |_=>intro id B4;cases B4
 |func f=>intro id B4;cases B4
 |global g=>intro id B4;cases B4
theorem Vi{A:Nat->Prop}{v u:Value}(h:Ex w A β (.sc v) u):u=v:=Av.val h
theorem Da(h:Cj N w0 X0 Y β s a w){x:Operand}{v:Value}(e:Cx s.tm x=.sc v):a.eval x=v:=by have:=D7 h x;rw[e] at this;exact Vi this
def Fh(P:Program)(a:Act)(w:World)(o:Oper)(Y:Nat->Prop)(β:Bt)(s:St)(v:PV)(fz:B9)(nw:List (Nat × Cc)):Prop:=
 (∀id∈fz,∃f c,s.hp id=some (.ar f c))/\∃val w',(execOp a.eval o).run P w=.ok (.value val) w'/\(Co s.hp nw=true->∃β',YC Y β ⟨s.tm,Ah s.hp fz⟩ w v nw val w' β')
theorem Ajd{v:PV}{val:Value}(hv:Ex w (Dv s.hp β Y) β v val)(hr:∀id∈Cd v,s.hp id≠none):YC Y β s w v [] val w β:=
 ⟨rfl,rfl,rfl,Cw.refl _ _,fun _ _=>rfl,by simp,by simp,by simp,by simp,by simp,hv,fun id B4=>.inl (hr id B4)⟩
theorem C6{v:PV}{val:Value}(Ds:(execOp a.eval o).run P w=.ok (.value val) w)(hv:Ex w (Dv s.hp β Y) β v val)(hr:∀id∈Cd v,s.hp id≠none):Fh P a w o Y β s v [] []:=
 ⟨by simp,val,w,Ds,fun _=>⟨β,Ajd (s:=⟨s.tm,Ah s.hp []⟩) hv hr⟩⟩
theorem Dk{v:Value}(Ds:(execOp a.eval o).run P w=.ok (.value v) w):Fh P a w o Y β s (.sc v) [] []:=C6 Ds (Av.sc v) (by intro id B4;cases B4)
structure Gx(w w':World)(c:Array Value)(e:TypeId):Prop where
 os:w'.os=w.os
 tape:w'.tape=w.tape
 output:w'.output=w.output
 old:∀b,b<w.heap.size->w'.heap[b]?=w.heap[b]?
 size:w'.heap.size=w.heap.size+1
 new:∃fz:Nat × Nat,w'.heap[w.heap.size]?=some (.cells c e fz)/\(fz.1=fz.2\/c.size<=fz.1)
theorem Gx.alloc(w:World)(c:Array Value)(e:TypeId):Gx w (w.alloc (.cells c e)) c e:=
 ⟨rfl,rfl,rfl,fun b hb=>Below.heap_alloc w _ b hb,by show (w.heap.push _).size=_;simp,(0,0),by show (w.heap.push _)[w.heap.size]?=_;simp,.inl rfl⟩
theorem Gx.drew{c:Array Value}{e:TypeId}(h:Gx w w' c e):Gx w w'.drew c e:=⟨h.os,h.tape,h.output,h.old,h.size,h.new⟩
section
variable {c:Array Value}{e:TypeId}
theorem Gx.step(h:Gx w w' c e):Cw (fun _=>False) w w':=
 ⟨by rw[h.size];omega,fun b hb _=>h.old b hb,fun b hb=>Fi.same (h.old b hb)⟩
theorem Gx.cell(h:Gx w w' c e)(j:Nat):w'.cell? ⟨w.heap.size,j,none⟩=c[j]?:=by obtain⟨fz,hn,_⟩:=h.new;simp[World.cell?,hn]
theorem Gx.frozen(h:Gx w w' c e){j:Nat}(hj:j<c.size):w'.frozen? ⟨w.heap.size,j,none⟩=false:=by obtain⟨fz,hn,hf⟩:=h.new;simp only[World.frozen?,hn];rcases hf with hf|hf<;>simp<;>omega
theorem Oa(w:World)(c:Array Value)(e:TypeId):endF (w.alloc (.cells c e)) w.heap.size=false:=by
 unfold endF World.frozen?;have:(w.alloc (.cells c e)).heap[w.heap.size]?=some (.cells c e (0,0)):=by show (w.heap.push _)[w.heap.size]?=_;simp
 simp only[this];simp
theorem Gx.bsz(h:Gx w w' c e):bsz w' w.heap.size=c.size:=by obtain⟨fz,hn,_⟩:=h.new;simp[Pv.bsz,hn]
end
theorem Xa{c:Array Value}{e:TypeId}{d:Nat}{bx:Cc}{v:PV}{val:Value}(hg:Gx w w' c e)(hd:s.hp d=none)(hl:Dj (some bx))(Mz:Wq w' (Dv (Dt s.hp d (some bx)) (Dt β d (some (w.heap.size,0))) Y) (Dt β d (some (w.heap.size,0))) d bx)(hcw:∀cells,bx=.st cells->∀x∈cells,∀id'∈Au x,s.hp id'≠none)(hv:Ex w' (Dv (Dt s.hp d (some bx)) (Dt β d (some (w.heap.size,0))) Y) (Dt β d (some (w.heap.size,0))) v val)(hvr:∀id∈Cd v,s.hp id≠none\/id=d):YC Y β s w v [(d,bx)] val w' (Dt β d (some (w.heap.size,0))) where
 os:=hg.os
 tape:=hg.tape
 output:=hg.output
 ext:=hg.step
 old:=fun id hn=>Ao _ _ (by rintro rfl;exact hn hd)
 nlive:=by intro id b hm;simp at hm;obtain⟨rfl,rfl⟩:=hm;exact hl
 nbox:=by intro id b hm;simp at hm;obtain⟨rfl,rfl⟩:=hm;exact Mz
 nblk:=by
  intro id b x y hm hb;simp at hm;obtain⟨rfl,rfl⟩:=hm;rw[At] at hb;simp at hb;have:=hg.size;omega
 ninj:=by intro id b id' b' x y z hm N0 _ _;simp at hm N0;rw[hm.1,N0.1]
 nwf:=by intro id cells hm x hx id' B4;simp at hm;exact .inl (hcw cells hm.2.symm x hx id' B4)
 val:=hv
 vwf:=by
  intro id B4;rcases hvr id B4 with h|rfl
  ·exact .inl h
  ·exact .inr ⟨bx,by simp⟩
theorem Alz{c:Array Value}{e:TypeId}(hg:Gx w w' c e){A A':Nat->Prop}(hA:∀b,b<w.heap.size->A' b->A b){cells:Ae}(h:∀(j:Nat) p,cells[j]?=some p->∃v,c[j]?=some v/\v.oneCell'=true/\Av w A p v):VV w' A' ⟨w.heap.size,0,none⟩ cells:=by intro j p hj;obtain⟨v,hv,h1,ht⟩:=h j p hj;exact⟨v,by rw[Ep,Ie,hg.cell];exact hv,h1,ht.step (hg.step.weaken (fun _ _ x=>x.elim)) hA⟩
theorem Al2{d:Nat}{bx:Cc}(hwf:s.hp d=none):∀b,b<w.heap.size->Dv (Dt s.hp d (some bx)) (Dt β d (some (w.heap.size,0))) Y b->Dv s.hp β Y b:=by
 intro b hb hA;rcases hA with⟨id,o,hl,hβ⟩|hY
 ·by_cases e:id=d
  ·subst e;rw[At] at hβ;simp at hβ;omega
  ·rw[Ao _ _ e] at hl hβ;exact .inl ⟨id,o,hl,hβ⟩
 ·exact .inr hY
theorem Wf{c:Array Value}{e:TypeId}{d:Nat}{cells:Ae}{fz:B9}{v:PV}{val:Value}(Y5:∀id∈fz,∃f c,s.hp id=some (.ar f c))(Ds:(execOp a.eval o).run P w=.ok (.value val) w')(hg:Gx w w' c e)(hc:∀(j:Nat) p,cells[j]?=some p->∃u,c[j]?=some u/\u.oneCell'=true/\Av w (Dv (Ah s.hp fz) β Y) p u)(hv:(v=.ptr d 0/\val=.pointer (some ⟨w.heap.size,0,none⟩))\/∃es n cap,v=.view d es 0 n/\val=.slice (some ⟨w.heap.size,0,none⟩) n cap/\n<=cap/\cap*es<=c.size/\(es=1\/endF w' w.heap.size=false)):
  Fh P a w o Y β s v fz [(d,.ar false cells)]:=by
 refine⟨Y5,val,w',Ds,fun Vj=>⟨Dt β d (some (w.heap.size,0)),?_⟩⟩;have hd:s.hp d=none:=(Cb Vj).1 d (.ar false cells) (by simp);have hd':Ah s.hp fz d=none:=E8.2 hd;refine Xa (s:=⟨s.tm,Ah s.hp fz⟩) hg hd' trivial ?_ (fun cells hx=>by cases hx) ?_ ?_
 ·refine .inr ⟨w.heap.size,0,At _ _ _,?_,fun _ j _ hj=>?_,(fun x=>by cases x)⟩
  ·exact Alz hg (Al2 (s:=⟨s.tm,Ah s.hp fz⟩) hd') hc
  ·rw[hg.bsz] at hj;exact hg.frozen hj
 ·rcases hv with⟨rfl,rfl⟩|⟨es,n,cap,rfl,rfl,hn,DT,Arn⟩
  ·exact⟨w.heap.size,0,At _ _ _,rfl⟩
  ·exact .inr ⟨w.heap.size,0,0,cap,At _ _ _,rfl,.inl rfl,hn,⟨by rw[hg.bsz];omega,Arn⟩,by rw[hg.size];omega⟩
 ·intro id B4;rcases hv with⟨rfl,_⟩|⟨es,n,cap,rfl,_⟩<;>(simp[Cd,Ct,Au] at B4;exact .inr B4)
theorem Aaj{c:Array Value}{e:TypeId}{d:Nat}{cells:Ae}(Ds:(execOp a.eval o).run P w=.ok (.value (.pointer (some ⟨w.heap.size,0,none⟩))) w')(hg:Gx w w' c e)(hc:∀(j:Nat) p,cells[j]?=some p->∃u,c[j]?=some u/\Cm w (Dv s.hp β Y) β p u)(hr:∀x∈cells,∀id∈Au x,s.hp id≠none):
  Fh P a w o Y β s (.ptr d 0) [] [(d,.st cells)]:=by
 refine⟨by simp,_,w',Ds,fun Vj=>⟨Dt β d (some (w.heap.size,0)),?_⟩⟩;have hd:s.hp d=none:=(Cb Vj).1 d (.st cells) (by simp);refine Xa (s:=⟨s.tm,Ah s.hp []⟩) hg hd trivial ?_ (fun cs hx x hxm id B4=>?_) ?_ ?_
 ·refine⟨w.heap.size,0,At _ _ _,fun j p hj=>?_,fun j hj=>?_⟩
  ·obtain⟨u,hu,hp⟩:=hc j p hj;refine⟨u,by rw[Ie,hg.cell];exact hu,hp.step (hg.step.weaken (fun _ _ x=>x.elim)) (Al2 (s:=⟨s.tm,Ah s.hp []⟩) hd) fun id B4=>Ao _ _ ?_⟩
   rintro rfl
   exact hr p (List.mem_of_getElem? hj) id B4 hd
  ·rw[Ie];obtain⟨u,hu,_⟩:=hc j _ (List.getElem?_eq_getElem hj)
   exact hg.frozen (by
    rcases Ig j c.size with h|h
    ·exact h
    ·rw[Array.getElem?_eq_none h] at hu;cases hu)
 ·injection hx with hx;subst hx;exact hr x hxm id B4
 ·exact⟨w.heap.size,0,At _ _ _,rfl⟩
 ·intro id B4;simp[Cd,Ct,Au] at B4;exact .inr B4
end
open Go.RowKit
section
variable {R:Type}{r:R}{P:Program}{N:Nat}{w0:World}{X0:F3}{Y:Nat->Prop}{β β':Bt}{s:St}{a:Act}{w w':World}{o:Oper}
theorem Ob{t:TypeId}{n:Nat}(h:(P.info? t).map (·.size)=some n)(w:World):(sizeOf t).run P w=.ok n w:=by
 cases hi:P.info? t with
 |none=>rw[hi] at h;cases h
 |some i=>rw[hi] at h;simp at h;simp[sizeOf,typeInfo,hi,h]
theorem Au5{t:TypeId}{n:Nat}(h:Bp P t=n)(hn:0<n):(P.info? t).map (·.size)=some n:=by
 unfold Bp at h;cases hi:(P.info? t).map (·.size) with
 |none=>rw[hi] at h;simp at h;omega
 |some i=>rw[hi] at h;simp at h;rw[h]
theorem R1{t:TypeId}{d:TypeDesc}(h:P.underlying t=some d)(w:World):(isAgg t).run P w=.ok (C5 P t) w:=by unfold isAgg C5;rw[h];simp only[Sem.run_bind,run_underlying h,Result.andThen_ok];cases d<;>rfl
theorem Akh{t:TypeId}{v:Value}{K:PV->Option R}(h:cvK P t v K=some r):∃p,K p=some r/\Cd p=[]/\∀(w:World)(A:Nat->Prop)(β:Bt),Ex w A β p v:=by
 have sc:∀v:Value,K (.sc v)=some r->∃p,K p=some r/\Cd p=[]/\∀(w:World) (A:Nat->Prop) (β:Bt),Ex w A β p v:=fun v h=>⟨_,h,rfl,fun w A β=>Av.sc v⟩;unfold cvK at h;split at h
 ·rename_i cs;obtain⟨hl,h⟩:=Aq h;obtain⟨xs,h,hxl,hx⟩:=AM h;have hl:=Dx hl;refine⟨_,h,?_,fun w A β=>⟨cs.toList,by simp,?_⟩⟩
  ·show xs.flatMap Au=[];rw[List.flatMap_eq_nil_iff];intro c hc;obtain⟨j,hj⟩:=List.mem_iff_getElem?.1 hc;exact J2 (hx j c hj).1
  ·refine Bx.of_at (by rw[hxl,hl]) fun i c u hc hu=>?_;obtain⟨hT,p,hp,_,MU⟩:=hx i c hc;refine (Qa hT).2 (MU w A β u ?_).1;rw[Ie,List.getElem?_map,hu] at hp;simp at hp;subst hp;exact Av.sc u
 ·split at h
  ·exact⟨_,h,rfl,fun w A β=>Av.lnil true _⟩
  ·cases h
 ·exact sc _ h
theorem KR(h:Cj N w0 X0 Y β s a w){x:Operand}(Ds:(execOp a.eval o).run P w=.ok (.value (a.eval x)) w){K:PV->Option R}(hk:ML P o.type s.tm x K=some r):
  ∃v,K v=some r/\Fh P a w o Y β s v [] []:=by
 have dflt:K (Cx s.tm x)=some r->∃v,K v=some r/\Fh P a w o Y β s v [] []:=fun hk=>⟨_,hk,C6 Ds (D7 h x) (Gl h x)⟩;cases x with
 |const v=>
  obtain⟨p,hk,hr,hv⟩:=Akh hk;exact⟨p,hk,C6 Ds (hv _ _ _) (by rw[hr];simp)⟩
 |tmp t=>exact dflt hk
 |func f=>exact dflt hk
 |global g=>exact dflt hk
theorem Ano{x:Operand}(ho:o.op=.move x):(execOp a.eval o).run P w=.ok (.value (a.eval x)) w:=by unfold execOp;rw[ho];rfl
theorem Ae1{x:Operand}(ho:o.op=.assign x):(execOp a.eval o).run P w=.ok (.value (a.eval x)) w:=by unfold execOp;rw[ho];rfl
theorem Aj8(h:Cj N w0 X0 Y β s a w){c x y:Operand}(ho:o.op=.pick c x y){K:PV->Option R}(hk:(Ax (Cx s.tm c) fun t=>Aw t (K (Cx s.tm x)) (K (Cx s.tm y)))=some r):
  ∃v,K v=some r/\Fh P a w o Y β s v [] []:=by
 obtain⟨b,hb,hk⟩:=Ey hk;have hc:=Da h hb;rcases Rp hk with⟨rfl,hk⟩|⟨rfl,hk⟩
 ·exact⟨_,hk,C6 (by unfold execOp;rw[ho];simp[asBool,hc]) (D7 h x) (Gl h x)⟩
 ·exact⟨_,hk,C6 (by unfold execOp;rw[ho];simp[asBool,hc]) (D7 h y) (Gl h y)⟩
theorem Uf{t:TypeId}{K:Ae->Option R}(h:I0 P t K=some r):∃(v:Value)(cs:Ae),K cs=some r/\Vk P t=some v/\cs.length=(Kn P t).length/\cs.length=v.cells.toList.length/\cs.length=Bp P t /\
  ∀(j:Nat) c,cs[j]?=some c->FE c/\∃u,v.cells.toList[j]?=some u/\u.oneCell'=true/\∀(w:World) (A:Nat->Prop),Av w A c u:=by
 unfold I0 at h;obtain⟨v,hz,h⟩:=Dd h;obtain⟨hl,h⟩:=Aq h;obtain⟨cs,h,M9,hc⟩:=AM h;simp only[Fc] at hl;have VP:=Dx hl.1
 have Ws:(Kn P t).length=Bp P t:=by
  have:=hl.2;simp only[Ly,Fc] at this;exact Dx this.2
 refine⟨v,cs,h,hz,M9,by rw[M9,VP],by rw[M9,Ws],fun j c hj=>?_⟩;obtain⟨hT,p,hp,_,MU⟩:=hc j c hj;rw[Ie,List.getElem?_map] at hp;cases hu:v.cells.toList[j]? with
 |none=>rw[hu] at hp;cases hp
 |some u=>
  rw[hu] at hp;simp at hp;subst hp;exact⟨hT,u,rfl,(MU default (fun _=>False) (fun _=>none) u (Av.sc u)).2,fun w A=>(MU w A (fun _=>none) u (Av.sc u)).1⟩
theorem FC{t:TypeId}{v:Value}(h:Vk P t=some v)(w:World):(zeroValue t).run P w=.ok v w:=by
 unfold Vk at h;cases hi:P.info? t with
 |none=>rw[hi] at h;cases h
 |some i=>rw[hi] at h;simp at h;simp[zeroValue,typeInfo,hi,h]
theorem Afq{t:TypeId}(ho:o.op=.alloc t){d:Nat}{K:PV->B9->List (Nat × Cc)->Option R}(hk:(I0 P t fun cs=>K (.ptr d 0) [] [(d,Aqt P t cs)])=some r):∃v fz nw,K v fz nw=some r/\Fh P a w o Y β s v fz nw:=by
 obtain⟨z,cs,hk,hz,_,hl,_,hc⟩:=Uf hk
 have Ds:(execOp a.eval o).run P w=.ok (.value (.pointer (some ⟨w.heap.size,0,none⟩))) (w.alloc (.cells z.cells t)):=by
  unfold execOp;rw[ho];simp[Instr.alloc,FC hz,newVar,newRow]
 have hg:=Gx.alloc w z.cells t;refine⟨_,_,_,hk,?_⟩;unfold Aqt;cases Yk P t
 ·refine Aaj Ds hg (fun j p hj=>?_) fun x hx id B4=>?_
  ·obtain⟨hT,u,hu,_,hv⟩:=hc j p hj;exact⟨u,by simpa using hu,(Qa hT).2 (hv _ _)⟩
  ·obtain⟨j,hj⟩:=List.mem_iff_getElem?.1 hx;rw[J2 (hc j x hj).1] at B4;cases B4
 ·refine Wf (by simp) Ds hg (fun j p hj=>?_) (.inl ⟨rfl,rfl⟩);obtain⟨hT,u,hu,h1,hv⟩:=hc j p hj;exact⟨u,by simpa using hu,h1,hv _ _⟩
end
open Go.RowKit
section
variable {R:Type}{r:R}{P:Program}{N:Nat}{w0:World}{X0:F3}{Y:Nat->Prop}{β β':Bt}{s:St}{a:Act}{w w':World}{o:Oper}{A:Nat->Prop}
theorem Wd{t:TypeId}(h:Ly P t=true):(∃d,P.underlying t=some d)/\(Kn P t).length=Bp P t/\(P.info? t).map (·.size)=some (Bp P t):=by
 simp only[Ly,Fc] at h;refine⟨Option.isSome_iff_exists.1 h.1,Dx h.2,?_⟩;unfold Bp;cases hi:P.info? t with
 |none=>unfold Program.underlying at h;rw[hi] at h;cases h.1
 |some i=>simp
theorem Rz{v:Value}(h:v.oneCell'=true):v.cells = #[v]:=by cases v<;>first|rfl|cases h
theorem Amp{p:PV}{v:Value}{ts:List CT}{K:Ae->Option R}(hv:Ex w A β p v)(hl:(cellsOf p).length=ts.length)(h:Tu ts (cellsOf p) 0 K=some r):
  ∃cs,K cs=some r/\cs.length=ts.length/\Bx (Cm w A β) cs v.cells.toList/\(∀u∈v.cells.toList,u.oneCell'=true)/\(∀c∈cs,∀id∈Au c,id∈Cd p)/\∀c∈cs,(∀x,c ≠ .agg x)/\(∀x,c ≠ .tup x):=by
 obtain⟨cs,h,M9,LM,hc⟩:=BI h;refine⟨cs,h,M9,?_⟩
 have single:(∀x,p ≠ .agg x)->cellsOf p=[p]:=by
  intro hp;cases p<;>first|rfl|exact absurd rfl (hp _)
 by_cases Hs:∃x,p=.agg x
 ·obtain⟨x,rfl⟩:=Hs;obtain⟨vs,rfl,h2⟩:=hv;have Ek:cs.length=vs.length:=by rw[M9,<-hl];exact h2.len
  have key:∀(i:Nat) c u,cs[i]?=some c->vs[i]?=some u->Cm w A β c u/\u.oneCell'=true:=by
   intro i c u X8 hu;obtain⟨q,hq,_,_,hqv⟩:=hc i c X8;rw[Ie] at hq;exact hqv w A β u (h2.at_ hq hu)
  refine⟨Bx.of_at Ek fun i c u X8 hu=>(key i c u X8 hu).1,?_,?_,LM⟩
  ·intro u hu;obtain⟨i,hi⟩:=List.mem_iff_getElem?.1 (show u∈vs from hu)
   have Ck:i<vs.length:=by
    rcases Ig i vs.length with h|h
    ·exact h
    ·rw[List.getElem?_eq_none h] at hi;cases hi
   exact (key i _ u (List.getElem?_eq_getElem (by omega)) hi).2
  ·intro c hcm id B4;obtain⟨i,hi⟩:=List.mem_iff_getElem?.1 hcm;obtain⟨q,hq,_,hr,_⟩:=hc i c hi;rw[Ie] at hq;show id∈x.flatMap Au;exact List.mem_flatMap.2 ⟨q,List.mem_of_getElem? hq,hr id B4⟩
 ·have hp:∀x,p ≠ .agg x:=fun x e=>Hs ⟨x,e⟩;rw[single hp] at hl hc;have VP:cs.length=1:=by rw[M9,<-hl];rfl
  match cs,VP with
  |[c],_=>
   obtain⟨q,hq,hf,hr,hqv⟩:=hc 0 c rfl;simp at hq;subst hq;have V6:∀x,p ≠ .tup x:=by rintro x rfl;exact hf
   have Uk:Cm w A β p v:=(Yn hp).1 ((Oy V6).1 hv);obtain⟨h5,h6⟩:=hqv w A β v Uk;rw[Rz h6];refine⟨⟨h5,trivial⟩,?_,?_,LM⟩
   ·intro u hu;simp at hu;subst hu;exact h6
   ·intro c' X8 id B4;simp at X8;subst X8;have:=hr id B4;cases p<;>first|exact this|exact absurd rfl (hp _)|exact absurd rfl (V6 _)
end
open Go.RowKit
section
variable {R:Type}{r:R}{P:Program}{N:Nat}{w0:World}{X0:F3}{Y:Nat->Prop}{β β':Bt}{s:St}{a:Act}{w w':World}{o:Oper}{A:Nat->Prop}
theorem Bx.get{α β':Type}{R':α->β'->Prop}{zs:List α}{bs:List β'}(h:Bx R' zs bs){i:Nat}{x:α}(hx:zs[i]?=some x):∃y,bs[i]?=some y/\R' x y:=by
 have Ck:i<zs.length:=by
  rcases Ig i zs.length with h|h
  ·exact h
  ·rw[List.getElem?_eq_none h] at hx;cases hx
 have hb:bs[i]?=some (bs[i]'(by rw[<-h.len];exact Ck)):=List.getElem?_eq_getElem _
 exact⟨_,hb,h.at_ hx hb⟩
theorem Ay1{p:PV}{v:Value}{ts:List CT}{K:Ae->Option R}(hv:Ex w A β p v)(hl:(cellsOf p).length=ts.length)(h:Zq ts (cellsOf p) 0 K=some r):
  ∃cs,K cs=some r/\cs.length=ts.length/\Bx (Av w A) cs v.cells.toList/\∀u∈v.cells.toList,u.oneCell'=true:=by
 obtain⟨cs,h,M9,hc⟩:=AM h;refine⟨cs,h,M9,?_⟩;by_cases Hs:∃x,p=.agg x
 ·obtain⟨x,rfl⟩:=Hs;obtain⟨vs,rfl,h2⟩:=hv;have Ek:cs.length=vs.length:=by rw[M9,<-hl];exact h2.len
  have key:∀(i:Nat) c u,cs[i]?=some c->vs[i]?=some u->Av w A c u/\u.oneCell'=true:=by
   intro i c u X8 hu;obtain⟨_,q,hq,_,hqv⟩:=hc i c X8;rw[Ie] at hq;exact hqv w A β u (h2.at_ hq hu)
  refine⟨Bx.of_at Ek fun i c u X8 hu=>(key i c u X8 hu).1,?_⟩;intro u hu;obtain⟨i,hi⟩:=List.mem_iff_getElem?.1 (show u∈vs from hu)
  have Ck:i<vs.length:=by
   rcases Ig i vs.length with h|h
   ·exact h
   ·rw[List.getElem?_eq_none h] at hi;cases hi
  exact (key i _ u (List.getElem?_eq_getElem (by omega)) hi).2
 ·have hp:∀x,p ≠ .agg x:=fun x e=>Hs ⟨x,e⟩;have single:cellsOf p=[p]:=by cases p<;>first|rfl|exact absurd rfl (hp _)
  rw[single] at hl hc;have VP:cs.length=1:=by rw[M9,<-hl];rfl
  match cs,VP with
  |[c],_=>
   obtain⟨_,q,hq,hf,hqv⟩:=hc 0 c rfl;simp at hq;subst hq;have V6:∀x,p ≠ .tup x:=by rintro x rfl;exact hf
   have Uk:Cm w A β p v:=(Yn hp).1 ((Oy V6).1 hv);obtain⟨h5,h6⟩:=hqv w A β v Uk;rw[Rz h6];exact⟨⟨h5,trivial⟩,fun u hu=>by simp at hu;subst hu;exact h6⟩
theorem Am7(h:Cj N w0 X0 Y β s a w){t:TypeId}{x:Operand}(ho:o.op=.box t x){d:Nat}{K:PV->B9->List (Nat × Cc)->Option R}(hk:(As (Ly P t&&Nat.beq (cellsOf (Cx s.tm x)).length (Kn P t).length)
      (bif Yk P t then Zq (Kn P t) (cellsOf (Cx s.tm x)) 0 fun cs=>K (.ptr d 0) [] [(d,.ar false cs)]
       else Tu (Kn P t) (cellsOf (Cx s.tm x)) 0 fun cs=>K (.ptr d 0) [] [(d,.st cs)]))=some r):∃v fz nw,K v fz nw=some r/\Fh P a w o Y β s v fz nw:=by
  obtain⟨hl,hk⟩:=Aq hk
  simp only[Fc] at hl
  have hl:=Dx hl.2
  have Ds:(execOp a.eval o).run P w=.ok (.value (.pointer (some ⟨w.heap.size,0,none⟩))) (w.alloc (.cells (a.eval x).cells t)):=by
    unfold execOp
    rw[ho]
    simp[Instr.box,newVar,newRow]
  have hg:=Gx.alloc w (a.eval x).cells t
  cases ha:Yk P t
  · rw[ha] at hk
    obtain⟨cs,hk,_,h2,_,hr,_⟩:=Amp (D7 h x) hl hk
    refine⟨_,_,_,hk,Aaj Ds hg (fun j p hj=>?_) fun c hc id B4=>Gl h x id (hr c hc id B4)⟩
    obtain⟨u,hu,hp⟩:=h2.get hj
    exact⟨u,by simpa using hu,hp⟩
  · rw[ha] at hk
    obtain⟨cs,hk,_,h2,h1⟩:=Ay1 (D7 h x) hl hk
    refine⟨_,_,_,hk,Wf (by simp) Ds hg (fun j p hj=>?_) (.inl ⟨rfl,rfl⟩)⟩
    obtain⟨u,hu,hp⟩:=h2.get hj
    exact⟨u,by simpa using hu,h1 u (List.mem_of_getElem? hu),hp⟩
theorem Aiv{c:PV}(h1:∀x,c ≠ .agg x)(h2:∀x,c ≠ .tup x):Cd c=Au c:=by cases c<;>first|rfl|exact absurd rfl (h1 _)|exact absurd rfl (h2 _)
theorem JA{t:TypeId}{ad:Addr}{cs:Ae}{p:PV}(hok:Ly P t=true)(Ek:cs.length=(Kn P t).length)(LM:∀c∈cs,(∀x,c ≠ .agg x)/\(∀x,c ≠ .tup x))(hc:∀(j:Nat) c,cs[j]?=some c->∃v,w.cell? (ad.add j)=some v/\Cm w A β c v)(hp:(C5 P t=true/\p=.agg cs)\/(C5 P t=false/\cs=[p])):∃val,(loadVar t ad).run P w=.ok val w/\Ex w A β p val:=by
 obtain⟨⟨d,hd⟩,hl,hi⟩:=Wd hok;rcases hp with⟨Hs,rfl⟩|⟨Hs,rfl⟩
 ·have hf:∀j,j<Bp P t->w.cell? (ad.add j)=some ((w.cell? (ad.add j)).getD undef):=by
   intro j hj;obtain⟨v,hv,_⟩:=hc j _ (List.getElem?_eq_getElem (by omega));rw[hv];rfl
  refine⟨_,?_,(List.range (Bp P t)).map (fun j=>(w.cell? (ad.add j)).getD undef),rfl,?_⟩
  ·simp only[loadVar,Sem.run_bind,R1 hd,Hs,Result.andThen_ok,if_true,Ob hi,run_loadCells w ad (Bp P t) _ hf];simp
  ·refine Bx.of_at (by simp;omega) fun i c u X8 hu=>?_
   obtain⟨v,hv,OC⟩:=hc i c X8
   have Ck:i<Bp P t:=by
    rcases Ig i cs.length with h|h
    ·omega
    ·rw[List.getElem?_eq_none h] at X8;cases X8
   rw[List.getElem?_map,List.getElem?_range Ck] at hu;simp[hv] at hu;subst hu;exact OC
 ·obtain⟨v,hv,OC⟩:=hc 0 p rfl;have hn:=LM p (by simp);have h0:ad.add 0=ad:=by simp[Addr.add]
  rw[h0] at hv;refine⟨v,?_,(Oy hn.2).2 ((Yn hn.1).2 OC)⟩;simp only[loadVar,Sem.run_bind,R1 hd,Hs,Result.andThen_ok];simp[hv]
theorem Aqu{hp:Nat->Option Cc}{id:Nat}{c:Ae}(h:rd hp id=some c):hp id=some (.st c)\/∃f,hp id=some (.ar f c):=by
 unfold rd at h;split at h
 ·rename_i e;simp at h;subst h;exact .inl e
 ·rename_i f _ e;simp at h;subst h;exact .inr ⟨_,e⟩
 ·cases h
theorem Ac6{hp:Nat->Option Cc}{id:Nat}{c:Ae}(h:Mh hp id=some c):∃f,hp id=some (.ar f c):=by
 unfold Mh at h;split at h
 ·rename_i e;simp at h;subst h;exact⟨_,e⟩
 ·cases h
theorem US(h:Cj N w0 X0 Y β s a w){id:Nat}{c:Ae}(hr:rd s.hp id=some c){b ob:Nat}(hβ:β id=some (b,ob)){j:Nat}{p:PV}(hj:c[j]?=some p):
  ∃v,w.cell? ⟨b,ob+j,none⟩=some v/\Cm w (Dv s.hp β Y) β p v:=by
 rcases Aqu hr with hb|⟨f,hb⟩
 ·obtain⟨b',o',h1,h2,_⟩:=h.box id _ hb;rw[hβ] at h1;simp at h1;obtain⟨rfl,rfl⟩:=h1;exact h2 j p hj
 ·rcases h.box id _ hb with⟨h1,_⟩|⟨b',o',h1,h2,_⟩
  ·rw[hβ] at h1;cases h1
  ·rw[hβ] at h1;simp at h1;obtain⟨rfl,rfl⟩:=h1
   obtain⟨v,hv,_,ht⟩:=h2 j p hj;rw[Ep] at hv;refine⟨v,hv,?_⟩;cases ht with
   |sc=>exact Av.sc _
   |top=>exact Av.top _
   |ub=>exact Av.ub _
   |lnil=>exact Av.lnil _ _
   |lemp=>exact Av.lemp _ _ _
   |lst es n cells a cap f hs hb hA hn hc h1 hr=>exact Av.lst es n cells a cap f hs hb hA hn hc h1 hr
theorem Od:∀{ts:List CT}{cells:Ae}{off:Nat}{K:Ae->Option R},Zq ts cells off K=some r->Tu ts cells off K=some r
 |[],_,_,_,h=>h
 |.int k::ts,cells,off,K,h=>by
  obtain⟨n,hp,h⟩:=Fp (show Bq k (cells.getD off .top) _=some r from h);show Bq k _ _=_;rw[hp];simp only[Bq,if_true];exact Od h
 |.bool::ts,cells,off,K,h=>by
  obtain⟨n,hp,h⟩:=Ey (show Ax (cells.getD off .top) _=some r from h);show Ax _ _=_;rw[hp];exact Od h
 |.str::ts,cells,off,K,h=>by
  obtain⟨n,hp,h⟩:=El (show Bd (cells.getD off .top) _=some r from h);show Bd _ _=_;rw[hp];exact Od h
 |.sl es::ts,cells,off,K,h=>by
  obtain⟨z,n,c,h,hp⟩:=G0 (show Ys es (cells.getD off .top) _=some r from h);change fcK (.sl es) (cells.getD off .top) (fun c=>Tu ts cells (off+1) fun r=>K (c::r))=some r;unfold fcK;dsimp only;unfold fsK;rcases hp with hp|⟨hp,rfl,rfl,rfl⟩
  ·rw[hp];simp only[Ys,Og,cond_true];exact Od h
  ·rw[hp];exact Od h
 |.any::ts,cells,off,K,h=>by
  have hK:∀v,Zq ts cells (off+1) (fun r=>K (.sc v::r))=some r->Tu ts cells (off+1) (fun r=>K (.sc v::r))=some r:=fun v h=>Od h;have h:fnK (cells.getD off .top) (fun v=>Zq ts cells (off+1) fun r=>K (.sc v::r))=some r:=h;show fnK (cells.getD off .top) (fun v=>Tu ts cells (off+1) fun r=>K (.sc v::r))=some r;unfold fnK at h ⊢;split at h
  ·rename_i e;exact hK _ h
  ·exact hK _ h
  ·cases h
theorem Av.unz{w:World}{A:Nat->Prop}{z:Bool}{es n:Nat}{c:Ae}{u:Value}(h:Av w A (.lst z es n c) u):Av w A (.lst false es n c) u:=by
 cases h with
 |lnil z es=>exact .lnil false es
 |lemp es a cap=>exact .lemp es a cap
 |lst es n c a cap f h1 h2 h3 h4 h5 h6 h7=>exact .lst es n c a cap f h1 h2 h3 h4 h5 h6 h7
theorem Aog{w:World}{A:Nat->Prop}{β:Bt}{p:PV}{u:Value}(h:Cm w A β p u):Cm w A β (Abe p) u:=by
 cases p with
 |lst z es n c=>exact Av.unz h
 |_=>exact h
theorem Aid(p:PV):Au (Abe p)=Au p:=by cases p<;>rfl
theorem YS{w:World}{A:Nat->Prop}{β:Bt}:∀{cs:Ae}{vs:List Value},Bx (Cm w A β) cs vs->Bx (Cm w A β) (cs.map Abe) vs
 |[],[],_=>trivial
 |_::_,_::_,h=>⟨Aog h.1,YS h.2⟩
 |[],_::_,h=>h.elim
 |_::_,[],h=>h.elim
theorem Ao8{w:World}{A:Nat->Prop}{β:Bt}{p:PV}{u:Value}(h:Ex w A β p u):Ex w A β (Aib p) u:=by
 cases p with
 |agg cs=>
  obtain⟨vs,h1,h2⟩:=(show Hq w A β (.agg cs) u from h)
  exact⟨vs,h1,YS h2⟩
 |lst z es n c=>exact Av.unz (show Av w A (.lst z es n c) u from h)
 |_=>exact h
theorem Ant(p:PV):Cd (Aib p)=Cd p:=by
 cases p with
 |agg cs=>
  show (cs.map Abe).flatMap Au=cs.flatMap Au
  induction cs with
  |nil=>rfl
  |cons a l ih=>rw[X4,Ji,Ji,ih,Aid]
 |_=>rfl
theorem Axe{nz:Bool}{hp:Nat->Option Cc}{t:TypeId}{x:PV}{K:PV->Option R}(h:JH nz P (rd hp) (Mh hp) t x K=some r):
  FI P (rd hp) t x K=some r\/FI P (rd hp) t x (fun v=>K (Aib v))=some r:=by
 have h':FI P (rd hp) t x K=some r\/FI P (rd hp) t x (fun v=>K (bif nz then v else Aib v))=some r:=by
  unfold JH at h;unfold FI;split at h
  ·rename_i id off;obtain⟨hb,h⟩:=Aq h;rw[hb];show D4 _ _=_\/D4 _ _=_;split at h
   ·rename_i c hc;obtain⟨f,Mz⟩:=Ac6 hc;have:rd hp id=some c:=by unfold rd;rw[Mz]
    rw[this];exact .inr (Od h)
   ·exact .inl h
  ·exact .inr h
  ·cases h
 cases nz
 ·exact h'
 ·exact .inl (h'.elim id id)
theorem XK(h:Cj N w0 X0 Y β s a w){t:TypeId}{x:PV}{u:Value}(hx:Ex w (Dv s.hp β Y) β x u){K:PV->Option R}(hk:FI P (rd s.hp) t x K=some r):
  ∃v ad val,K v=some r/\u=.pointer (some ad)/\(loadVar t ad).run P w=.ok val w/\Ex w (Dv s.hp β Y) β v val/\∀i∈Cd v,s.hp i≠none:=by
 unfold FI at hk;split at hk
 ·rename_i id off;obtain⟨hok,hk⟩:=Aq hk;obtain⟨c,hr,hk⟩:=Dd hk;obtain⟨cs,hk,hl,LM,hc⟩:=BI hk;obtain⟨b,ob,hβ,Ee⟩:=hx
  have Ev:∀(j:Nat) q,cs[j]?=some q->∃v,w.cell? ((⟨b,ob+off,none⟩:Addr).add j)=some v/\Cm w (Dv s.hp β Y) β q v:=by
   intro j q hq;obtain⟨p,hp,_,_,MU⟩:=hc j q hq;obtain⟨v,hv,OC⟩:=US h hr hβ hp;exact⟨v,by rw[Ep,Jc];exact hv,(MU _ _ _ _ OC).1⟩
  have ER:∀q∈cs,∀i∈Au q,s.hp i≠none:=by
   intro q hq i hi;obtain⟨j,hj⟩:=List.mem_iff_getElem?.1 hq;obtain⟨p,hp,_,hpr,_⟩:=hc j q hj;rcases Aqu hr with hb|⟨f,hb⟩
   ·exact h.wfB id c hb p (List.mem_of_getElem? hp) i (hpr i hi)
   ·obtain⟨v,hv,OC⟩:=US h hr hβ hp;exfalso;have Do:=hpr i hi;rcases h.box id _ hb with⟨_,rfl⟩|⟨b',o',h1,h2,_⟩
    ·simp at hp
    ·obtain⟨v',_,_,ht⟩:=h2 _ p hp;cases ht<;>cases Do
  rcases Aa2 hk with⟨Hs,Fz⟩|⟨Hs,q,rfl,Fz⟩
  ·obtain⟨val,JG,hv⟩:=JA hok hl LM Ev (.inl ⟨Hs,rfl⟩);refine⟨_,_,val,Fz,Ee,JG,hv,fun i hi=>?_⟩;obtain⟨q,hq,hi⟩:=List.mem_flatMap.1 (show i∈cs.flatMap Au from hi);exact ER q hq i hi
  ·obtain⟨val,JG,hv⟩:=JA hok hl LM Ev (.inr ⟨Hs,rfl⟩);refine⟨_,_,val,Fz,Ee,JG,hv,fun i hi=>ER q (by simp) i ?_⟩;have hn:=LM q (by simp);rw[Aiv hn.1 hn.2] at hi;exact hi
 ·rename_i c off;obtain⟨hok,hk⟩:=Aq hk;obtain⟨cs,hk,hl,hc⟩:=AM hk;obtain⟨ad,Ee,hs,hb,hA,hrd⟩:=hx
  have LM:∀q∈cs,(∀x,q ≠ .agg x)/\(∀x,q ≠ .tup x):=by
   intro q hq;obtain⟨j,hj⟩:=List.mem_iff_getElem?.1 hq;exact⟨IQ (hc j q hj).1,Amh (hc j q hj).1⟩
  have Ev:∀(j:Nat) q,cs[j]?=some q->∃v,w.cell? ((ad.add off).add j)=some v/\Cm w (Dv s.hp β Y) β q v:=by
   intro j q hq;obtain⟨hT,p,hp,RN,MU⟩:=hc j q hq;obtain⟨v,hv,_,ht⟩:=hrd (off+j) p hp;exact⟨v,by rw[add_add];exact hv,(Qa hT).2 (MU w (Dv s.hp β Y) β v ((Qa RN).2 ht)).1⟩
  have ER:∀q∈cs,Au q=[]:=by
   intro q hq;obtain⟨j,hj⟩:=List.mem_iff_getElem?.1 hq;exact J2 (hc j q hj).1
  rcases Aa2 hk with⟨Hs,Fz⟩|⟨Hs,q,rfl,Fz⟩
  ·obtain⟨val,JG,hv⟩:=JA hok hl LM Ev (.inl ⟨Hs,rfl⟩);refine⟨_,_,val,Fz,Ee,JG,hv,fun i hi=>?_⟩;obtain⟨q,hq,hi⟩:=List.mem_flatMap.1 (show i∈cs.flatMap Au from hi);rw[ER q hq] at hi;cases hi
  ·obtain⟨val,JG,hv⟩:=JA hok hl LM Ev (.inr ⟨Hs,rfl⟩);refine⟨_,_,val,Fz,Ee,JG,hv,fun i hi=>?_⟩;have hn:=LM q (by simp);rw[Aiv hn.1 hn.2,ER q (by simp)] at hi;cases hi
 ·cases hk
theorem Aej(h:Cj N w0 X0 Y β s a w){t:TypeId}{x:PV}{u:Value}(hx:Ex w (Dv s.hp β Y) β x u){nz:Bool}{K:PV->Option R}(hk:JH nz P (rd s.hp) (Mh s.hp) t x K=some r):
  ∃v ad val,K v=some r/\u=.pointer (some ad)/\(loadVar t ad).run P w=.ok val w/\Ex w (Dv s.hp β Y) β v val/\∀i∈Cd v,s.hp i≠none:=by
 rcases Axe hk with hk|hk
 ·exact XK h hx hk
 ·obtain⟨v,ad,val,h1,h2,h3,h4,h5⟩:=XK h hx hk;exact⟨Aib v,ad,val,h1,h2,h3,Ao8 h4,by rw[Ant];exact h5⟩
theorem Aip(h:Cj N w0 X0 Y β s a w){t:TypeId}{x:Operand}(ho:o.op=.load t x){nz:Bool}{K:PV->Option R}(hk:JH nz P (rd s.hp) (Mh s.hp) t (Cx s.tm x) K=some r):
  ∃v,K v=some r/\Fh P a w o Y β s v [] []:=by
 obtain⟨v,ad,val,Er,Ee,hl,hv,hr⟩:=Aej h (D7 h x) hk;refine⟨v,Er,C6 ?_ hv hr⟩;unfold execOp;rw[ho];simp[Instr.loadAt,Instr.sureAddr,Ee,hl]
theorem Anp{x:PV}{d:Nat}{K:PV->Option R}(h:AB x d K=some r):(∃id off,x=.ptr id off/\K (.ptr id (off+d))=some r)\/∃c off,x=.iptr c off/\K (.iptr c (off+d))=some r:=by
 unfold AB at h;split at h
 ·exact .inl ⟨_,_,rfl,h⟩
 ·exact .inr ⟨_,_,rfl,h⟩
 ·cases h
theorem HB(h:Cj N w0 X0 Y β s a w){x:Operand}{d:Nat}{K:PV->Option R}(hk:AB (Cx s.tm x) d K=some r)(Ds:∀ad:Addr,a.eval x=.pointer (some ad)->(execOp a.eval o).run P w=.ok (.value (.pointer (some (ad.add d)))) w):∃v,K v=some r/\Fh P a w o Y β s v [] []:=by
 have hx:=D7 h x;have VX:=Gl h x;rcases Anp hk with⟨id,off,e,hk⟩|⟨c,off,e,hk⟩
 ·rw[e] at hx VX;obtain⟨b,ob,hβ,Ee⟩:=hx;refine⟨_,hk,C6 (Ds _ Ee) ⟨b,ob,hβ,by rw[Ep,Jc]⟩ VX⟩
 ·rw[e] at hx;obtain⟨ad,Ee,h1,h2,h3,h4⟩:=hx;exact⟨_,hk,C6 (Ds _ Ee) ⟨ad,by rw[add_add],h1,h2,h3,h4⟩ (by intro i hi;cases hi)⟩
theorem RQ(h:Cj N w0 X0 Y β s a w){x:Operand}(ho:o.op=.nilCheck x){K:PV->Option R}(hk:AB (Cx s.tm x) 0 K=some r):∃v,K v=some r/\Fh P a w o Y β s v [] []:=by refine HB h hk fun ad Ee=>?_;unfold execOp;rw[ho];simp[Ee,Addr.add]
theorem KC{t:TypeId}{f:Nat}{q:Nat × TypeId}(h:V3 P t f=some q):∃fs g,P.underlying t=some (.struct fs)/\fs[f]?=some g/\q=(g.offset,g.type):=by
 unfold V3 at h;split at h
 ·rename_i fs e;cases hg:fs[f]? with
  |none=>rw[hg] at h;cases h
  |some g=>rw[hg] at h;simp at h;exact⟨fs,g,e,hg,h.symm⟩
 ·cases h
theorem PP(h:Cj N w0 X0 Y β s a w){t:TypeId}{x:Operand}{f:Nat}(ho:o.op=.fieldAddr t x f){K:PV->Option R}(hk:(D4 (V3 P t f) fun q=>As (Nat.ble 1 (Bp P q.2)) (AB (Cx s.tm x) q.1 K))=some r):∃v,K v=some r/\Fh P a w o Y β s v [] []:=by
 obtain⟨q,hq,hk⟩:=Dd hk;obtain⟨hs,hk⟩:=Aq hk;obtain⟨fs,g,hu,hg,rfl⟩:=KC hq;have hs:1<=Bp P g.type:=R5 hs;have Km:=Au5 (P:=P) (t:=g.type) rfl (by omega);refine HB h hk fun ad Ee=>?_;unfold execOp;rw[ho];have Gh:¬Bp P g.type=0:=by omega
 simp[Instr.fieldAt,run_underlying hu,hg,Instr.sureAddr,Ee,fieldPlace,Ob Km,Gh]
end
open Go.RowKit
section
variable {R:Type}{r:R}{P:Program}{N:Nat}{w0:World}{X0:F3}{Y:Nat->Prop}{β β':Bt}{s:St}{a:Act}{w w':World}{o:Oper}{A:Nat->Prop}
theorem TQ(h:Cj N w0 X0 Y β s a w){t:TypeId}{cs:Ae}{vs:List Value}{off:Nat}{K:PV->Option R}{x:Operand}(hx:Cx s.tm x=.agg cs)(hv:Bx (Cm w (Dv s.hp β Y) β) cs vs)(hk:As (Ly P t) (Tu (Kn P t) cs off fun c=>mkV (C5 P t) c K)=some r)(Ds:∀val,(part t ⟨vs⟩ off).run P w=.ok val w->(execOp a.eval o).run P w=.ok (.value val) w):∃v,K v=some r/\Fh P a w o Y β s v [] []:=by
 obtain⟨hok,hk⟩:=Aq hk;obtain⟨⟨d,hd⟩,hl,hi⟩:=Wd hok;obtain⟨qs,hk,hql,LM,hq⟩:=BI hk;have VX:=Gl h x;rw[hx] at VX
 have Ev:∀(j:Nat) q,qs[j]?=some q->∃v,vs[off+j]?=some v/\Cm w (Dv s.hp β Y) β q v:=by
  intro j q hj;obtain⟨p,hp,_,_,MU⟩:=hq j q hj;obtain⟨v,Uk,hc⟩:=hv.get hp;exact⟨v,Uk,(MU _ _ _ _ hc).1⟩
 have ER:∀q∈qs,∀i∈Au q,s.hp i≠none:=by
  intro q hqm i hi;obtain⟨j,hj⟩:=List.mem_iff_getElem?.1 hqm;obtain⟨p,hp,_,hpr,_⟩:=hq j q hj;exact VX i (List.mem_flatMap.2 ⟨p,List.mem_of_getElem? hp,hpr i hi⟩)
 rcases Aa2 hk with⟨Hs,Fz⟩|⟨Hs,q,rfl,Fz⟩
 ·have Zi:Bp P t=0\/off+Bp P t<=vs.length:=by
   rcases Nat.eq_zero_or_pos (Bp P t) with h0|h0
   ·exact .inl h0
   ·obtain⟨v,Uk,_⟩:=Ev (Bp P t-1) _ (List.getElem?_eq_getElem (by omega))
    have:off+(Bp P t-1)<vs.length:=by
     rcases Ig (off+(Bp P t-1)) vs.length with h|h
     ·exact h
     ·rw[List.getElem?_eq_none h] at Uk;cases Uk
    exact .inr (by omega)
  refine⟨_,Fz,C6 (Ds (.agg ⟨(vs.drop off).take (Bp P t)⟩) ?_) ⟨(vs.drop off).take (Bp P t),rfl,?_⟩ fun i hi=>?_⟩
  ·simp only[part,Sem.run_bind,R1 hd,Hs,Result.andThen_ok,if_true,Ob hi];simp[List.extract_eq_take_drop]
  ·refine Bx.of_at ?_ fun i c u hc hu=>?_
   ·simp only[List.length_take,List.length_drop];omega
   ·obtain⟨v,Uk,OC⟩:=Ev i c hc
    have Ck:i<Bp P t:=by
     rcases Ig i qs.length with h|h
     ·omega
     ·rw[List.getElem?_eq_none h] at hc;cases hc
    rw[List.getElem?_take_of_lt Ck,List.getElem?_drop,Uk] at hu;cases hu;exact OC
  ·obtain⟨q,hqm,hi⟩:=List.mem_flatMap.1 (show i∈qs.flatMap Au from hi);exact ER q hqm i hi
 ·obtain⟨v,Uk,OC⟩:=Ev 0 q rfl;have hn:=LM q (by simp);refine⟨_,Fz,C6 (Ds v ?_) ((Oy hn.2).2 ((Yn hn.1).2 OC)) fun i hi=>?_⟩
  ·simp only[part,Sem.run_bind,R1 hd,Hs,Result.andThen_ok];rw[ZW] at Uk;simp[Uk]
  ·rw[Aiv hn.1 hn.2] at hi;exact ER q (by simp) i hi
theorem Aed(h:Cj N w0 X0 Y β s a w){t:TypeId}{x:Operand}{f:Nat}(ho:o.op=.field t x f){K:PV->Option R}(hk:(D4 (V3 P t f) fun q=>As (Ly P q.2)<|Di (Cx s.tm x) fun cs=>Tu (Kn P q.2) cs q.1 fun c=>mkV (C5 P q.2) c K)=some r):∃v,K v=some r/\Fh P a w o Y β s v [] []:=by
 obtain⟨q,hq,hk⟩:=Dd hk;obtain⟨hok,hk⟩:=Aq hk;obtain⟨cs,hx,hk⟩:=Jj hk;obtain⟨fs,g,hu,hg,rfl⟩:=KC hq;have hxv:=D7 h x;rw[hx] at hxv;obtain⟨vs,Ee,hv⟩:=hxv;refine TQ (t:=g.type) (off:=g.offset) h hx hv (by rw[show Ly P g.type=true from hok];exact hk) fun val hp=>?_
 unfold execOp;rw[ho];simp[Instr.field,run_underlying hu,hg,asAgg,Ee,hp]
theorem WJ(h:Cj N w0 X0 Y β s a w){x:Operand}{i:Nat}(ho:o.op=.extract x i){K:PV->Option R}(hk:(match Cx s.tm x with | .tup vs=>D4 vs[i]? K|_=>none)=some r):∃v,K v=some r/\Fh P a w o Y β s v [] []:=by
 have hx:=D7 h x;have VX:=Gl h x;split at hk
 ·rename_i ps e;rw[e] at hx VX;obtain⟨p,hp,hk⟩:=Dd hk;obtain⟨vs,Ee,hv⟩:=hx;obtain⟨v,Uk,MU⟩:=hv.get hp
  have A13:∀y,p ≠ .tup y:=by
   rintro y rfl
   have Bh4:Av _ _ (.tup y) v:=MU;cases Bh4
  refine⟨p,hk,C6 (val:=v) ?_ ((Oy A13).2 MU) fun id B4=>VX id ?_⟩
  ·unfold execOp;rw[ho];simp[Instr.extract,Ee,Uk]
  ·refine List.mem_flatMap.2 ⟨p,List.mem_of_getElem? hp,?_⟩;cases p<;>first|exact B4|exact absurd rfl (A13 _)
 ·cases hk
theorem slice_form{es:Nat}{p:PV}{z:Bool}{n:Nat}{c:Ae}{v:Value}(hp:p=.lst z es n c\/(p=.sc (.slice none 0 0)/\z=true/\n=0/\c=[]))(hv:Ex w A β p v):
  (v=.slice none 0 0/\n=0/\c=[])\/(∃ad cap,v=.slice (some ad) n cap/\z=false/\n<=cap/\ad.spot=none/\ad.block<w.heap.size/\¬A ad.block/\VV w A ad c)\/∃ad cap,v=.slice (some ad) 0 cap/\z=false/\n=0/\c=[]:=by
 have Uk:Cm w A β p v:=by rcases hp with rfl|⟨rfl,_⟩<;>exact hv
 have ht:=FH hp Uk;cases ht with
 |lnil=>exact .inl ⟨rfl,rfl,rfl⟩
 |lst _ _ _ ad cap f hs hb hA hn hc h1 hr=>exact .inr (.inl ⟨ad,cap,rfl,rfl,hn,hs,hb,hA,fun j q hj=>⟨f j,hc j q hj,h1 j q hj,hr j q hj⟩⟩)
 |lemp _ ad cap=>exact .inr (.inr ⟨ad,cap,rfl,rfl,rfl,rfl⟩)
theorem PN(h:Cj N w0 X0 Y β s a w){t:TypeId}{x i:Operand}(ho:o.op=.indexAddr t x i){K:PV->Option R}(hk:(Et (Cx s.tm i) fun _ n=>N3 P t (Cx s.tm x) n K)=some r):∃v,K v=some r/\Fh P a w o Y β s v [] []:=by
 obtain⟨ik,n,hi,hk⟩:=Ei hk;have hai:=Da h hi;have hx:=D7 h x;have VX:=Gl h x;unfold N3 at hk;split at hk
 ·rename_i len e hu;obtain⟨hz,hk⟩:=Aq hk;obtain⟨hb,hk⟩:=Aq hk;simp only[Fc,GF] at hb;obtain⟨inf,Vp⟩:=Option.isSome_iff_exists.1 hz;refine HB h hk fun ad Ee=>?_;unfold execOp;rw[ho];simp[Instr.indexAt,asIntOf,hai,Ee,run_underlying hu,Instr.sureAddr,hb.1,hb.2,sizeOf,typeInfo,Vp,Bp]
 ·rename_i e hu;obtain⟨hz,hk⟩:=Aq hk;obtain⟨inf,Vp⟩:=Option.isSome_iff_exists.1 hz;have Km:Bp P e=inf.size:=by simp[Bp,Vp]
  split at hk
  ·rename_i id es off n' e';rw[e'] at hx VX;obtain⟨DV,hk⟩:=Aq hk;have DV:=Dx DV;subst DV;obtain⟨hb,hk⟩:=Aq hk;simp only[Fc,GF] at hb;rcases hx with⟨_,_,rfl,_⟩|⟨b,ob,y,cap,hβ,Ee,hy,_⟩
   ·omega
   ·have hy:y=ob+off:=by rcases hy with hy|⟨rfl,_⟩<;>omega
    subst hy;refine⟨_,hk,C6 (val:=.pointer (some ⟨b,ob+(off+n.toNat*Bp P e),none⟩)) ?_ ⟨b,ob,hβ,rfl⟩ VX⟩;unfold execOp;rw[ho];simp[Instr.indexAt,asIntOf,hai,Ee,run_underlying hu,hb.1,hb.2,sizeOf,typeInfo,Vp,Km,Ep,Jc]
  ·obtain⟨z,n',c,hk,hp⟩:=G0 hk;obtain⟨hb,hk⟩:=Aq hk;simp only[Fc,GF] at hb;rcases slice_form hp hx with⟨_,rfl,_⟩|⟨ad,cap,Ee,_,_,h1,h2,h3,h4⟩|⟨_,_,_,_,rfl,_⟩
   ·omega
   rotate_left
   ·omega
   ·refine⟨_,hk,C6 (val:=.pointer (some (ad.add (n.toNat*Bp P e)))) ?_ ⟨ad,rfl,h1,h2,h3,h4⟩ (by intro i hi;cases hi)⟩
    unfold execOp;rw[ho];simp[Instr.indexAt,asIntOf,hai,Ee,run_underlying hu,hb.1,hb.2,sizeOf,typeInfo,Vp,Km]
 ·cases hk
theorem Aey(h:Cj N w0 X0 Y β s a w){t:TypeId}{x i:Operand}(ho:o.op=.index t x i){K:PV->Option R}(hk:(Et (Cx s.tm i) fun _ n=>
   match P.underlying t with
   |some .string=>Bd (Cx s.tm x) fun s=>As (decide (0<=n)) (D4 (s.data.toList[n.toNat]?) fun b=>K (.sc (.int .u8 b.toNat)))
   |some (.array len e)=>Di (Cx s.tm x) fun cs=>As (decide (0<=n)&&decide (n<len)&&Ly P e) (Tu (Kn P e) cs (n.toNat*Bp P e) fun c=>mkV (C5 P e) c K)
   |_=>none)=some r):∃v,K v=some r/\Fh P a w o Y β s v [] []:=by
 obtain⟨ik,n,hi,hk⟩:=Ei hk;have hai:=Da h hi;split at hk
 ·rename_i hu;obtain⟨sb,hx,hk⟩:=El hk;have Ee:=Da h hx;obtain⟨h0,hk⟩:=Aq hk;obtain⟨b,hb,hk⟩:=Dd hk;have h0:=of_decide_eq_true h0;refine⟨_,hk,Dk ?_⟩
  have Ck:n.toNat<sb.size:=by
   rcases Ig n.toNat sb.data.toList.length with h|h
   ·simpa using h
   ·rw[List.getElem?_eq_none h] at hb;cases hb
  have Iq:sb[n.toNat]=b:=by
   have:sb.data.toList[n.toNat]?=some sb[n.toNat]:=by
    rw[List.getElem?_eq_getElem (by simpa using Ck)];rfl
   rw[hb] at this;injection this with this;exact this.symm
  unfold execOp;rw[ho];simp[Instr.index,asIntOf,hai,Ee,run_underlying hu,h0,Ck,Iq]
 ·rename_i len e hu;obtain⟨cs,hx,hk⟩:=Jj hk;obtain⟨hb,hk⟩:=Aq hk;simp only[Fc,GF] at hb;have hxv:=D7 h x;rw[hx] at hxv;obtain⟨vs,Ee,hv⟩:=hxv;obtain⟨_,_,Km⟩:=Wd hb.2;refine TQ (t:=e) (off:=n.toNat*Bp P e) h hx hv (by rw[hb.2];exact hk) fun val hp=>?_
  unfold execOp;rw[ho];simp[Instr.index,asIntOf,hai,Ee,run_underlying hu,hb.1.1,hb.1.2,Ob Km,hp]
 ·cases hk
end
open Go.RowKit
section
variable {R:Type}{r:R}{P:Program}{N:Nat}{w0:World}{X0:F3}{Y:Nat->Prop}{β β':Bt}{s:St}{a:Act}{w w':World}{o:Oper}{A:Nat->Prop}
theorem E6(h:Cj N w0 X0 Y β s a w){x:Option Operand}{dflt:Nat}{K:Nat->Option R}(hk:Is (x.map (Cx s.tm)) dflt K=some r):
  ∃l,K l=some r/\((x=none/\l=dflt)\/∃y k,x=some y/\a.eval y=.int k (l:Int)):=by
 cases x with
 |none=>exact⟨dflt,hk,.inl ⟨rfl,rfl⟩⟩
 |some y=>
  obtain⟨k,i,hi,hk⟩:=Ei (show Et (Cx s.tm y) _=some r from hk);obtain⟨h0,hk⟩:=Aq hk;have h0:=of_decide_eq_true h0;exact⟨i.toNat,hk,.inr ⟨y,k,rfl,by rw[Da h hi,Int.toNat_of_nonneg h0]⟩⟩
theorem Le{lo hi:Option Operand}{isS:Bool}{len cap l u:Nat}(hl:(lo=none/\l=0)\/∃y k,lo=some y/\a.eval y=.int k (l:Int))(hu:(hi=none/\u=len)\/∃y k,hi=some y/\a.eval y=.int k (u:Int))(h1:l<=u)(h2:u<=cap):
  (Instr.sliceBounds isS len cap (lo.map a.eval) (hi.map a.eval) none).run P w=.ok (l,u,cap) w:=by
 rcases hl with⟨rfl,rfl⟩|⟨y,k,rfl,hy⟩<;>rcases hu with⟨rfl,rfl⟩|⟨y',k',rfl,hy'⟩
 ·simp[Instr.sliceBounds]
 ·simp[Instr.sliceBounds,Instr.sliceBound,asIntOf,hy',h2]
 ·simp[Instr.sliceBounds,Instr.sliceBound,asIntOf,hy,h1]
 ·simp[Instr.sliceBounds,Instr.sliceBound,asIntOf,hy,hy',h1,h2]
theorem Dy{e:TypeId}(h:(P.info? e).isSome=true)(w:World):(sizeOf e).run P w=.ok (Bp P e) w:=by obtain⟨i,hi⟩:=Option.isSome_iff_exists.1 h;exact Ob (by simp[Bp,hi]) w
theorem KN{b j:Nat}{v:Value}(h:w.cell? ⟨b,j,none⟩=some v):j<bsz w b:=by
 unfold World.cell? at h;unfold bsz;split at h
 ·rename_i c e fz hb;simp only at hb;rw[hb];simp only[Option.isSome_none,Bool.false_eq_true,if_false] at h;rcases Ig j c.size with Ck|hge
  ·exact Ck
  ·rw[Array.getElem?_eq_none hge] at h;cases h
 ·cases h
theorem Afp(h:Cj N w0 X0 Y β s a w){t:TypeId}{x:Operand}{lo hi:Option Operand}(ho:o.op=.slice t x lo hi none){K:PV->Option R}(hk:MI P (rd s.hp) t (Cx s.tm x) (lo.map (Cx s.tm)) (hi.map (Cx s.tm)) K=some r):∃v,K v=some r/\Fh P a w o Y β s v [] []:=by
 have hx:=D7 h x;have VX:=Gl h x;unfold MI at hk;split at hk
 ·rename_i hu;obtain⟨sb,VZ,hk⟩:=El hk;have Ee:=Da h VZ;obtain⟨l,hk,hl⟩:=E6 h hk;obtain⟨u,hk,Mc⟩:=E6 h hk;obtain⟨hb,hk⟩:=Aq hk;simp only[Fc,GF] at hb;refine⟨_,hk,Dk ?_⟩;unfold execOp;rw[ho];simp[Instr.sliceAt,Instr.slice,run_underlying hu,Ee,Le hl Mc hb.1 hb.2]
 ·rename_i e hu;obtain⟨Vp,hk⟩:=Aq hk;split at hk
  ·rename_i id es off n e';rw[e'] at hx VX;obtain⟨DV,hk⟩:=Aq hk;have DV:=Dx DV;subst DV;obtain⟨l,hk,hl⟩:=E6 h hk;obtain⟨u,hk,Mc⟩:=E6 h hk;obtain⟨hb,hk⟩:=Aq hk;simp only[Fc,GF] at hb;rcases hx with⟨hβ,rfl,rfl,ad,Ee⟩|⟨b,ob,y,cap,hβ,Ee,hy,hn,DT,Ck⟩
   ·have hu0:u=0:=by omega
    have WP:l=0:=by omega
    subst hu0 WP;refine⟨_,hk,C6 (val:=.slice ad 0 0) ?_ (.inl ⟨hβ,by simp,rfl,ad,rfl⟩) VX⟩;unfold execOp;rw[ho];cases ad<;>simp[Instr.sliceAt,Instr.slice,run_underlying hu,Ee,Le hl Mc (Ci 0) (Ci 0),Dy Vp]
   ·have Ds:(execOp a.eval o).run P w=.ok (.value (.slice (some (if cap=l then ⟨b,y,none⟩ else ⟨b,y+l*Bp P e,none⟩)) (u-l) (cap-l))) w:=by
     unfold execOp;rw[ho];have hbr:=Le (P:=P) (w:=w) (isS:=true) hl Mc hb.1 (Nat.le_trans hb.2 hn);simp[Instr.sliceAt,Instr.slice,run_underlying hu,Ee,hbr,Dy Vp,Ep];split<;>rfl
    refine⟨_,hk,C6 Ds (.inr ?_) VX⟩;by_cases hc:cap=l
    ·rw[Cr hc];refine⟨b,ob,y,cap-l,hβ,rfl,?_,by omega,⟨by rw[hc,Nat.sub_self];have:=DT.1;omega,DT.2⟩,Ck⟩
     by_cases h0:l*Bp P e=0
     ·rw[h0,ZW];rcases hy with hy|⟨LH,Vl⟩
      ·exact .inl hy
      ·exact .inr ⟨by omega,Vl⟩
     ·exact .inr ⟨by omega,by omega⟩
    ·rw[B3 hc];refine⟨b,ob,y+l*Bp P e,cap-l,hβ,rfl,?_,by omega,?_,Ck⟩
     ·rcases hy with hy|⟨LH,Vl⟩
      ·exact .inl (by omega)
      ·exact .inr ⟨by omega,by omega⟩
     ·have:l*Bp P e+(cap-l)*Bp P e=cap*Bp P e:=by
       rw[<-Nat.add_mul]
       congr 1
       omega
      have:=DT.1;exact⟨by omega,DT.2⟩
  ·obtain⟨z,n,c,hk,hp⟩:=G0 hk;obtain⟨l,hk,hl⟩:=E6 h hk;obtain⟨u,hk,Mc⟩:=E6 h hk;obtain⟨hb,hk⟩:=Aq hk;simp only[Fc,GF] at hb;rcases slice_form hp hx with⟨Ee,rfl,rfl⟩|⟨ad,cap,Ee,rfl,hn,h1,h2,h3,h4⟩|⟨ad,cap,Ee,rfl,rfl,rfl⟩
   rotate_right
   ·have hu0:u=0:=by omega
    have WP:l=0:=by omega
    subst hu0 WP;refine⟨_,hk,C6 (val:=.slice (some (if cap=0 then ad else ad.add (0*Bp P e))) (0-0) (cap-0)) ?_ ?_ (by intro i hi;cases hi)⟩
    ·unfold execOp;rw[ho];have hbr:=Le (P:=P) (w:=w) (isS:=true) hl Mc (Ci 0) (Nat.zero_le cap);simp[Instr.sliceAt,Instr.slice,run_underlying hu,Ee,hbr,Dy Vp];split<;>rfl
    ·have:((([]:Ae).drop (0*Bp P e)).take ((0-0)*Bp P e))=[]:=by simp
     rw[this];exact Av.lemp _ _ _
   ·have hu0:u=0:=by omega
    have WP:l=0:=by omega
    subst hu0 WP;refine⟨_,hk,C6 (val:=.slice none 0 0) ?_ ?_ (by intro i hi;cases hi)⟩
    ·unfold execOp;rw[ho];simp[Instr.sliceAt,Instr.slice,run_underlying hu,Ee,Le hl Mc (Ci 0) (Ci 0),Dy Vp]
    ·have:((([]:Ae).drop (0*Bp P e)).take ((0-0)*Bp P e))=[]:=by simp
     rw[this];exact Av.lnil z _
   ·have Ds:(execOp a.eval o).run P w=.ok (.value (.slice (some (if cap=l then ad else ad.add (l*Bp P e))) (u-l) (cap-l))) w:=by
     unfold execOp;rw[ho];have hbr:=Le (P:=P) (w:=w) (isS:=true) hl Mc hb.1 (Nat.le_trans hb.2 hn);simp[Instr.sliceAt,Instr.slice,run_underlying hu,Ee,hbr,Dy Vp];split<;>rfl
    refine⟨_,hk,C6 Ds ?_ (by intro i hi;cases hi)⟩
    by_cases hc:cap=l
    ·rw[Cr hc];have:u-l=0:=by omega
     rw[this];simp only[Nat.zero_mul,List.take_zero];exact Av.lst _ _ [] ad _ (fun _=>undef) h1 h2 h3 (by omega) (by simp) (by simp) (by simp)
    ·rw[B3 hc]
     have Ev:∀(j:Nat) q,((c.drop (l*Bp P e)).take ((u-l)*Bp P e))[j]?=some q->c[l*Bp P e+j]?=some q:=by
      intro j q hq;rw[List.getElem?_take] at hq;split at hq
      ·rw[List.getElem?_drop] at hq;exact hq
      ·cases hq
     refine Av.lst _ _ _ (ad.add (l*Bp P e)) _ (fun j=>(w.cell? (ad.add (l*Bp P e+j))).getD undef) (Asq h1 _) (by rw[Fv];exact h2) (by rw[Fv];exact h3) (by omega) (fun j q hq=>?_) (fun j q hq=>?_) (fun j q hq=>?_)
     ·obtain⟨v,hv,_⟩:=h4 _ q (Ev j q hq);rw[add_add,hv];rfl
     ·obtain⟨v,hv,h5,_⟩:=h4 _ q (Ev j q hq);rw[hv];exact h5
     ·obtain⟨v,hv,_,ht⟩:=h4 _ q (Ev j q hq);rw[hv];exact ht
 ·rename_i n e hu;obtain⟨Vp,hk⟩:=Aq hk;split at hk
  ·rename_i id off e';rw[e'] at hx VX;obtain⟨c,hrc,hk⟩:=Dd hk;obtain⟨Ek,hk⟩:=Aq hk;simp only[Fc,GF] at Ek;have DV:=Dx Ek.2
   replace Ek:=Ek.1
   obtain⟨l,hk,hl⟩:=E6 h hk;obtain⟨u,hk,Mc⟩:=E6 h hk;obtain⟨hb,hk⟩:=Aq hk;simp only[Fc,GF] at hb;obtain⟨b,ob,hβ,Ee⟩:=hx
   have PZ:ob+off+n*Bp P e<=bsz w b:=by
    obtain⟨v,hv,_⟩:=US h hrc hβ (j:=off+n*Bp P e-1) (List.getElem?_eq_getElem (by omega));have:=KN hv;omega
   have Ck:b<w.heap.size:=h.blt id b ob (VX id (by simp[Cd,Ct,Au])) hβ
   have Ds:(execOp a.eval o).run P w=.ok (.value (.slice (some (if n=l then ⟨b,ob+off,none⟩ else ⟨b,ob+off+l*Bp P e,none⟩)) (u-l) (n-l))) w:=by
    unfold execOp;rw[ho];have hbr:=Le (P:=P) (w:=w) (isS:=false) hl Mc hb.1 hb.2;simp[Instr.sliceAt,Instr.sureAddr,run_underlying hu,Ee,hbr,Dy Vp,Ep]
   refine⟨_,hk,C6 Ds (.inr ?_) VX⟩;by_cases hc:n=l
   ·rw[Cr hc];refine⟨b,ob,ob+off,n-l,hβ,rfl,?_,by omega,⟨by rw[hc,Nat.sub_self];omega,.inl DV⟩,Ck⟩
    by_cases h0:l*Bp P e=0
    ·rw[h0,ZW];exact .inl rfl
    ·exact .inr ⟨by omega,by omega⟩
   ·rw[B3 hc];refine⟨b,ob,ob+off+l*Bp P e,n-l,hβ,rfl,.inl (by omega),by omega,?_,Ck⟩
    have:l*Bp P e+(n-l)*Bp P e=n*Bp P e:=by
     rw[<-Nat.add_mul]
     congr 1
     omega
    exact⟨by omega,.inl DV⟩
  ·cases hk
 ·cases hk
end
open Go.RowKit
section
variable {R:Type}{r:R}{P:Program}{N:Nat}{w0:World}{X0:F3}{Y:Nat->Prop}{β β':Bt}{s:St}{a:Act}{w w':World}{o:Oper}{A:Nat->Prop}
theorem An6(h:Cj N w0 X0 Y β s a w){c:Call}(ho:o.op=.call c)(hc:c.callee=.builtin .len){K:PV->Option R}(hk:(Ad c.args.toList fun x _=>Ad c.argTypes.toList fun t _=>Apd P t (Cx s.tm x) fun n=>K (.sc (.int .i64 n)))=some r):∃v,K v=some r/\Fh P a w o Y β s v [] []:=by
 obtain⟨x,xs,VZ,hk⟩:=Bo hk;obtain⟨t,ts,hts,hk⟩:=Bo hk;have hx:=D7 h x;have F0:c.args=(x::xs).toArray:=by rw[<-VZ]
 have PT:c.argTypes=(t::ts).toArray:=by rw[<-hts]
 have Ds:∀n:Nat,(Builtin.len_ c.argTypes o.type (c.args.map a.eval)).run P w=.ok (.int .i64 n) w->(execOp a.eval o).run P w=.ok (.value (.int .i64 n)) w:=by
  intro n hl;unfold execOp;rw[ho];simp only[resolve,hc,invoke,builtin,Sem.run_bind,Sem.run_pure,Result.andThen_ok,hl]
 unfold Apd at hk;split at hk
 ·rename_i hu;obtain⟨sb,Bh0,hk⟩:=El hk;have Ee:=Da h Bh0;refine⟨_,hk,Dk (Ds _ ?_)⟩;simp[Builtin.len_,F0,PT,run_underlying hu,Ee,goInt]
 ·rename_i n e hu;refine⟨_,hk,Dk (Ds _ ?_)⟩;simp[Builtin.len_,F0,PT,run_underlying hu,goInt]
 ·rename_i e hu;split at hk
  ·rename_i id es off n e';rw[e'] at hx;obtain⟨_,hk⟩:=Aq hk;refine⟨_,hk,Dk (Ds _ ?_)⟩;rcases hx with⟨_,_,rfl,ad,Ee⟩|⟨b,ob,y,cap,_,Ee,_⟩<;>simp[Builtin.len_,F0,PT,run_underlying hu,Ee,goInt]
  ·obtain⟨z,n,cc,hk,hp⟩:=G0 hk;refine⟨_,hk,Dk (Ds _ ?_)⟩;rcases slice_form hp hx with⟨Ee,rfl,_⟩|⟨ad,cap,Ee,_⟩|⟨ad,cap,Ee,_,rfl,_⟩<;>simp[Builtin.len_,F0,PT,run_underlying hu,Ee,goInt]
 ·cases hk
theorem Aoc(h:Cj N w0 X0 Y β s a w){c:Call}(ho:o.op=.call c)(hc:c.callee=.builtin .cap){K:PV->Option R}(hk:(Ad c.args.toList fun x _=>Ad c.argTypes.toList fun t _=>Apz P t (Cx s.tm x) fun n=>K (.sc (.int .i64 n)))=some r):∃v,K v=some r/\Fh P a w o Y β s v [] []:=by
 obtain⟨x,xs,VZ,hk⟩:=Bo hk;obtain⟨t,ts,hts,hk⟩:=Bo hk;have hx:=D7 h x;have F0:c.args=(x::xs).toArray:=by rw[<-VZ]
 have PT:c.argTypes=(t::ts).toArray:=by rw[<-hts]
 have Ds:∀n:Nat,(Builtin.cap_ c.argTypes o.type (c.args.map a.eval)).run P w=.ok (.int .i64 n) w->(execOp a.eval o).run P w=.ok (.value (.int .i64 n)) w:=by
  intro n hl;unfold execOp;rw[ho];simp only[resolve,hc,invoke,builtin,Sem.run_bind,Sem.run_pure,Result.andThen_ok,hl]
 unfold Apz at hk;split at hk
 ·rename_i e hu;obtain⟨z,n,cc,hk,hp⟩:=G0 hk;obtain⟨hz,hk⟩:=Aq hk;refine⟨_,hk,Dk (Ds _ ?_)⟩;rcases slice_form hp hx with⟨Ee,rfl,_⟩|⟨ad,cap,Ee,TB,_⟩|⟨ad,cap,Ee,TB,_,_⟩
  ·simp[Builtin.cap_,F0,PT,run_underlying hu,Ee,goInt]
  ·rw[hz] at TB;cases TB
  ·rw[hz] at TB;cases TB
 ·cases hk
theorem Apa(h:Cj N w0 X0 Y β s a w){c:Call}(ho:o.op=.call c)(hc:c.callee=.builtin .min){K:PV->Option R}(hk:(Ad c.args.toList fun x r=>Ad r fun y r'=>Ak r' (Ayj (Cx s.tm x) (Cx s.tm y) K))=some r):∃v,K v=some r/\Fh P a w o Y β s v [] []:=by
 obtain⟨x,xs,VZ,hk⟩:=Bo hk;obtain⟨y,ys,rfl,hk⟩:=Bo hk;obtain⟨rfl,hk⟩:=Em hk;obtain⟨k,n,hx,hk⟩:=Ei hk;obtain⟨m,hy,hk⟩:=Fp hk
 have F0:c.args = #[x,y]:=by
  have:c.args=([x,y]:List Operand).toArray:=by rw[<-VZ]
  exact this
 refine⟨_,hk,Dk ?_⟩;unfold execOp;rw[ho];simp[resolve,hc,invoke,builtin,F0,Builtin.min_,Builtin.min2,Da h hx,Da h hy]
theorem Ap3(h:Cj N w0 X0 Y β s a w){c:Call}(ho:o.op=.call c)(hc:c.callee=.builtin .max){K:PV->Option R}(hk:(Ad c.args.toList fun x r=>Ad r fun y r'=>Ak r' (Aw2 (Cx s.tm x) (Cx s.tm y) K))=some r):∃v,K v=some r/\Fh P a w o Y β s v [] []:=by
 obtain⟨x,xs,VZ,hk⟩:=Bo hk;obtain⟨y,ys,rfl,hk⟩:=Bo hk;obtain⟨rfl,hk⟩:=Em hk;obtain⟨k,n,hx,hk⟩:=Ei hk;obtain⟨m,hy,hk⟩:=Fp hk
 have F0:c.args = #[x,y]:=by
  have:c.args=([x,y]:List Operand).toArray:=by rw[<-VZ]
  exact this
 refine⟨_,hk,Dk ?_⟩;unfold execOp;rw[ho];simp[resolve,hc,invoke,builtin,F0,Builtin.max_,Builtin.max2,Da h hx,Da h hy]
theorem Ajp(h:Cj N w0 X0 Y β s a w){op:UnOp}{t:TypeId}{x:Operand}(ho:o.op=.unOp op t x){K:PV->Option R}(hk:unK op (Cx s.tm x) K=some r):
  ∃v,K v=some r/\Fh P a w o Y β s v [] []:=by
 unfold unK at hk;split at hk
 ·obtain⟨b,hb,hk⟩:=Ey hk;refine⟨_,hk,Dk ?_⟩;unfold execOp;rw[ho];simp[Op.unary,Da h hb]
 ·obtain⟨k,n,hb,hk⟩:=Ei hk;refine⟨_,hk,Dk ?_⟩;unfold execOp;rw[ho];simp[Op.unary,Op.intArith,Da h hb]
 ·obtain⟨k,n,hb,hk⟩:=Ei hk;refine⟨_,hk,Dk ?_⟩;unfold execOp;rw[ho];simp[Op.unary,Op.intBits,Da h hb,Bc0]
 ·cases hk
theorem An1{op:BinOp}{k:IntKind}{m n:Int}{t:TypeId}{x y:Operand}{K:PV->Option R}(RB:op ≠ .shl)(HK:op ≠ .shr)(hk:RL op k m n K=some r):
  ∃v,K (.sc v)=some r/\(do eqGuard op t x y (.int k m) (.int k n);binOp op t (.int k m) (.int k n)).run P w=.ok v w:=by
 cases op<;>first
  |exact absurd rfl RB
  |exact absurd rfl HK
  |(obtain⟨hb,hk⟩:=Aq hk;have hb:=of_decide_eq_true hb;exact⟨_,hk,by simp[eqGuard,binOp,Op.intDiv,hb]⟩)
  |exact⟨_,hk,by simp[eqGuard,binOp,-BitVec.toNat_and,-BitVec.toNat_or,-BitVec.toNat_xor,-gt_iff_lt,-ge_iff_le]<;>rfl⟩
theorem Am4{op:BinOp}{m n:ByteArray}{t:TypeId}{x y:Operand}{K:PV->Option R}(hk:VM op m n K=some r):
  ∃v,K (.sc v)=some r/\(do eqGuard op t x y (.string m) (.string n);binOp op t (.string m) (.string n)).run P w=.ok v w:=by
 cases op<;>first
  |cases hk
  |(obtain⟨hb,hk⟩:=Aq hk;have hb:=of_decide_eq_true hb;exact⟨_,hk,by
    have Iq:¬(((m.size+n.size:Nat):Int)>IntKind.i64.max):=by
     have:IntKind.i64.max=9223372036854775807:=rfl;rw[this];omega
    simp only[eqGuard,binOp,Op.stringOp,B3 Iq];rfl⟩)
  |exact⟨_,hk,by simp only[eqGuard,binOp,Op.stringOp,ByteArray.toList_eq];rfl⟩
end
open Go.RowKit
section
variable {R:Type}{r:R}{P:Program}{N:Nat}{w0:World}{X0:F3}{Y:Nat->Prop}{β β':Bt}{s:St}{a:Act}{w w':World}{o:Oper}{A:Nat->Prop}
theorem TC{t:TypeId}(hu:P.underlying t=some .bool)(x y:Bool):(Op.equal t (.bool x) (.bool y)).run P w=.ok (x==y) w:=by
 have h:∀d,(Op.equalIn (d+1) t (.bool x) (.bool y)).run P w=.ok (x==y) w:=fun d=>by simp[Op.equalIn,run_underlying hu]
 exact h 9999
theorem DG{t e:TypeId}(hu:P.underlying t=some (.slice e))(x:Option Addr)(n c:Nat):(Op.equal t (.slice x n c) (.slice none 0 0)).run P w=.ok x.isNone w:=by
 have h:∀d,(Op.equalIn (d+1) t (.slice x n c) (.slice none 0 0)).run P w=.ok x.isNone w:=fun d=>by
  cases x<;>simp[Op.equalIn,run_underlying hu]
 exact h 9999
theorem JN{t k e:TypeId}(hu:P.underlying t=some (.map k e)):(Op.equal t (.map none) (.map none)).run P w=.ok true w:=by
 have h:∀d,(Op.equalIn (d+1) t (.map none) (.map none)).run P w=.ok true w:=fun d=>by
  simp[Op.equalIn,run_underlying hu]
 exact h 9999
theorem Lu{t:TypeId}(d:Nat){v u:Value}(hv:(∃k m n,P.underlying t=some (.int k)/\v=.int k m/\u=.int k n)\/(∃m n,P.underlying t=some .bool/\v=.bool m/\u=.bool n)\/∃m n,P.underlying t=some .string/\v=.string m/\u=.string n){b:Bool}(hb:∀k m n,v=.int k m->u=.int k n->b=(m==n))(Iq:∀m n,v=.bool m->u=.bool n->b=(m==n))(Bia:∀m n,v=.string m->u=.string n->b=(m==n)):(Op.equalIn (d+1) t v u).run P w=.ok b w:=by
 rcases hv with⟨k,m,n,hu,rfl,rfl⟩|⟨m,n,hu,rfl,rfl⟩|⟨m,n,hu,rfl,rfl⟩
 ·rw[hb k m n rfl rfl];simp[Op.equalIn,run_underlying hu]
 ·rw[Iq m n rfl rfl];simp[Op.equalIn,run_underlying hu]
 ·rw[Bia m n rfl rfl];simp[Op.equalIn,run_underlying hu]
theorem X6{t:TypeId}{dsc:TypeDesc}(hu:P.underlying t=some dsc)(hd:C5 P t=false){xs:Array Value}{i:Nat}{v:Value}(hv:xs[i]?=some v):(part t xs i).run P w=.ok v w:=by simp only[part,Sem.run_bind,R1 hu,hd,Result.andThen_ok];simp[hv]
theorem ZK(k:IntKind)(n:Int)(K:Int->Option R):Bq k (.sc (.int k n)) K=K n:=by simp[Bq]
theorem Agj(d : Nat): ∀ (fs : List Field) (i : Nat) (xs ys : Array Value) (ps qs : Ae) (K : Bool -> Option R), Agk P fs i = true -> O8 (fs.map (fty P)) ps qs K = some r ->
    (∀ (j : Nat) p, ps[j]? = some p -> ∃ v, xs[i + j]? = some v /\ Cm w A β p v) -> (∀ (j : Nat) p, qs[j]? = some p -> ∃ v, ys[i + j]? = some v /\ Cm w A β p v) ->
    ∃ b, K b = some r /\ (forIn fs ((none, ()) : Option Bool × Unit) fun (f : Field) (_ : Option Bool × Unit) =>
            if f.name = "_" then pure (ForInStep.yield ((none, ()) : Option Bool × Unit))
            else do
              let x <- part f.type xs f.offset
              let y <- part f.type ys f.offset
              let e <- Op.equalIn (d + 1) f.type x y
              if e = false then pure (ForInStep.done ((some false, ()) : Option Bool × Unit)) else pure (ForInStep.yield ((none, ()) : Option Bool × Unit)) : Sem (Option Bool × Unit)).run P w = .ok (if b then (none, ()) else (some false, ())) w
  | [], i, xs, ys, ps, qs, K, _, hk, _, _ => by
    cases ps with
    | nil => cases qs with
      | nil => exact⟨true, hk, by simp⟩
      | cons q qs => cases hk
    | cons p ps => cases hk
  | f :: fs, i, xs, ys, ps, qs, K, MJ, hk, hp, hq => by
    simp only[Agk, Fc] at MJ
    obtain⟨⟨⟨Vl, Auw⟩, hty⟩, EU⟩ := MJ
    have Vl := Dx Vl
    have SL : f.name ≠ "_" := by simpa using Auw
    cases ps with
    | nil =>
      simp only[X4] at hk
      cases A4l : fty P f <;> rw[A4l] at hk <;> cases hk
    | cons p ps =>
      cases qs with
      | nil =>
        simp only[X4] at hk
        cases A4l : fty P f <;> rw[A4l] at hk <;> cases hk
      | cons q qs =>
        obtain⟨v, hv, MU⟩ := hp 0 p rfl
        obtain⟨u, hu, hqu⟩ := hq 0 q rfl
        rw[ZW] at hv hu
        have main : ∃ b0 dsc, P.underlying f.type = some dsc /\ C5 P f.type = false /\ (Op.equalIn (d + 1) f.type v u).run P w = .ok b0 w /\ O8 (fs.map (fty P)) ps qs (fun r => K (b0 && r)) = some r := by
          simp only[X4] at hk
          unfold fty at hk
          split at hk
          · rename_i k M8
            obtain⟨m, YN, Er⟩ := Fp (show Bq k p _ = some r from hk)
            obtain⟨n, VT, Fz⟩ := Fp Er
            subst YN VT
            have Uk : v = .int k m := Av.val (w := w) (A := A) MU
            have Mc : u = .int k n := Av.val (w := w) (A := A) hqu
            subst Uk Mc
            refine⟨m == n, _, M8, by simp[C5, M8], Lu d (.inl ⟨k, m, n, M8, rfl, rfl⟩) ?_ ?_ ?_, Fz⟩
            · intro k' m' n' h1 h2; injection h1 with _ h1; injection h2 with _ h2; rw[h1, h2]
            · intro m' n' h1; cases h1
            · intro m' n' h1; cases h1
          · rename_i M8
            obtain⟨m, YN, Er⟩ := Ey (show Ax p _ = some r from hk)
            obtain⟨n, VT, Fz⟩ := Ey Er
            subst YN VT
            have Uk : v = .bool m := Av.val (w := w) (A := A) MU
            have Mc : u = .bool n := Av.val (w := w) (A := A) hqu
            subst Uk Mc
            refine⟨m == n, _, M8, by simp[C5, M8], Lu d (.inr (.inl ⟨m, n, M8, rfl, rfl⟩)) ?_ ?_ ?_, Fz⟩
            · intro k' m' n' h1; cases h1
            · intro m' n' h1 h2; injection h1 with h1; injection h2 with h2; rw[h1, h2]
            · intro m' n' h1; cases h1
          · rename_i M8
            obtain⟨m, YN, Er⟩ := El (show Bd p _ = some r from hk)
            obtain⟨n, VT, Fz⟩ := El Er
            subst YN VT
            have Uk : v = .string m := Av.val (w := w) (A := A) MU
            have Mc : u = .string n := Av.val (w := w) (A := A) hqu
            subst Uk Mc
            refine⟨m == n, _, M8, by simp[C5, M8], Lu d (.inr (.inr ⟨m, n, M8, rfl, rfl⟩)) ?_ ?_ ?_, Fz⟩
            · intro k' m' n' h1; cases h1
            · intro m' n' h1; cases h1
            · intro m' n' h1 h2; injection h1 with h1; injection h2 with h2; rw[h1, h2]
          · cases hk
        obtain⟨b0, dsc, M8, Hs, he, hk⟩ := main
        obtain⟨b, hkb, Ds⟩ := Agj d fs (i + 1) xs ys ps qs _ EU hk (fun j p' hj => by have := hp (j + 1) p' hj; rwa [Jc, Nat.add_comm 1 j]) (fun j p' hj => by have := hq (j + 1) p' hj; rwa [Jc, Nat.add_comm 1 j])
        refine⟨b0 && b, hkb, ?_⟩
        have hpx : (part f.type xs f.offset).run P w = .ok v w := X6 M8 Hs (by rw[Vl]; exact hv)
        have hpy : (part f.type ys f.offset).run P w = .ok u w := X6 M8 Hs (by rw[Vl]; exact hu)
        cases b0
        · simp[List.forIn_cons, SL, hpx, hpy, he]
        · simp only[XY]
          rw[<- Ds]
          simp[List.forIn_cons, SL, hpx, hpy, he]
theorem PX(d:Nat){t:TypeId}{fs:Array Field}(hu:P.underlying t=some (.struct fs))(Fn:P.stoodInHeld t=false)(MJ:Agk P fs.toList 0=true){xs ys:Ae}{vx vy:List Value}(hvx:Bx (Cm w A β) xs vx)(hvy:Bx (Cm w A β) ys vy){K:Bool->Option R}(hk:O8 (fs.toList.map (fty P)) xs ys K=some r):
  ∃b,K b=some r/\(Op.equalIn (d+2) t (.agg ⟨vx⟩) (.agg ⟨vy⟩)).run P w=.ok b w:=by
 obtain⟨b,hkb,Ds⟩:=Agj (P:=P) (w:=w) (A:=A) (β:=β) d fs.toList 0 ⟨vx⟩ ⟨vy⟩ xs ys K MJ hk (fun j p hj=>by
   obtain⟨v,hv,hc⟩:=hvx.get hj;exact⟨v,by simpa using hv,hc⟩) (fun j p hj=>by
   obtain⟨v,hv,hc⟩:=hvy.get hj;exact⟨v,by simpa using hv,hc⟩)
 refine⟨b,hkb,?_⟩;rw[Array.forIn_toList] at Ds;rw[Op.equalIn];simp[run_underlying hu,Fn];rw[Ds];cases b<;>simp
theorem JY:∀(ts1:List CT){ts2:List CT}{ps qs:Ae}{K:Bool->Option R},O8 (ts1++ts2) ps qs K=some r ->
  O8 ts1 (ps.take ts1.length) (qs.take ts1.length) (fun b=>O8 ts2 (ps.drop ts1.length) (qs.drop ts1.length) fun r'=>K (b&&r'))=some r
 |[],ts2,ps,qs,K,h=>by
  simp only[WG,List.take_zero,Me,O8,XY];exact h
 |t::ts1,ts2,ps,qs,K,h=>by
  rw[Zzp] at h;cases ps with
  |nil=>cases t<;>cases h
  |cons p ps=>
   cases qs with
   |nil=>cases t<;>cases h
   |cons q qs=>
    simp only[Tm,List.take_succ_cons,List.drop_succ_cons];cases t with
    |int k=>
     obtain⟨m,YN,h1⟩:=Fp (show Bq k p _=some r from h);obtain⟨n,VT,h2⟩:=Fp h1;subst YN VT;have:=JY ts1 h2;simp only[<-Bool.and_assoc] at this;exact (ZK _ _ _).trans ((ZK _ _ _).trans this)
    |bool=>
     obtain⟨m,YN,h1⟩:=Ey (show Ax p _=some r from h);obtain⟨n,VT,h2⟩:=Ey h1;subst YN VT;have:=JY ts1 h2;simp only[<-Bool.and_assoc] at this;exact this
    |str=>
     obtain⟨m,YN,h1⟩:=El (show Bd p _=some r from h);obtain⟨n,VT,h2⟩:=El h1;subst YN VT;have:=JY ts1 h2;simp only[<-Bool.and_assoc] at this;exact this
    |sl es=>cases h
    |any=>cases h
theorem Af3:∀(ts:List CT){ps qs:Ae}{K:Bool->Option R},O8 ts ps qs K=some r->ps.length=ts.length/\qs.length=ts.length
 |[],ps,qs,K,h=>by
  cases ps with
  |nil=>cases qs with
   |nil=>exact⟨rfl,rfl⟩
   |cons q qs=>cases h
  |cons p ps=>cases h
 |t::ts,ps,qs,K,h=>by
  cases ps with
  |nil=>cases t<;>cases h
  |cons p ps=>
   cases qs with
   |nil=>cases t<;>cases h
   |cons q qs=>
    have go:∃K',O8 ts ps qs K'=some r:=by
     cases t with
     |int k=>
      obtain⟨m,YN,h1⟩:=Fp (show Bq k p _=some r from h);obtain⟨n,VT,h2⟩:=Fp h1;exact⟨_,h2⟩
     |bool=>
      obtain⟨m,YN,h1⟩:=Ey (show Ax p _=some r from h);obtain⟨n,VT,h2⟩:=Ey h1;exact⟨_,h2⟩
     |str=>
      obtain⟨m,YN,h1⟩:=El (show Bd p _=some r from h);obtain⟨n,VT,h2⟩:=El h1;exact⟨_,h2⟩
     |sl es=>cases h
     |any=>cases h
    obtain⟨K',h'⟩:=go;have:=Af3 ts h';exact⟨by simp[this.1],by simp[this.2]⟩
theorem Ag5{t:TypeId}{dsc:TypeDesc}(hu:P.underlying t=some dsc)(hd:C5 P t=true)(hi:(P.info? t).isSome=true)(xs:Array Value)(i:Nat):(part t xs i).run P w=.ok (.agg (xs.extract i (i+Bp P t))) w:=by simp only[part,Sem.run_bind,R1 hu,hd,Result.andThen_ok,if_true,Dy hi];rfl
theorem ZJ{xs:Array Value}{i n:Nat}{ps:Ae}(hn:n<=ps.length)(hp:∀(j:Nat) p,ps[j]?=some p->∃v,xs[i+j]?=some v/\Cm w A β p v):Bx (Cm w A β) (ps.take n) (xs.extract i (i+n)).toList:=by
 rcases Nat.eq_zero_or_pos n with h0|h0
 ·subst h0;simp[Bx]
 have hl:n-1<ps.length:=by omega
 obtain⟨v,hv,_⟩:=hp (n-1) _ (List.getElem?_eq_getElem hl);have Km:=(Array.getElem?_eq_some_iff.1 hv).1;refine Bx.of_at (by simp;omega) fun j a b ha hb=>?_
 rw[List.getElem?_take] at ha;split at ha
 ·rename_i hj;obtain⟨v,hv,hc⟩:=hp j a ha;rw[Array.getElem?_toList,Array.getElem?_extract] at hb;split at hb
  ·rw[hv] at hb;cases hb;exact hc
  ·cases hb
 ·cases ha
theorem OQ{f:Field}{gs:Array Field}(hu:P.underlying f.type=some (.struct gs)):Ag1 P f=gs.toList.map (fty P):=by unfold Ag1;rw[hu]
theorem Ajk{f:Field}(h:∀gs,P.underlying f.type≠some (.struct gs)):Ag1 P f=[fty P f]:=by
 unfold Ag1;split
 ·rename_i gs hu;exact absurd hu (h gs)
 ·rfl
theorem Akl(d : Nat): ∀ (fs : List Field) (i : Nat) (xs ys : Array Value) (ps qs : Ae) (K : Bool -> Option R), Ta P fs i = true -> O8 (EY P fs) ps qs K = some r ->
    (∀ (j : Nat) p, ps[j]? = some p -> ∃ v, xs[i + j]? = some v /\ Cm w A β p v) -> (∀ (j : Nat) p, qs[j]? = some p -> ∃ v, ys[i + j]? = some v /\ Cm w A β p v) ->
    ∃ b, K b = some r /\ (forIn fs ((none, ()) : Option Bool × Unit) fun (f : Field) (_ : Option Bool × Unit) =>
            if f.name = "_" then pure (ForInStep.yield ((none, ()) : Option Bool × Unit))
            else do
              let x <- part f.type xs f.offset
              let y <- part f.type ys f.offset
              let e <- Op.equalIn (d + 2) f.type x y
              if e = false then pure (ForInStep.done ((some false, ()) : Option Bool × Unit)) else pure (ForInStep.yield ((none, ()) : Option Bool × Unit)) : Sem (Option Bool × Unit)).run P w = .ok (if b then (none, ()) else (some false, ())) w
  | [], i, xs, ys, ps, qs, K, _, hk, _, _ => by
    cases ps with
    | nil => cases qs with
      | nil => exact⟨true, hk, by simp⟩
      | cons q qs => cases hk
    | cons p ps => cases hk
  | f :: fs, i, xs, ys, ps, qs, K, MJ, hk, hp, hq => by
    simp only[Ta, Fc] at MJ
    obtain⟨⟨Vl, Auw⟩, hty⟩ := MJ
    have Vl := Dx Vl
    have SL : f.name ≠ "_" := by simpa using Auw
    have main : ∃ b0 v u n, (part f.type xs f.offset).run P w = .ok v w /\ (part f.type ys f.offset).run P w = .ok u w /\ (Op.equalIn (d + 2) f.type v u).run P w = .ok b0 w /\ Ta P fs (i + n) = true /\ O8 (EY P fs) (ps.drop n) (qs.drop n) (fun r' => K (b0 && r')) = some r := by
      have hk := JY (Ag1 P f) (show O8 (Ag1 P f ++ EY P fs) ps qs K = some r from hk)
      have Ek := Af3 _ hk
      rw[List.length_take, List.length_take] at Ek
      have plain : (∀ gs, P.underlying f.type ≠ some (.struct gs)) -> Ta P fs (i + 1) = true -> (match P.underlying f.type with | some (.int _) => true | some .bool => true | some .string => true | _ => false) = true ->
          ∃ b0 v u n, (part f.type xs f.offset).run P w = .ok v w /\ (part f.type ys f.offset).run P w = .ok u w /\ (Op.equalIn (d + 2) f.type v u).run P w = .ok b0 w /\ Ta P fs (i + n) = true /\ O8 (EY P fs) (ps.drop n) (qs.drop n) (fun r' => K (b0 && r')) = some r := by
        intro hs A4y Xl
        rw[Ajk hs] at hk Ek
        simp only[List.length_singleton] at hk Ek
        obtain⟨p, ps, rfl⟩ : ∃ p ps', ps = p :: ps' := by
          cases ps with
          | nil => simp at Ek
          | cons p ps => exact⟨p, ps, rfl⟩
        obtain⟨q, qs, rfl⟩ : ∃ q qs', qs = q :: qs' := by
          cases qs with
          | nil => simp at Ek
          | cons q qs => exact⟨q, qs, rfl⟩
        obtain⟨v, hv, MU⟩ := hp 0 p rfl
        obtain⟨u, hu, hqu⟩ := hq 0 q rfl
        rw[ZW] at hv hu
        simp only[List.take_succ_cons, List.take_zero, List.drop_succ_cons, Me] at hk ⊢
        have one : ∃ b0 dsc, P.underlying f.type = some dsc /\ C5 P f.type = false /\ (Op.equalIn (d + 2) f.type v u).run P w = .ok b0 w /\ O8 (EY P fs) ps qs (fun r' => K (b0 && r')) = some r := by
          unfold fty at hk
          split at hk
          · rename_i k M8
            obtain⟨m, YN, Er⟩ := Fp (show Bq k p _ = some r from hk)
            obtain⟨n, VT, Fz⟩ := Fp Er
            subst YN VT
            have Uk : v = .int k m := Av.val (w := w) (A := A) MU
            have Mc : u = .int k n := Av.val (w := w) (A := A) hqu
            subst Uk Mc
            have e : ∀ b : Bool, (b && true) = b := Bool.and_true
            simp only[O8, e] at Fz
            refine⟨m == n, _, M8, by simp[C5, M8], Lu (d + 1) (.inl ⟨k, m, n, M8, rfl, rfl⟩) ?_ ?_ ?_, Fz⟩
            · intro k' m' n' h1 h2; injection h1 with _ h1; injection h2 with _ h2; rw[h1, h2]
            · intro m' n' h1; cases h1
            · intro m' n' h1; cases h1
          · rename_i M8
            obtain⟨m, YN, Er⟩ := Ey (show Ax p _ = some r from hk)
            obtain⟨n, VT, Fz⟩ := Ey Er
            subst YN VT
            have Uk : v = .bool m := Av.val (w := w) (A := A) MU
            have Mc : u = .bool n := Av.val (w := w) (A := A) hqu
            subst Uk Mc
            have e : ∀ b : Bool, (b && true) = b := Bool.and_true
            simp only[O8, e] at Fz
            refine⟨m == n, _, M8, by simp[C5, M8], Lu (d + 1) (.inr (.inl ⟨m, n, M8, rfl, rfl⟩)) ?_ ?_ ?_, Fz⟩
            · intro k' m' n' h1; cases h1
            · intro m' n' h1 h2; injection h1 with h1; injection h2 with h2; rw[h1, h2]
            · intro m' n' h1; cases h1
          · rename_i M8
            obtain⟨m, YN, Er⟩ := El (show Bd p _ = some r from hk)
            obtain⟨n, VT, Fz⟩ := El Er
            subst YN VT
            have Uk : v = .string m := Av.val (w := w) (A := A) MU
            have Mc : u = .string n := Av.val (w := w) (A := A) hqu
            subst Uk Mc
            have e : ∀ b : Bool, (b && true) = b := Bool.and_true
            simp only[O8, e] at Fz
            refine⟨m == n, _, M8, by simp[C5, M8], Lu (d + 1) (.inr (.inr ⟨m, n, M8, rfl, rfl⟩)) ?_ ?_ ?_, Fz⟩
            · intro k' m' n' h1; cases h1
            · intro m' n' h1; cases h1
            · intro m' n' h1 h2; injection h1 with h1; injection h2 with h2; rw[h1, h2]
          · cases hk
        obtain⟨b0, dsc, M8, Hs, he, hk⟩ := one
        exact⟨b0, v, u, 1, X6 M8 Hs (by rw[Vl]; exact hv), X6 M8 Hs (by rw[Vl]; exact hu), he, A4y, by simpa using hk⟩
      split at hty
      · rename_i k M8
        exact plain (fun gs e => by rw[M8] at e; cases e) hty (by rw[M8])
      · rename_i M8
        exact plain (fun gs e => by rw[M8] at e; cases e) hty (by rw[M8])
      · rename_i M8
        exact plain (fun gs e => by rw[M8] at e; cases e) hty (by rw[M8])
      · rename_i gs M8
        simp only[Fc, Bool.not_eq_true'] at hty
        obtain⟨⟨⟨⟨hfp, Fn⟩, hi⟩, Km⟩, EU⟩ := hty
        have Km := Dx Km
        have M9 : (Ag1 P f).length = gs.size := by rw[OQ M8, List.length_map, Array.length_toList]
        rw[M9] at hk Ek
        rw[OQ M8] at hk
        have hx := ZJ (n := gs.size) (by omega) hp
        have hy := ZJ (n := gs.size) (by omega) hq
        obtain⟨b0, hkb, he⟩ := PX d M8 Fn hfp hx hy hk
        have ha : C5 P f.type = true := by simp[C5, M8]
        exact⟨b0, _, _, gs.size, by rw[Ag5 M8 ha hi, Vl, Km], by rw[Ag5 M8 ha hi, Vl, Km], he, EU, hkb⟩
      · cases hty
    obtain⟨b0, v, u, n, hpx, hpy, he, A4y, hk⟩ := main
    obtain⟨b, hkb, Ds⟩ := Akl d fs (i + n) xs ys (ps.drop n) (qs.drop n) _ A4y hk (fun j p' hj => by rw[List.getElem?_drop] at hj; have := hp (n + j) p' hj; rwa [<- Jc] at this) (fun j p' hj => by rw[List.getElem?_drop] at hj; have := hq (n + j) p' hj; rwa [<- Jc] at this)
    refine⟨b0 && b, hkb, ?_⟩
    cases b0
    · simp[List.forIn_cons, SL, hpx, hpy, he]
    · simp only[XY]
      rw[<- Ds]
      simp[List.forIn_cons, SL, hpx, hpy, he]
theorem TO(d:Nat){t:TypeId}{fs:Array Field}(hu:P.underlying t=some (.struct fs))(Fn:P.stoodInHeld t=false)(MJ:Ta P fs.toList 0=true){xs ys:Ae}{vx vy:List Value}(hvx:Bx (Cm w A β) xs vx)(hvy:Bx (Cm w A β) ys vy){K:Bool->Option R}(hk:O8 (EY P fs.toList) xs ys K=some r):
  ∃b,K b=some r/\(Op.equalIn (d+3) t (.agg ⟨vx⟩) (.agg ⟨vy⟩)).run P w=.ok b w:=by
 obtain⟨b,hkb,Ds⟩:=Akl (P:=P) (w:=w) (A:=A) (β:=β) d fs.toList 0 ⟨vx⟩ ⟨vy⟩ xs ys K MJ hk (fun j p hj=>by
   obtain⟨v,hv,hc⟩:=hvx.get hj;exact⟨v,by simpa using hv,hc⟩) (fun j p hj=>by
   obtain⟨v,hv,hc⟩:=hvy.get hj;exact⟨v,by simpa using hv,hc⟩)
 refine⟨b,hkb,?_⟩;rw[Array.forIn_toList] at Ds;rw[Op.equalIn];simp[run_underlying hu,Fn];rw[Ds];cases b<;>simp
theorem ZF(h:Cj N w0 X0 Y β s a w){t:TypeId}{fs:Array Field}{x y:Operand}{op:BinOp}(hop:op=.eql\/op=.neq)(hu:P.underlying t=some (.struct fs))(MJ:Aco P t fs=true){xs ys:Ae}(hx:Cx s.tm x=.agg xs)(hy:Cx s.tm y=.agg ys){K:Bool->Option R}(hk:O8 (EY P fs.toList) xs ys K=some r):
  ∃b,K b=some r/\(do eqGuard op t x y (a.eval x) (a.eval y);binOp op t (a.eval x) (a.eval y)).run P w=.ok (.bool (if op=.eql then b else !b)) w:=by
 have hxv:=D7 h x;have hyv:=D7 h y;rw[hx] at hxv;rw[hy] at hyv;obtain⟨vx,Ee,hvx⟩:=hxv;obtain⟨vy,hay,hvy⟩:=hyv;simp only[Aco,Fc,Bool.not_eq_true'] at MJ;obtain⟨⟨MJ,Fn⟩,heg⟩:=MJ;obtain⟨b,hkb,heq⟩:=TO 9997 hu Fn MJ hvx hvy hk;have heq:(Op.equal t (.agg ⟨vx⟩) (.agg ⟨vy⟩)).run P w=.ok b w:=heq;refine⟨b,hkb,?_⟩;rw[Ee,hay];rcases hop with rfl|rfl
 ·simp[eqGuard,binOp,heq,heg]
 ·simp[eqGuard,binOp,heq,heg]
theorem Ae5(h:Cj N w0 X0 Y β s a w){op:BinOp}{t ty:TypeId}{x y:Operand}(ho:o.op=.binOp op t x y ty){K:PV->Option R}(hk:DC P op t (Cx s.tm x) (Cx s.tm y) K=some r):∃v,K v=some r/\Fh P a w o Y β s v [] []:=by
 have Ds:∀v,(do eqGuard op t x y (a.eval x) (a.eval y);binOp op t (a.eval x) (a.eval y)).run P w=.ok v w->(execOp a.eval o).run P w=.ok (.value v) w:=by
  intro v hv;unfold execOp;rw[ho];simp only[Sem.run_bind] at hv ⊢;rw[hv];rfl
 unfold DC at hk;split at hk
 ·rename_i fs hu;split at hk
  ·obtain⟨MJ,hk⟩:=Aq hk;obtain⟨xs,hx,hk⟩:=Jj hk;obtain⟨ys,hy,hk⟩:=Jj hk;obtain⟨b,hk,hr⟩:=ZF h (.inl rfl) hu MJ hx hy hk;exact⟨_,hk,Dk (Ds _ (by rw[hr];rfl))⟩
  ·obtain⟨MJ,hk⟩:=Aq hk;obtain⟨xs,hx,hk⟩:=Jj hk;obtain⟨ys,hy,hk⟩:=Jj hk;obtain⟨b,hk,hr⟩:=ZF h (.inr rfl) hu MJ hx hy hk;exact⟨_,hk,Dk (Ds _ (by rw[hr];rfl))⟩
  ·cases hk
 ·unfold Aub at hk;split at hk
  ·rename_i k hu;split at hk
   ·obtain⟨m,hx,hk⟩:=Fp hk;obtain⟨k2,n,hy,hk⟩:=Ei hk;obtain⟨hb,hk⟩:=Aq hk;have hb:=of_decide_eq_true hb;refine⟨_,hk,Dk (Ds _ ?_)⟩;have:¬n<0:=by omega
    simp[eqGuard,binOp,Op.shift,Da h hx,Da h hy,this]
   ·obtain⟨m,hx,hk⟩:=Fp hk;obtain⟨k2,n,hy,hk⟩:=Ei hk;obtain⟨hb,hk⟩:=Aq hk;have hb:=of_decide_eq_true hb;refine⟨_,hk,Dk (Ds _ ?_)⟩;have:¬n<0:=by omega
    simp[eqGuard,binOp,Op.shift,Da h hx,Da h hy,this]
   ·rename_i RB HK;obtain⟨m,hx,hk⟩:=Fp hk;obtain⟨n,hy,hk⟩:=Fp hk;obtain⟨v,hk,hr⟩:=An1 (P:=P) (w:=w) (t:=t) (x:=x) (y:=y) RB HK hk;exact⟨_,hk,Dk (Ds _ (by rw[Da h hx,Da h hy];exact hr))⟩
  ·rename_i hu;obtain⟨m,hx,hk⟩:=El hk;obtain⟨n,hy,hk⟩:=El hk;obtain⟨v,hk,hr⟩:=Am4 (P:=P) (w:=w) (t:=t) (x:=x) (y:=y) hk;exact⟨_,hk,Dk (Ds _ (by rw[Da h hx,Da h hy];exact hr))⟩
  ·rename_i hu;split at hk
   ·obtain⟨m,hx,hk⟩:=Ey hk;obtain⟨n,hy,hk⟩:=Ey hk;refine⟨_,hk,Dk (Ds _ ?_)⟩;simp[eqGuard,binOp,Da h hx,Da h hy,TC hu]
   ·obtain⟨m,hx,hk⟩:=Ey hk;obtain⟨n,hy,hk⟩:=Ey hk;refine⟨_,hk,Dk (Ds _ ?_)⟩;simp[eqGuard,binOp,Da h hx,Da h hy,TC hu]
   ·cases hk
  ·rename_i e hu;have hx:=D7 h x
   have nilQ:∀{e:Bool} {K':PV->Option R},SI e (Cx s.tm x) K'=some r->∃q ad n c,K' q=some r/\a.eval x=.slice ad n c/\(q=.sc (.bool (if ad.isNone then e else !e))\/q=.ub):=by
    intro e K' hq;unfold SI at hq;split at hq
    ·rename_i e';exact⟨_,none,0,0,hq,Da h e',.inl rfl⟩
    ·rename_i z es n c e';rcases slice_form (.inl e') hx with⟨Ee,rfl,_⟩|⟨ad,cap,Ee,rfl,_⟩|⟨ad,cap,Ee,rfl,rfl,_⟩
     ·rcases Rp hq with⟨_,hq⟩|⟨_,hq⟩
      ·exact⟨_,none,0,0,hq,Ee,.inl rfl⟩
      ·rcases Rp hq with⟨hb,_⟩|⟨_,hq⟩
       ·exact absurd (of_decide_eq_true hb) (by omega)
       ·exact⟨_,none,0,0,hq,Ee,.inr rfl⟩
     ·rcases Rp hq with⟨hz,_⟩|⟨_,hq⟩
      ·cases hz
      ·rcases Rp hq with⟨_,hq⟩|⟨_,hq⟩
       ·exact⟨_,some ad,n,cap,hq,Ee,.inl rfl⟩
       ·exact⟨_,some ad,n,cap,hq,Ee,.inr rfl⟩
     ·rcases Rp hq with⟨hz,_⟩|⟨_,hq⟩
      ·cases hz
      ·rcases Rp hq with⟨hb,_⟩|⟨_,hq⟩
       ·exact absurd (of_decide_eq_true hb) (by omega)
       ·exact⟨_,some ad,0,cap,hq,Ee,.inr rfl⟩
    ·rename_i id es off n e';rw[e'] at hx;rcases hx with⟨_,_,rfl,ad,Ee⟩|⟨b,ob,y',cap,_,Ee,_⟩
     ·rcases Rp hq with⟨hb,_⟩|⟨_,hq⟩
      ·exact absurd (of_decide_eq_true hb) (by omega)
      ·exact⟨_,ad,0,0,hq,Ee,.inr rfl⟩
     ·rcases Rp hq with⟨_,hq⟩|⟨_,hq⟩
      ·exact⟨_,_,n,cap,hq,Ee,.inl rfl⟩
      ·exact⟨_,_,n,cap,hq,Ee,.inr rfl⟩
    ·cases hq
   split at hk
   ·rename_i hy;obtain⟨q,ad,n,c,hk,Ee,hb⟩:=nilQ hk;rcases hb with rfl|rfl
    ·refine⟨_,hk,Dk (Ds _ ?_)⟩;cases ad<;>simp[eqGuard,binOp,Ee,Da h hy,DG hu]
    ·refine⟨_,hk,C6 (val:=.bool ad.isNone) (Ds _ ?_) (Av.ub _) (by intro i hi;cases hi)⟩
     simp[eqGuard,binOp,Ee,Da h hy,DG hu]
   ·rename_i hy;obtain⟨q,ad,n,c,hk,Ee,hb⟩:=nilQ hk;rcases hb with rfl|rfl
    ·refine⟨_,hk,Dk (Ds _ ?_)⟩;cases ad<;>simp[eqGuard,binOp,Ee,Da h hy,DG hu]
    ·refine⟨_,hk,C6 (val:=.bool !ad.isNone) (Ds _ ?_) (Av.ub _) (by intro i hi;cases hi)⟩
     simp[eqGuard,binOp,Ee,Da h hy,DG hu]
   ·cases hk
  ·rename_i kt vt hu;split at hk
   ·rename_i hx hy;refine⟨_,hk,Dk (Ds _ ?_)⟩;simp[eqGuard,binOp,Da h hx,Da h hy,JN hu]
   ·rename_i hx hy;refine⟨_,hk,Dk (Ds _ ?_)⟩;simp[eqGuard,binOp,Da h hx,Da h hy,JN hu]
   ·cases hk
  ·cases hk
end
open Go.RowKit
section
variable {R:Type}{r:R}{P:Program}{N:Nat}{w0:World}{X0:F3}{Y:Nat->Prop}{β β':Bt}{s:St}{a:Act}{w w':World}{o:Oper}{A:Nat->Prop}
theorem OV:∀{c:Ae}{ns:Al},CW c=some ns->c=ns.map (fun n=>.sc (.int .i32 n))
 |[],ns,h=>by simp[CW] at h;subst h;rfl
 |p::c,ns,h=>by
  unfold CW at h;split at h
  ·rename_i e;cases e
  ·rename_i n r e;cases e;cases hr:CW c with
   |none=>rw[hr] at h;cases h
   |some l'=>
    rw[hr] at h;simp at h;subst h;rw[OV hr];rfl
  ·cases h
theorem NY:∀{c:Ae}{l:List UInt8},K4 c=some l->∃ns:Al,c=ns.map (fun n=>.sc (.int .u8 n))/\l=ns.map fun n=>n.toNat.toUInt8
 |[],l,h=>⟨[],rfl,by simp[K4] at h;subst h;rfl⟩
 |p::c,l,h=>by
  unfold K4 at h;split at h
  ·rename_i e;cases e
  ·rename_i n r e;cases e;cases hr:K4 c with
   |none=>rw[hr] at h;cases h
   |some l'=>
    rw[hr] at h;simp at h;obtain⟨ns,rfl,rfl⟩:=NY hr;exact⟨n::ns,rfl,h.symm⟩
  ·cases h
theorem Za:∀(ns:Al)(b:ByteArray),ns.foldl (fun r n=>r.push (UInt8.ofNat n.toNat)) b=⟨b.data++(ns.map fun n=>n.toNat.toUInt8).toArray⟩
 |[],b=>by simp
 |n::ns,b=>by
  simp only[List.foldl_cons];rw[Za ns];simp[ByteArray.push]
theorem RH(h:Cj N w0 X0 Y β s a w){es:Nat}{x:Operand}{K:Nat->Ae->Option R}(hk:Afg (Mh s.hp) es (Cx s.tm x) K=some r):
  ∃n c,K n c=some r/\(((∃ad,a.eval x=.slice ad 0 0)/\n=0/\c=[])\/∃ad cap,a.eval x=.slice (some ad) n cap/\n<=cap/\(c=[]\/ad.block<w.heap.size)/\VV w (Dv s.hp β Y) ad c):=by
 have hx:=D7 h x;have VX:=Gl h x;unfold Afg at hk;split at hk
 ·rename_i id es' off n e;rw[e] at hx VX;cases hb:Nat.beq es' es
  ·rw[hb] at hk;cases hk
  ·rw[hb] at hk;obtain⟨c,hc,hk⟩:=Dd (show D4 _ _=some r from hk);obtain⟨hl,hk⟩:=Aq hk;have hl:=of_decide_eq_true hl;obtain⟨f,Apv⟩:=Ac6 hc;refine⟨_,_,hk,?_⟩;rcases hx with⟨_,rfl,rfl,ad,Ee⟩|⟨b,ob,y,cap,hβ,Ee,hy,hn,_,Ck⟩
   ·exact .inl ⟨⟨ad,Ee⟩,rfl,by simp⟩
   ·refine .inr ⟨_,cap,Ee,hn,.inr Ck,fun j p hj=>?_⟩
    have Ags:0<n*es:=by
     rcases Nat.eq_zero_or_pos (n*es) with h0|h0
     ·rw[h0] at hj;simp at hj
     ·exact h0
    have LH:n≠0:=by rintro rfl;simp at Ags
    have hy:y=ob+off:=by rcases hy with hy|⟨h0,_⟩<;>omega
    subst hy;rw[List.getElem?_take] at hj;split at hj
    ·rw[List.getElem?_drop] at hj;rcases h.box id _ Apv with⟨h1,_⟩|⟨b',o',h1,h2,_⟩
     ·rw[hβ] at h1;cases h1
     ·rw[hβ] at h1;simp at h1;obtain⟨rfl,rfl⟩:=h1
      obtain⟨v,hv,h3,ht⟩:=h2 (off+j) p hj;rw[Ep] at hv;exact⟨v,by rw[Ep,Jc];exact hv,h3,ht⟩
    ·cases hj
 ·obtain⟨z,n,c,hk,hp⟩:=G0 hk;refine⟨n,c,hk,?_⟩;rcases slice_form hp hx with h1|⟨ad,cap,Ee,_,hn,h1,h2,_,h4⟩|⟨ad,cap,Ee,_,rfl,rfl⟩
  ·exact .inl ⟨⟨none,h1.1⟩,h1.2⟩
  ·exact .inr ⟨ad,cap,Ee,hn,.inr h2,h4⟩
  ·exact .inr ⟨ad,cap,Ee,Nat.zero_le _,.inl rfl,fun j c hj=>by simp at hj⟩
theorem Am5(b:ByteArray)(j:Nat)(p:PV)(h:(D3 b)[j]?=some p):∃x,b.data[j]?=some x/\p=.sc (.int .u8 x.toNat):=by
 unfold D3 at h;rw[List.getElem?_map] at h;cases hx:b.data.toList[j]? with
 |none=>rw[hx] at h;cases h
 |some x=>
  rw[hx] at h;simp at h;exact⟨x,by simpa using hx,h.symm⟩
theorem Ait(h:Cj N w0 X0 Y β s a w){src dst:TypeId}{x:Operand}(ho:o.op=.convert src dst x){d:Nat}{K:PV->List (Nat × Cc)->Option R}(hk:SN P (Mh s.hp) d src dst (Cx s.tm x) K=some r):∃v nw,K v nw=some r/\Fh P a w o Y β s v [] nw:=by
 have Ds:∀v w',(convert src dst (a.eval x)).run P w=.ok v w'->(execOp a.eval o).run P w=.ok (.value v) w':=by
  intro v w' hv;unfold execOp;rw[ho];simp[hv]
 unfold SN at hk;split at hk
 ·rename_i k hu;obtain⟨hs,hk⟩:=Aq hk;obtain⟨k',n,hx,hk⟩:=Ei hk;exact⟨_,_,hk,Dk (Ds _ _ (by rw[Da h hx];obtain⟨ds,hds⟩:=Option.isSome_iff_exists.1 hs;cases ds<;>simp[convert,run_underlying hds,run_underlying hu,Conv.intToInt]))⟩
 ·rename_i hu;split at hk
  ·rename_i hs;obtain⟨b,hx,hk⟩:=El hk;exact⟨_,_,hk,Dk (Ds _ _ (by rw[Da h hx];simp[convert,run_underlying hs,run_underlying hu]))⟩
  ·rename_i e hs;split at hk
   ·rename_i he;obtain⟨n,c,hk,hc⟩:=RH h hk;obtain⟨hl,hk⟩:=Aq hk;have hl:=of_decide_eq_true hl;obtain⟨l,hb,hk⟩:=Dd hk;obtain⟨ns,rfl,rfl⟩:=NY hb;refine⟨_,_,hk,Dk (Ds _ _ ?_)⟩;rcases hc with⟨⟨ad,Ee⟩,rfl,hn⟩|⟨ad,cap,Ee,_,_,hrd⟩
    ·have:ns=[]:=by simpa using hn
     subst this;rw[Ee,run_convert_bytes_string w src dst e ad 0 0 hs he hu];cases ad<;>rfl
    ·rw[Ee,run_convert_bytes_string w src dst e _ _ _ hs he hu]
     have hld:(loadCells ad n).run P w=.ok (ns.map (Value.int .u8)).toArray w:=by
      have:=run_loadCells_list (P:=P) w ad (ns.map (Value.int .u8)) (fun j v hj=>by
       rw[List.getElem?_map] at hj;cases hn:ns[j]? with
       |none=>rw[hn] at hj;cases hj
       |some m=>
        rw[hn] at hj;simp at hj;subst hj;obtain⟨v,hv,_,ht⟩:=hrd j (.sc (.int .u8 m)) (by rw[List.getElem?_map,hn];rfl)
        rw[ht.val] at hv;exact hv)
      simp only[List.length_map] at this hl;rw[hl] at this;exact this
     rw[run_bytesToString w ad n cap ns hld,Za];simp
   ·rename_i he;obtain⟨n,c,hk,hc⟩:=RH h hk;obtain⟨hl,hk⟩:=Aq hk;have hl:=of_decide_eq_true hl;obtain⟨ns,hb,Fz⟩:=Dd hk;have Z5:=OV hb;clear hk;subst Z5;refine⟨_,_,Fz,Dk (Ds _ _ ?_)⟩;rcases hc with⟨⟨ad,Ee⟩,GD,hn⟩|⟨ad,cap,Ee,_,_,hrd⟩
    ·have:ns=[]:=by simpa using hn
     subst this;rw[Ee,run_convert_runes_string w src dst e ad _ _ hs he hu];cases ad with
     |none=>rfl
     |some p=>
      have LH:n=0:=by simpa using GD
      subst LH;exact run_runesToString w p 0 0 [] (by simpa using run_loadCells_list (P:=P) w p [] (by simp))
    ·rw[Ee,run_convert_runes_string w src dst e _ _ _ hs he hu]
     have hld:(loadCells ad n).run P w=.ok (ns.map (Value.int .i32)).toArray w:=by
      have:=run_loadCells_list (P:=P) w ad (ns.map (Value.int .i32)) (fun j v hj=>by
       rw[List.getElem?_map] at hj;cases hn:ns[j]? with
       |none=>rw[hn] at hj;cases hj
       |some m=>
        rw[hn] at hj;simp at hj;subst hj;obtain⟨v,hv,_,ht⟩:=hrd j (.sc (.int .i32 m)) (by rw[List.getElem?_map,hn];rfl)
        rw[ht.val] at hv;exact hv)
      simp only[List.length_map] at this hl;rw[hl] at this;exact this
     exact run_runesToString w ad n cap ns hld
   ·cases hk
  ·cases hk
 ·rename_i e hu;split at hk
  ·rename_i he hs;obtain⟨b,hx,hk⟩:=El hk;obtain⟨Km,hk⟩:=Aq hk;have hr:=run_bytes_of_string (P:=P) w src dst e b hs hu he;rw[<-Da h hx] at hr
   have DT:b.size<=grownCap w b.size 0 e:=by
    unfold grownCap;simp[Question.cut]
   have Aeg:(bytesRow b (grownCap w b.size 0 e)).size=grownCap w b.size 0 e:=by
    simp only[bytesRow,Array.size_append,Array.size_map,Array.size_replicate];have:b.data.size=b.size:=rfl;omega
   refine⟨_,_,hk,Wf (c:=bytesRow b (grownCap w b.size 0 e)) (e:=e) (by simp) (Ds _ _ hr) ?_ (fun j p hj=>?_) (.inr ⟨1,b.size,grownCap w b.size 0 e,rfl,rfl,DT,by rw[Aeg];omega,.inl rfl⟩)⟩
   ·exact⟨rfl,rfl,rfl,fun i hi=>Below.heap_alloc w.drew _ i hi,by show (w.heap.push _).size=_;simp,_,by show (w.heap.push _)[w.heap.size]?=_;simp;rfl,.inr (Ci _)⟩
   ·obtain⟨y,hy,rfl⟩:=Am5 b j p hj;refine⟨.int .u8 y.toNat,?_,rfl,Av.sc _⟩
    have Ck:j<b.data.size:=by
     rcases Ig j b.data.size with h|h
     ·exact h
     ·rw[Array.getElem?_eq_none h] at hy;cases hy
    simp only[bytesRow];rw[Array.getElem?_append_left (by simpa using Ck),Array.getElem?_map,hy];rfl
  ·cases hk
 ·cases hk
end
open Go.RowKit
section
variable {R:Type}{r:R}{P:Program}{N:Nat}{w0:World}{X0:F3}{Y:Nat->Prop}{β β':Bt}{s:St}{a:Act}{w w':World}{o:Oper}{A:Nat->Prop}
theorem KF:∀{n:Nat}{l:Ae}{j:Nat}{c:PV},(Tx n l)[j]?=some c->j<n*l.length/\l[j % l.length]?=some c
 |0,l,j,c,h=>by simp[Tx] at h
 |n+1,l,j,c,h=>by
  have e:Tx (n+1) l=l++Tx n l:=by simp[Tx,List.replicate_succ]
  rw[e] at h;by_cases hj:j<l.length
  ·rw[List.getElem?_append_left hj] at h;refine⟨by rw[Nat.add_mul];omega,?_⟩
   rw[Nat.mod_eq_of_lt hj];exact h
  ·rw[List.getElem?_append_right (by omega)] at h;obtain⟨h1,h2⟩:=KF h;refine⟨by rw[Nat.add_mul];omega,?_⟩
   rw[Nat.mod_eq_sub_mod (by omega)];exact h2
theorem Ae4(n:Nat)(l:Ae):(Tx n l).length=n*l.length:=by
 induction n with
 |zero=>simp[Tx]
 |succ n ih=>
  have e:Tx (n+1) l=l++Tx n l:=by simp[Tx,List.replicate_succ]
  rw[e,Wy,ih,Nat.add_mul];omega
theorem Agx{z:Array Value}{n j:Nat}(hj:j<n){v:Value}(hv:z[j % z.size]?=some v):(madeCells z n)[j]?=some v:=by unfold madeCells;rw[Array.getElem?_map,Array.getElem?_range,Cr hj];simp only[Option.map_some];rw[getElem!_def,hv]
theorem Ajh(h:Cj N w0 X0 Y β s a w){t:TypeId}{x y:Operand}(ho:o.op=.makeSlice t x y){d:Nat}{K:PV->B9->List (Nat × Cc)->Option R}(hk:(match P.underlying t with
   |some (.slice e)=>Et (Cx s.tm x) fun _ n=>Et (Cx s.tm y) fun _ m=>
     As (decide (0<=n)&&decide (n<=m)&&decide (m*((P.info? e).map (·.bytes)).getD 0<=1099511627776)&&decide (m<=1099511627776))
      (I0 P e fun z=>K (.view d (Bp P e) 0 n.toNat) [] [(d,.ar false (Tx n.toNat z))])
   |_=>none)=some r):∃v fz nw,K v fz nw=some r/\Fh P a w o Y β s v fz nw:=by
 split at hk
 ·rename_i e hu;obtain⟨k1,n,hx,hk⟩:=Ei hk;obtain⟨k2,m,hy,hk⟩:=Ei hk;obtain⟨hb,hk⟩:=Aq hk;simp only[Fc,GF] at hb;obtain⟨⟨⟨h0,QS⟩,AR⟩,hm⟩:=hb;obtain⟨z,cs,hk,hz,hct,hl,Km,hc⟩:=Uf hk
  have hzc:∃i,P.info? e=some i/\i.zero=some z:=by
   unfold Vk at hz;cases hi:P.info? e with
   |none=>rw[hi] at hz;cases hz
   |some i=>rw[hi] at hz;exact⟨i,rfl,hz⟩
  obtain⟨i,hi,hzi⟩:=hzc;have Bb1:Bp P e=i.size:=by simp[Bp,hi]
  simp only[hi,Option.map_some,Option.getD_some] at AR;have hr:=run_make (P:=P) w t e i z hu hi hzi k1 k2 n m h0 QS (by rw[Int.mul_comm];omega) (by omega)
  have Ds:(execOp a.eval o).run P w=.ok (.value (.slice (some ⟨w.heap.size,0,none⟩) n.toNat m.toNat)) (w.alloc (.cells (madeCells z.cells (m.toNat*i.size)) e)):=by
   unfold execOp;rw[ho];simp[Da h hx,Da h hy,hr]
  have hzl:z.cells.size=Bp P e:=by
   have:z.cells.toList.length=z.cells.size:=by simp
   omega
  refine⟨_,_,_,hk,Wf (c:=madeCells z.cells (m.toNat*i.size)) (e:=e) (by simp) Ds (Gx.alloc w _ e) (fun j p hj=>?_) (.inr ⟨Bp P e,n.toNat,m.toNat,rfl,rfl,by omega,by rw[size_madeCells,Bb1];exact Ci _,.inr (Oa w _ e)⟩)⟩
  obtain⟨h1,h2⟩:=KF hj;obtain⟨hT,u,Mc,h1',hv⟩:=hc _ p h2;refine⟨u,Agx ?_ ?_,h1',hv _ _⟩
  ·have:n.toNat*cs.length<=m.toNat*i.size:=by
    rw[Km,Bb1];exact Nat.mul_le_mul_right _ (by omega)
   omega
  ·rw[hzl,<-Km]
   simpa using Mc
 ·cases hk
theorem Apx{p:PV}{v:Value}(hp:okP p=true)(hv:Ex w A β p v):Bx (Cm w A β) (cellsOf p) v.cells.toList:=by
 have one:v.oneCell'=true->Cm w A β p v->(∀x,p ≠ .agg x)->Bx (Cm w A β) (cellsOf p) v.cells.toList:=by
  intro h1 h2 h3;have:cellsOf p=[p]:=by cases p<;>first|rfl|exact absurd rfl (h3 _)
  rw[this,Rz h1];exact⟨h2,trivial⟩
 unfold okP at hp;split at hp
 ·obtain⟨vs,rfl,h2⟩:=hv;exact h2
 ·refine one ?_ hv (by simp);have Uk:Av w A _ v:=hv;cases Uk<;>rfl
 ·refine one ?_ hv (by simp);rcases hv with⟨_,_,_,_,rfl⟩|⟨_,_,_,_,_,rfl,_⟩<;>rfl
 ·have:=Vi hv;subst this;exact one rfl hv (by simp)
 ·have:=Vi hv;subst this;exact one rfl hv (by simp)
 ·have:=Vi hv;subst this;exact one rfl hv (by simp)
 ·have:=Vi hv;subst this;exact one rfl hv (by simp)
 ·cases hp
theorem Aly:∀(vs:List Value)(k off:Nat)(cells:Array Value),off+k+vs.length<=cells.size ->
  ((vs.zipIdx k).foldl (fun cs (q:Value × Nat)=>cs.setIfInBounds (off+q.2) q.1) cells).toList=cells.toList.take (off+k)++vs++cells.toList.drop (off+k+vs.length)
 |[],k,off,cells,_=>by simp
 |v::vs,k,off,cells,h=>by
  simp only[List.zipIdx_cons,List.foldl_cons,Tm] at h ⊢;rw[Aly vs (k+1) off _ (by simp;omega)]
  have Ck:off+k<cells.toList.length:=by simp;omega
  simp only[Array.toList_setIfInBounds];rw[show off+(k+1)=off+k+1 from by omega,List.take_succ_eq_append_getElem (by simpa using Ck)];rw[List.getElem_set_self,List.take_set_of_le (Ci _),List.drop_set_of_lt (by omega)];simp only[Zzv,Zzp,VW];rw[show off+k+1+vs.length=off+k+(vs.length+1) from by omega]
theorem RT(h:Cj N w0 X0 Y β s a w){Ik:Nat->Option (Nat × Nat)}:∀{parts:List (Nat × Operand)} {pc:Ae}{vc:Array Value}{K:Ae->Option R},
  BE Ik (parts.map fun q=>(q.1,Cx s.tm q.2)) pc K=some r->Bx (Cm w (Dv s.hp β Y) β) pc vc.toList->(∀c∈pc,∀id∈Au c,s.hp id≠none) ->
  ∃pc' vc',K pc'=some r/\Instr.fill Ik vc (parts.map fun q=>(q.1,a.eval q.2))=some vc'/\Bx (Cm w (Dv s.hp β Y) β) pc' vc'.toList/\pc'.length=pc.length/\∀c∈pc',∀id∈Au c,s.hp id≠none
 |[],pc,vc,K,hk,hv,hr=>⟨pc,vc,hk,rfl,hv,rfl,hr⟩
 |(i,x)::parts,pc,vc,K,hk,hv,hr=>by
  simp only[X4] at hk;unfold BE at hk;obtain⟨⟨off,size⟩,Xl,hk⟩:=Dd hk;obtain⟨hb,hk⟩:=Aq hk;simp only[Fc] at hb;obtain⟨⟨hok,Km⟩,Zi⟩:=hb;have Km:(cellsOf (Cx s.tm x)).length=size:=Dx Km;have Zi:off+size<=pc.length:=R5 Zi;have hxc:=Apx hok (D7 h x);have hxl:=hxc.len;have IP:=hv.len;have Ma:vc.toList.length=vc.size:=by simp
  have Z5:(a.eval x).cells.toList.length=(a.eval x).cells.size:=by simp
  have Adv:=Aly (a.eval x).cells.toList 0 off vc (by omega);simp only[ZW] at Adv
  have A78:((a.eval x).cells.zipIdx.foldl (fun cs (q:Value × Nat)=>cs.setIfInBounds (off+q.2) q.1) vc).toList=vc.toList.take off++(a.eval x).cells.toList++vc.toList.drop (off+(a.eval x).cells.toList.length):=by
   rw[<-Adv,<-Array.foldl_toList];simp
  obtain⟨pc',vc',hk,hf,h2,hl,hr'⟩:=RT h (pc:=B6 pc (cellsOf (Cx s.tm x)) off) (vc:=(a.eval x).cells.zipIdx.foldl (fun cs (q:Value × Nat)=>cs.setIfInBounds (off+q.2) q.1) vc) hk (by
    rw[A78,<-hxl];exact (((hv.take off).app hxc).app (hv.drop _))) (by
    intro c hc id B4;unfold B6 at hc;rcases B5.1 hc with hc|hc
    ·rcases B5.1 hc with hc|hc
     ·exact hr c (List.mem_of_mem_take hc) id B4
     ·refine Gl h x id ?_;cases hp:Cx s.tm x with
      |agg cs=>rw[hp] at hc;exact List.mem_flatMap.2 ⟨c,hc,B4⟩
      |tup cs=>rw[hp] at hc;simp[cellsOf] at hc;subst hc;cases B4
      |_=>rw[hp] at hc;simp[cellsOf] at hc;subst hc;exact B4
    ·exact hr c (List.mem_of_mem_drop hc) id B4)
  refine⟨pc',vc',hk,?_,h2,?_,hr'⟩
  ·simp only[X4,Instr.fill,Xl];rw[B3 (by simp;omega)]
   exact hf
  ·rw[hl];simp[B6];omega
theorem Aff{t:TypeId}{z:Value}{cs:Ae}(hl:cs.length=z.cells.toList.length)(hc:∀(j:Nat) c,cs[j]?=some c->FE c/\∃u,z.cells.toList[j]?=some u/\u.oneCell'=true/\∀(w:World)(A:Nat->Prop),Av w A c u)(_ht:Vk P t=some z):
  Bx (Cm w A β) cs z.cells.toList/\∀c∈cs,Au c=[]:=by
 refine⟨Bx.of_at hl fun i c u hci hu=>?_,fun c hcm=>?_⟩
 ·obtain⟨hT,u',Mc,_,hv⟩:=hc i c hci;rw[hu] at Mc;cases Mc;exact (Qa hT).2 (hv _ _)
 ·obtain⟨j,hj⟩:=List.mem_iff_getElem?.1 hcm;exact J2 (hc j c hj).1
theorem VN:∀{fs:List Field},(fs.all fun f=>VG P f.type)=true->fs.mapM (fun f=>(P.info? f.type).map fun i=>(f.offset,i.size))=some (fs.map fun f=>(f.offset,Bp P f.type))
 |[],_=>rfl
 |f::fs,h=>by
  simp only[List.all_cons,Fc] at h;obtain⟨i,hi⟩:=Option.isSome_iff_exists.1 h.1;simp[List.mapM_cons,hi,VN h.2,Bp]
theorem GH{p q:Nat->Option (Nat × Nat)}(h:∀i,p i=q i)(cells:Array Value)(parts:List (Nat × Value)):Instr.fill p cells parts=Instr.fill q cells parts:=by have:p=q:=funext h;rw[this]
theorem Afm(h:Cj N w0 X0 Y β s a w){t:TypeId}{ps:Array (Nat × Operand)}(ho:o.op=.build t ps){K:PV->Option R}(hk:(As (Wu P t&&C5 P t)<|I0 P t fun z=>BE (Ym P t) (ps.toList.map fun q=>(q.1,Cx s.tm q.2)) z fun cs=>Tu (Kn P t) cs 0 fun cs'=>K (.agg cs'))=some r):∃v,K v=some r/\Fh P a w o Y β s v [] []:=by
 obtain⟨Xl,hk⟩:=Aq hk;simp only[Fc] at Xl;obtain⟨Xl,Hs⟩:=Xl;obtain⟨z,cs,hk,hz,hct,hl,Km,hc⟩:=Uf hk;obtain⟨hzr,TB⟩:=Aff (w:=w) (A:=Dv s.hp β Y) (β:=β) hl hc hz;obtain⟨pc',vc',hk,hf,h2,Oo,hr'⟩:=RT h hk hzr (fun c hcm id B4=>by rw[TB c hcm] at B4;cases B4)
 obtain⟨qs,hk,hql,LM,hq⟩:=BI hk
 have A5f:P.built t (ps.toList.map fun q=>(q.1,a.eval q.2))=some vc':=by
  have hzi:∃i,P.info? t=some i/\i.zero=some z:=by
   unfold Vk at hz;cases hi:P.info? t with
   |none=>rw[hi] at hz;cases hz
   |some i=>rw[hi] at hz;exact⟨i,rfl,hz⟩
  obtain⟨i,hi,hzi⟩:=hzi;unfold Wu at Xl;unfold Program.built;split at Xl
  ·rename_i fs hu
   have hf':Instr.fill (((fs.toList.map fun f=>(f.offset,Bp P f.type)).toArray)[·]?) z.cells (ps.toList.map fun q=>(q.1,a.eval q.2))=some vc':=by
    rw[<-hf];refine GH (fun j=>?_) _ _;simp[Ym,hu]
   simp only[hi,hu,hzi,VN Xl];exact hf'
  ·rename_i n e hu;obtain⟨ie,hie⟩:=Option.isSome_iff_exists.1 Xl
   have hf':Instr.fill (fun j=>some (j*ie.size,ie.size)) z.cells (ps.toList.map fun q=>(q.1,a.eval q.2))=some vc':=by
    rw[<-hf];refine GH (fun j=>?_) _ _;simp[Ym,hu,Bp,hie]
   simp only[hi,hu,hzi,hie];exact hf'
  ·rename_i e hu;simp[C5,hu] at Hs
  ·cases Xl
 refine⟨_,hk,C6 (val:=.agg vc') ?_ ⟨vc'.toList,rfl,?_⟩ ?_⟩
 ·unfold execOp;rw[ho];have:=run_build (P:=P) w t (ps.map fun q=>(q.1,a.eval q.2)) vc' (by simpa using A5f);simp[this]
 ·refine Bx.of_at (by have:=h2.len;omega) fun j c u hcj hu=>?_
  obtain⟨p,hp,_,_,MU⟩:=hq j c hcj;rw[Ie] at hp;exact (MU _ _ _ _ (h2.at_ hp hu)).1
 ·intro id B4;obtain⟨c,hcm,B4⟩:=List.mem_flatMap.1 (show id∈qs.flatMap Au from B4);obtain⟨j,hj⟩:=List.mem_iff_getElem?.1 hcm;obtain⟨p,hp,_,hpr,_⟩:=hq j c hj;rw[Ie] at hp;exact hr' p (List.mem_of_getElem? hp) id (hpr id B4)
end
open Go.RowKit
section
variable {R:Type}{r:R}{P:Program}{N:Nat}{w0:World}{X0:F3}{Y:Nat->Prop}{β β':Bt}{s:St}{a:Act}{w w':World}{o:Oper}{A:Nat->Prop}
theorem Aj7(h:Cj N w0 X0 Y β s a w){fz:B9}(Y5:∀id∈fz,∃f c,s.hp id=some (.ar f c)){id:Nat}(hm:id∈fz){f:Bool}{c:Ae}(hb:s.hp id=some (.ar f c)){b ob:Nat}(hβ:β id=some (b,ob)):
  ¬Dv (Ah s.hp fz) β Y b/\VV w (Dv (Ah s.hp fz) β Y) ⟨b,ob,none⟩ c/\b<w.heap.size:=by
 have hf:=h.freeze Y5;have he:Ah s.hp fz id=some (.ar true c):=by rw[Cu,Cr hm,hb];rfl
 rcases hf.box id _ he with⟨h1,_⟩|⟨b',o',h1,h2,_,h4⟩
 ·rw[hβ] at h1;cases h1
 ·rw[hβ] at h1;simp at h1;obtain⟨rfl,rfl⟩:=h1;exact⟨h4 rfl,h2,h.blt id b ob (by rw[hb];simp) hβ⟩
theorem Apy(h:Cj N w0 X0 Y β s a w){fz:B9}(Y5:∀id∈fz,∃f c,s.hp id=some (.ar f c)){id es off n:Nat}(hm:id∈fz){f:Bool}{c:Ae}(hb:s.hp id=some (.ar f c)){v:Value}(hv:Cm w (Dv s.hp β Y) β (.view id es off n) v):Av w (Dv (Ah s.hp fz) β Y) (.lst false es n ((c.drop off).take (n*es))) v:=by
 rcases hv with⟨_,rfl,rfl,ad,rfl⟩|⟨b,ob,y,cap,hβ,rfl,hy,hn,_,Ck⟩
 ·simp only[Nat.zero_mul,List.take_zero];cases ad with
  |none=>exact Av.lnil false es
  |some p=>exact Av.lemp es p 0
 ·obtain⟨h1,h2,_⟩:=Aj7 h Y5 hm hb hβ;by_cases LH:n*es=0
  ·rw[LH,List.take_zero];exact Av.lst es n [] ⟨b,y,none⟩ cap (fun _=>undef) rfl Ck h1 hn (by simp) (by simp) (by simp)
  ·have hy:y=ob+off:=by
    rcases hy with hy|⟨h0,_⟩
    ·exact hy
    ·rw[h0] at LH;simp at LH
   subst hy
   have Ev:∀(j:Nat) q,((c.drop off).take (n*es))[j]?=some q->c[off+j]?=some q:=by
    intro j q hq;rw[List.getElem?_take] at hq;split at hq
    ·rw[List.getElem?_drop] at hq;exact hq
    ·cases hq
   refine Av.lst es n _ ⟨b,ob+off,none⟩ cap (fun j=>(w.cell? ⟨b,ob+off+j,none⟩).getD undef) rfl Ck h1 hn (fun j q hq=>?_) (fun j q hq=>?_) (fun j q hq=>?_)
   ·obtain⟨v,hv,_⟩:=h2 _ q (Ev j q hq);rw[Ep,<-Jc] at hv;rw[Ep,hv];rfl
   ·obtain⟨v,hv,h3,_⟩:=h2 _ q (Ev j q hq);rw[Ep,<-Jc] at hv;rw[hv];exact h3
   ·obtain⟨v,hv,_,ht⟩:=h2 _ q (Ev j q hq);rw[Ep,<-Jc] at hv;rw[hv];exact ht
theorem Av.zf{A:Nat->Prop}{z:Bool}{es n:Nat}{c:Ae}{v:Value}(h:Av w A (.lst z es n c) v):Av w A (.lst false es n c) v:=by
 cases h with
 |lnil=>exact .lnil _ _
 |lemp=>exact .lemp _ _ _
 |lst _ _ _ a cap f hs hb hA hn hc h1 hr=>exact .lst _ _ _ a cap f hs hb hA hn hc h1 hr
theorem UT(h:Cj N w0 X0 Y β s a w){t:CT}{p:PV}{K:PV->B9->Option R}(hk:Tr (Mh s.hp) t p K=some r):
  ∃c m,K c m=some r/\FE c/\XG p/\(∀id∈m,∃f cc,s.hp id=some (.ar f cc))/\∀fz:B9,(∀id∈m,id∈fz)->(∀id∈fz,∃f cc,s.hp id=some (.ar f cc))->∀v,Cm w (Dv s.hp β Y) β p v->Av w (Dv (Ah s.hp fz) β Y) c v/\v.oneCell'=true:=by
 have tree:∀t',(MB t' p fun c=>K c [])=some r->∃c m,K c m=some r/\FE c/\XG p/\(∀id∈m,∃f cc,s.hp id=some (.ar f cc))/\∀fz:B9,(∀id∈m,id∈fz)->(∀id∈fz,∃f cc,s.hp id=some (.ar f cc))->∀v,Cm w (Dv s.hp β Y) β p v->Av w (Dv (Ah s.hp fz) β Y) c v/\v.oneCell'=true:=by
  intro t' hk;obtain⟨c,hk,hT,RN,hv⟩:=Rb hk;refine⟨c,[],hk,hT,Yl RN,by simp,fun fz _ Y5 v MU=>?_⟩;obtain⟨h1,h2⟩:=hv _ _ _ _ MU;exact⟨h1.step (Cw.refl _ _) (fun b _ hb=>hb.imp Vz id),h2⟩
 cases t with
 |sl es=>
  unfold Tr at hk;dsimp only at hk;split at hk
  ·rename_i id es' off n;cases hb:Nat.beq es' es
   ·rw[hb] at hk;cases hk
   ·rw[hb] at hk;have:=Dx hb;subst this;obtain⟨c,hc,hk⟩:=Dd (show D4 _ _=some r from hk);obtain⟨_,hk⟩:=Aq hk;obtain⟨f,Mz⟩:=Ac6 hc;refine⟨_,[id],hk,trivial,trivial,?_,fun fz hm Y5 v hv=>⟨Apy h Y5 (hm id (by simp)) Mz hv,?_⟩⟩
    ·intro i hi;simp at hi;subst hi;exact⟨f,c,Mz⟩
    ·rcases hv with⟨_,_,_,_,rfl⟩|⟨_,_,_,_,_,rfl,_⟩<;>rfl
  ·obtain⟨z,n,c,hk,hp⟩:=G0 hk;refine⟨_,[],hk,trivial,?_,by simp,fun fz _ Y5 v MU=>?_⟩
   ·rcases hp with rfl|⟨rfl,_⟩<;>trivial
   ·have ht:=FH hp MU;refine⟨Av.zf (ht.step (Cw.refl _ _) (fun b _ hb=>hb.imp Vz id)),?_⟩;cases ht<;>rfl
 |int k=>exact tree (.int k) hk
 |bool=>exact tree .bool hk
 |str=>exact tree .str hk
 |any=>exact tree .any hk
theorem Wp(h:Cj N w0 X0 Y β s a w):∀{ts:List CT}{ps:Ae}{K:Ae->B9->Option R},Sl (Mh s.hp) ts ps K=some r ->
  ∃cs m,K cs m=some r/\cs.length=ts.length/\ps.length=ts.length/\(∀c∈cs,FE c)/\(∀p∈ps,XG p)/\(∀id∈m,∃f cc,s.hp id=some (.ar f cc)) /\
   ∀fz:B9,(∀id∈m,id∈fz)->(∀id∈fz,∃f cc,s.hp id=some (.ar f cc))->∀vs,Bx (Cm w (Dv s.hp β Y) β) ps vs->Bx (Av w (Dv (Ah s.hp fz) β Y)) cs vs/\∀v∈vs,v.oneCell'=true
 |[],[],K,hk=>⟨[],[],hk,rfl,rfl,by simp,by simp,by simp,fun fz _ _ vs hv=>by
   cases vs with
   |nil=>exact⟨trivial,by simp⟩
   |cons v vs=>exact hv.elim⟩
 |[],_::_,K,hk=>by cases hk
 |_::_,[],K,hk=>by cases hk
 |t::ts,p::ps,K,hk=>by
  unfold Sl at hk;obtain⟨c,m,hk,hT,hF,hm,hv⟩:=UT h hk;obtain⟨cs,ms,hk,hl,Oo,hTs,hFs,RZ,Ma⟩:=Wp h hk;refine⟨c::cs,m++ms,hk,by simp[hl],by simp[Oo],?_,?_,?_,fun fz hfm Y5 vs h2=>?_⟩
  ·intro x hx;rcases Ch.1 hx with rfl|hx
   ·exact hT
   ·exact hTs x hx
  ·intro x hx;rcases Ch.1 hx with rfl|hx
   ·exact hF
   ·exact hFs x hx
  ·intro x hx;rcases B5.1 hx with hx|hx
   ·exact hm x hx
   ·exact RZ x hx
  ·cases vs with
   |nil=>exact h2.elim
   |cons v vs=>
    obtain⟨h3,h4⟩:=hv fz (fun i hi=>hfm i (by simp[hi])) Y5 v h2.1;obtain⟨h5,h6⟩:=Ma fz (fun i hi=>hfm i (by simp[hi])) Y5 vs h2.2;refine⟨⟨h3,h5⟩,?_⟩;intro x hx;rcases Ch.1 hx with rfl|hx
    ·exact h4
    ·exact h6 x hx
theorem Anr{R':PV->Value->Prop}{cs:Ae}{z:Array Value}(h:Bx R' cs z.toList)(n:Nat):Bx R' (Tx n cs) (madeCells z (n*cs.length)).toList:=by
 have hzl:z.size=cs.length:=by have:=h.len;simp at this;exact this.symm
 refine Bx.of_at ?_ fun j c v hc hv=>?_
 ·rw[Ae4];simp[size_madeCells]
 ·obtain⟨h1,h2⟩:=KF hc
  have Ck:j % cs.length<cs.length:=by
   rcases Ig (j % cs.length) cs.length with h|h
   ·exact h
   ·rw[List.getElem?_eq_none h] at h2;cases h2
  obtain⟨u,hu,hcu⟩:=h.get h2;have:(madeCells z (n*cs.length))[j]?=some u:=Agx h1 (by rw[hzl];simpa using hu)
  have Uk:(madeCells z (n*cs.length))[j]?=some v:=by simpa using hv
  rw[this] at Uk;cases Uk;exact hcu
theorem Aaf{A':Nat->Prop}:∀{ps cs:Ae}{vs:List Value},Bx (Cm w (Dv s.hp β Y) β) ps vs->Bx (Av w A') cs vs->Bx (Av w A') (Afv true ps cs) vs
 |[],_,_,_,h=>h
 |_::_,[],_,_,h=>h
 |p::ps,c::cs,[],_,h=>h.elim
 |p::ps,c::cs,v::vs,hp,h=>by
  refine⟨?_,Aaf hp.2 h.2⟩;split
  ·have h1:Av w (Dv s.hp β Y) (.lst true _ 0 []) v:=hp.1;cases h1;exact .lnil true _
  ·exact h.1
theorem MW(h:Cj N w0 X0 Y β s a w){nz:Bool}{t:TypeId}{n:Nat}{ps:Array (Nat × Operand)}(ho:o.op=.buildSlice t n ps){d:Nat}{K:PV->B9->List (Nat × Cc)->Option R}(hk:(match P.underlying t with
   |some (.slice e)=>As (Wu P t&&Nat.ble (n*Bp P e) 16777216) (I0 P e fun z=>BE (Ym P t) (ps.toList.map fun q=>(q.1,Cx s.tm q.2)) (Tx n z) fun cs=>
     Sl (Mh s.hp) (List.replicate n (Kn P e)).flatten cs fun cs' m=>K (.view d (Bp P e) 0 n) m [(d,.ar false (bif nz then Afv true cs cs' else cs'))])
   |_=>none)=some r):∃v fz nw,K v fz nw=some r/\Fh P a w o Y β s v fz nw:=by
 split at hk
 ·rename_i e hu;obtain⟨hb,hk⟩:=Aq hk;simp only[Fc] at hb;have Zi:n*Bp P e<=16777216:=R5 hb.2;have Vp:(P.info? e).isSome=true:=by have:=hb.1;unfold Wu at this;rw[hu] at this;exact this
  obtain⟨z,cs,hk,hz,hct,hl,Km,hc⟩:=Uf hk;obtain⟨hzr,TB⟩:=Aff (w:=w) (A:=Dv s.hp β Y) (β:=β) hl hc hz;have Bl2:=Anr hzr n
  obtain⟨pc',vc',hk,hf,h2,Oo,hr'⟩:=RT h hk Bl2 (fun c hcm id B4=>by
   obtain⟨j,hj⟩:=List.mem_iff_getElem?.1 hcm;obtain⟨_,hg⟩:=KF hj;rw[TB c (List.mem_of_getElem? hg)] at B4;cases B4)
  obtain⟨qs,m,hk,hql,Xl,hqT,_,hm,hqv⟩:=Wp h hk;obtain⟨h3,h3'⟩:=hqv m (fun _ hi=>hi) hm _ h2
  have h3:Bx (Av w (Dv (Ah s.hp m) β Y)) (bif nz then Afv true pc' qs else qs) vc'.toList:=by
   cases nz
   ·exact h3
   ·exact Aaf h2 h3
  have hf':Instr.fill (fun i=>some (i*Bp P e,Bp P e)) (madeCells z.cells (n*cs.length)) (ps.toList.map fun q=>(q.1,a.eval q.2))=some vc':=by
   rw[<-hf];refine GH (fun i=>?_) _ _;simp[Ym,hu]
  have IP:vc'.size=n*Bp P e:=by
   have h4:=h2.len;rw[Oo,Ae4] at h4;simp at h4;rw[<-h4,Km]
  have Ds:(execOp a.eval o).run P w=.ok (.value (.slice (some ⟨w.heap.size,0,none⟩) n n)) (w.alloc (.cells vc' e)):=by
   unfold execOp;rw[ho];have Bct:¬(n*Bp P e>2 ^ 24):=by omega
   rw[Km] at hf';by_cases LH:n*Bp P e=0
   ·simp only[Instr.buildSlice,Sem.run_bind,run_underlying hu,Result.andThen_ok,Dy Vp,B3 Bct,LH];rw[LH] at hf';have e0:madeCells z.cells 0=(Array.range 0).map (fun _=>default):=by simp[madeCells]
    rw[e0] at hf';simp[hf',newRow]
   ·simp only[Instr.buildSlice,Sem.run_bind,run_underlying hu,Result.andThen_ok,Dy Vp,B3 Bct,B3 LH,FC hz];unfold madeCells at hf';simp[hf',newRow]
  refine⟨_,_,_,hk,Wf (c:=vc') (e:=e) hm Ds (Gx.alloc w vc' e) (fun j p hj=>?_) (.inr ⟨Bp P e,n,n,rfl,rfl,Ci _,by rw[IP];exact Ci _,.inr (Oa w vc' e)⟩)⟩
  obtain⟨u,Mc,hp⟩:=h3.get hj;exact⟨u,by simpa using Mc,h3' u (List.mem_of_getElem? Mc),hp⟩
 ·cases hk
theorem Ab3(h:Cj N w0 X0 Y β s a w){t:TypeId}{x k:Operand}{ok:Bool}(ho:o.op=.lookup t x k ok){K:PV->Option R}(hk:(match P.underlying t with
   |some (.map kt vt)=>As (match P.underlying kt with|some .string=>true|_=>false) (
    match Cx s.tm x with
    |.sc (.map none)=>Bd (Cx s.tm k) fun _=>D4 (Vk P vt) fun z=>cvK P vt z fun v=>As (match v with | .tup _=>false|_=>true) (K (bif ok then .tup [v,.sc (.bool false)] else v))
    |_=>none)
   |_=>none)=some r):∃v,K v=some r/\Fh P a w o Y β s v [] []:=by
 split at hk
 ·rename_i kt vt hu;obtain⟨hkt,hk⟩:=Aq hk
  have hkt:P.underlying kt=some .string:=by
   split at hkt
   ·assumption
   ·cases hkt
  split at hk
  ·rename_i hx;obtain⟨b,hkk,hk⟩:=El hk;obtain⟨z,hz,hk⟩:=Dd hk;obtain⟨v,hk,hr,hv⟩:=Akh hk;obtain⟨hnt,hk⟩:=Aq hk
   have hnt:∀cs,v ≠ .tup cs:=by
    rintro cs rfl
    cases hnt
   have hzr:∀w:World,(zeroValue vt).run P w=.ok z w:=by
    intro w;unfold Vk at hz;cases hi:P.info? vt with
    |none=>rw[hi] at hz;cases hz
    |some i=>
     rw[hi] at hz;simp[zeroValue,typeInfo,hi,show i.zero=some z from hz]
   have Ds:(execOp a.eval o).run P w=.ok (.value (if ok then .tuple #[z,.bool false] else z)) w:=by
    unfold execOp;rw[ho];have hck:∀c (n:Nat),(Instr.checkKey c (n+1) kt (.string b)).run P w=.ok () w:=fun c n=>by simp[Instr.checkKey,run_underlying hkt]
    have DZ:∀c,(Instr.checkKey c 10000 kt (.string b)).run P w=.ok () w:=fun c=>hck c 9999;cases ok<;>simp[Instr.lookup,run_underlying hu,Da h hx,Da h hkk,DZ,Instr.findKey,Instr.findNow,run_underlying hkt,hzr]
   refine⟨_,hk,C6 Ds ?_ ?_⟩
   ·cases ok
    ·exact hv _ _ _
    ·refine⟨[z,.bool false],rfl,(Oy hnt).1 (hv _ _ _),?_,trivial⟩;exact Av.sc _
   ·cases ok
    ·intro id B4;simp only[cond_false] at B4;rw[hr] at B4;cases B4
    ·intro id B4;have:Cd (.tup [v,.sc (.bool false)])=Ct v++[]:=by simp[Cd,Ct,Au]
     simp only[cond_true] at B4;rw[this,List.append_nil] at B4;have e:Ct v=Cd v:=by cases v<;>first|rfl|exact absurd rfl (hnt _)
     rw[e,hr] at B4;cases B4
  ·cases hk
 ·cases hk
end
end
end
end Go.Proofs.YtohcncipgljdkaaGreatDoor.Pv
