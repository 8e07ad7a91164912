/-
  The proof of DataParses, part 1.
-/
import Derived.Orders
import Derived.LoopN
import Derived.Below
import Derived.Laws.Cover4
import Derived.Lib.ValidU
import Derived.Lib.Bytealg
import Derived.IntWalk
import Derived.WalkKit
import Derived.WalkLawsBesides
import Derived.Laws.IdiomStrings
import Derived.Laws.MakeOwn
import Derived.Laws.Tables
set_option linter.unusedSimpArgs false
set_option linter.unusedVariables false
namespace Go.Proofs.YtkopiepmdppifaaGreatDoor.Pv
set_option maxRecDepth 1000000
noncomputable section
theorem E1:type_of% @Bool.not_true:=@Bool.not_true
theorem F9:type_of% @Bool.not_false:=@Bool.not_false
theorem KJ:type_of% @Nat.mul_one:=@Nat.mul_one
theorem Ob:type_of% @Nat.zero_add:=@Nat.zero_add
theorem SL:type_of% @List.drop_zero.{0}:=@List.drop_zero
theorem FF:type_of% @List.take_of_length_le.{0}:=@List.take_of_length_le
theorem LG:type_of% @List.length_append.{0}:=@List.length_append
theorem Zzh:type_of% @List.length_nil.{0}:=@List.length_nil
theorem Ub:type_of% @List.length_cons.{0}:=@List.length_cons
theorem Kc:type_of% @Int.toNat_natCast:=@Int.toNat_natCast
theorem Bg:type_of% @if_neg.{1}:=@if_neg
theorem Bq:type_of% @if_pos.{1}:=@if_pos
theorem QD:type_of% @Bool.true_and:=@Bool.true_and
theorem Zzn:type_of% @Bool.and_true:=@Bool.and_true
theorem WM:type_of% @List.cons_append.{0}:=@List.cons_append
theorem Zzq:type_of% @List.nil_append.{0}:=@List.nil_append
theorem KT:type_of% @Nat.add_zero:=@Nat.add_zero
theorem CS:type_of% @Bool.false_and:=@Bool.false_and
theorem Zzt:type_of% @Bool.and_false:=@Bool.and_false
theorem Zzv:type_of% @List.append_assoc.{0}:=@List.append_assoc
theorem Xy:type_of% @List.map_cons.{0,0}:=@List.map_cons
theorem Fb:type_of% @Bool.and_eq_true:=@Bool.and_eq_true
theorem AM:type_of% @decide_eq_true_eq:=@decide_eq_true_eq
theorem D9:type_of% @Nat.eq_of_beq_eq_true:=@Nat.eq_of_beq_eq_true
theorem Bu:type_of% @List.mem_append.{0}:=@List.mem_append
theorem Kg:type_of% @List.flatMap_cons.{0,0}:=@List.flatMap_cons
theorem Qw:type_of% @List.mem_singleton_self.{0}:=@List.mem_singleton_self
theorem Gy:type_of% @Nat.lt_of_lt_of_le:=@Nat.lt_of_lt_of_le
theorem Su:type_of% @List.mem_cons_of_mem.{0}:=@List.mem_cons_of_mem
theorem Rc:type_of% @Nat.le_of_ble_eq_true:=@Nat.le_of_ble_eq_true
theorem Ht:type_of% @Nat.lt_or_ge:=@Nat.lt_or_ge
theorem P7:type_of% @List.mem_singleton.{0}:=@List.mem_singleton
theorem Cc:type_of% @Nat.le_refl:=@Nat.le_refl
theorem Mu:type_of% @Nat.add_assoc:=@Nat.add_assoc
theorem Pz:type_of% @Nat.beq_refl:=@Nat.beq_refl
theorem Yd:type_of% @List.mem_cons_self.{0}:=@List.mem_cons_self
inductive PV where
 |sc (v:Value)
 |lst (z:Bool) (es n:Nat) (cells:List PV)
 |own (es n:Nat) (cells:List PV)
 |view (id es off n:Nat)
 |ptr (id off:Nat)
 |iptr (cells:List PV) (off:Nat)
 |pbox (cells:List PV)
 |agg (cells:List PV)
 |tup (vs:List PV)
 |top
 |ub
abbrev Al:=List PV
abbrev Am:=List Int
abbrev B8:=List Nat
inductive Cd where
 |st (cells:Al)
 |ar (fz:Bool) (cells:Al)
 |mv
structure St where
 tm:Nat->PV
 hp:Nat->Option Cd
structure Bz where
 vals:Al
 outs:List Al
structure H2 where
 shr:FuncId->Bool
 mvd:FuncId->Nat->Bool
 lnd:FuncId->Nat->Bool
 kz:FuncId->Bool
 ext:FuncId->Option (Al->Option Bz)
 nz:Nat->Bool
def H2.core(C:H2):H2:={ C with ext:=fun _=>none }
def Di{α:Type}(f:Nat->α)(i:Nat)(v:α):Nat->α:=fun j=>bif Nat.beq j i then v else f j
def rd(hp:Nat->Option Cd)(id:Nat):Option Al:=
 match hp id with
 |some (.st c)=>some c
 |some (.ar _ c)=>some c
 |_=>none
def Kq(hp:Nat->Option Cd)(id:Nat):Option Al:=
 match hp id with
 |some (.ar _ c)=>some c
 |_=>none
inductive CT where
 |int (k:IntKind)
 |bool
 |str
 |sl (es:Nat)
 |any
def Bj(P:Program)(t:TypeId):Nat:=((P.info? t).map (·.size)).getD 0
def Cp(P:Program)(t:TypeId):Bool:=
 match P.underlying t with
 |some (.struct _)=>true
 |some (.array _ _)=>true
 |_=>false
def Arw(P:Program):Nat->TypeId->List CT
 |0,_=>[]
 |d+1,t=>
  match P.underlying t with
  |some (.int k)=>[.int k]
  |some .bool=>[.bool]
  |some .string=>[.str]
  |some (.slice e)=>[.sl (Bj P e)]
  |some (.struct fs)=>fs.toList.flatMap fun f=>Arw P d f.type
  |some (.array n e)=>(List.replicate n (Arw P d e)).flatten
  |_=>[.any]
abbrev Jj(P:Program)(t:TypeId):List CT:=Arw P 9 t
def J3(P:Program)(t:TypeId):Bool:=(P.underlying t).isSome&&Nat.beq (Jj P t).length (Bj P t)
abbrev CO(k:IntKind)(a b:Int):Int:=k.wrap (BitVec.ofInt k.bits a &&& BitVec.ofInt k.bits b).toNat
abbrev EO(k:IntKind)(a b:Int):Int:=k.wrap (BitVec.ofInt k.bits a ||| BitVec.ofInt k.bits b).toNat
abbrev Ho(k:IntKind)(a b:Int):Int:=k.wrap (BitVec.ofInt k.bits a ^^^ BitVec.ofInt k.bits b).toNat
abbrev An9(k:IntKind)(a b:Int):Int:=k.wrap (BitVec.ofInt k.bits a &&& ~~~BitVec.ofInt k.bits b).toNat
abbrev H6(k:IntKind)(a b:Int):Int:=k.wrap (a*2 ^ (min b.toNat k.bits))
abbrev S0(k:IntKind)(a b:Int):Int:=a.fdiv (2 ^ (min b.toNat k.bits))
abbrev Au8(k:IntKind)(n:Int):Int:=k.wrap (BitVec.ofInt k.bits (if k.signed then -1 else k.max) ^^^ BitVec.ofInt k.bits n).toNat
section
variable {R:Type}
def Eh(k:IntKind)(p:PV)(K:Int->Option R):Option R:=
 match p with
 |.sc (.int k' n)=>if k'=k then K n else none
 |_=>none
def Cb(p:PV)(K:Bool->Option R):Option R:=
 match p with
 |.sc (.bool b)=>K b
 |_=>none
def Ai(p:PV)(K:ByteArray->Option R):Option R:=
 match p with
 |.sc (.string s)=>K s
 |_=>none
def Xw(es:Nat)(p:PV)(K:Bool->Nat->Al->Option R):Option R:=
 match p with
 |.lst z es' n c=>bif Nat.beq es' es then K z n c else none
 |.sc (.slice none 0 0)=>K true 0 []
 |_=>none
def fsK(es:Nat)(p:PV)(K:PV->Option R):Option R:=
 match p with
 |.view id es' off n=>bif Nat.beq es' es then K (.view id es off n) else none
 |p=>Xw es p fun z n c=>K (.lst z es n c)
def FJ(es:Nat)(p:PV)(K:Nat->Al->Option R):Option R:=
 match p with
 |.own es' n c=>bif Nat.beq es' es then K n c else none
 |_=>none
def A6(b:Bool)(K:Option R):Option R:=bif b then K else none
abbrev Ab{α:Type}(x:α)(K:α->Option R):Option R:=K x
def TK(b:Bool)(x y:Option R):Option R:=bif b then x else y
abbrev A0f(x:Nat)(K:Nat->Option R):Option R:=K x
def Ap1(x:List B8)(K:List B8->Option R):Option R:=K x
def As(b:Bool)(x y:Option R):Option R:=bif b then x else y
def Dk{α:Type}(o:Option α)(K:α->Option R):Option R:=
 match o with
 |some a=>K a
 |none=>none
def Ac{α:Type}(l:List α)(K:α->List α->Option R):Option R:=
 match l with
 |a::r=>K a r
 |[]=>none
def Af{α:Type}(l:List α)(K:Option R):Option R:=
 match l with
 |[]=>K
 |_::_=>none
def Fo(p:PV)(K:Al->Option R):Option R:=
 match p with
 |.agg c=>K c
 |_=>none
def Xm(p:PV)(K:Al->Option R):Option R:=
 match p with
 |.pbox c=>K c
 |_=>none
def Ah(r:Option Bz)(K:Al->List Al->Option R):Option R:=
 match r with
 |some ⟨v,o⟩=>K v o
 |none=>none
def fnK(p:PV)(K:Value->Option R):Option R:=
 match p with
 |.sc (.func f a b)=>K (.func f a b)
 |.sc (.map none)=>K (.map none)
 |_=>none
def fvK(p:PV)(K:FuncId->Option R):Option R:=
 match p with
 |.sc (.func (.func f) a b)=>bif a.isEmpty&&b.isEmpty then K f else none
 |_=>none
def CU(t:CT)(p:PV)(K:PV->Option R):Option R:=
 match t with
 |.int k=>Eh k p fun n=>K (.sc (.int k n))
 |.bool=>Cb p fun b=>K (.sc (.bool b))
 |.str=>Ai p fun s=>K (.sc (.string s))
 |.sl es=>Xw es p fun z n c=>K (.lst z es n c)
 |.any=>fnK p fun v=>K (.sc v)
def fcK(t:CT)(p:PV)(K:PV->Option R):Option R:=
 match t with
 |.sl es=>fsK es p K
 |t=>CU t p K
def Tx:List CT->Al->Nat->(Al->Option R)->Option R
 |[],_,_,K=>K []
 |t::ts,cells,off,K=>CU t (cells.getD off .top) fun c=>Tx ts cells (off+1) fun r=>K (c::r)
def P8:List CT->Al->Nat->(Al->Option R)->Option R
 |[],_,_,K=>K []
 |t::ts,cells,off,K=>fcK t (cells.getD off .top) fun c=>P8 ts cells (off+1) fun r=>K (c::r)
def mkV(agg:Bool)(cells:Al)(K:PV->Option R):Option R:=
 bif agg then K (.agg cells) else Ac cells fun c r=>Af r (K c)
def cellsOf:PV->Al
 |.agg c=>c
 |p=>[p]
def cvK(P:Program)(t:TypeId)(v:Value)(K:PV->Option R):Option R:=
 match v with
 |.agg cs=>A6 (Nat.beq cs.toList.length (Jj P t).length) (Tx (Jj P t) (cs.toList.map .sc) 0 fun c=>K (.agg c))
 |.slice none 0 0=>
  match P.underlying t with
  |some (.slice e)=>K (.lst true (Bj P e) 0 [])
  |_=>none
 |v=>K (.sc v)
end
def Cm(tm:Nat->PV):Operand->PV
 |.tmp t=>tm t
 |.const (.agg cs)=>.agg (cs.toList.map .sc)
 |.const v=>.sc v
 |.func f=>.sc (.func (.func f) #[] #[])
 |.global g=>.sc (.pointer (some ⟨g,0,none⟩))
section
variable {R:Type}
def El(p:PV)(K:IntKind->Int->Option R):Option R:=
 match p with
 |.sc (.int k n)=>K k n
 |_=>none
def RV(rdf:Nat->Option Al)(es:Nat)(p:PV)(K:Nat->Al->Option R):Option R:=
 match p with
 |.view id es' off n=>bif Nat.beq es' es then Dk (rdf id) fun c=>A6 (decide (off+n*es<=c.length)) (K n ((c.drop off).take (n*es))) else none
 |p=>Xw es p fun _ n c=>K n c
def P5(rdf:Nat->Option Al)(t:CT)(p:PV)(K:PV->B8->Option R):Option R:=
 match t with
 |.sl es=>
  match p with
  |.view id es' off n=>bif Nat.beq es' es then Dk (rdf id) fun c=>A6 (decide (off+n*es<=c.length)) (K (.lst false es n ((c.drop off).take (n*es))) [id]) else none
  |p=>Xw es p fun _ n c=>K (.lst false es n c) []
 |t=>CU t p fun c=>K c []
def Pn(rdf:Nat->Option Al):List CT->Al->(Al->B8->Option R)->Option R
 |[],[],K=>K [] []
 |t::ts,p::ps,K=>P5 rdf t p fun c m=>Pn rdf ts ps fun cs ms=>K (c::cs) (m++ms)
 |_,_,_=>none
def SF(k:Bool):Al->Al->Al
  |p::ps,c::cs=>
    (match k,p with
     |true,.lst true es 0 []=>.lst true es 0 []
     |_,_=>c)::SF k ps cs
  |_,cs=>cs
def YL(P:Program)(rdf:Nat->Option Al)(t:TypeId)(p:PV)(K:PV->B8->Option R):Option R:=
 bif Cp P t then Fo p fun ps=>Pn rdf (Jj P t) ps fun cs m=>K (.agg cs) m
 else Pn rdf (Jj P t) [p] fun cs m=>Ac cs fun c r=>Af r (K c m)
def GD(P:Program)(rdf:Nat->Option Al):List TypeId->Al->(Al->B8->Option R)->Option R
 |[],[],K=>K [] []
 |t::ts,p::ps,K=>YL P rdf t p fun v m=>GD P rdf ts ps fun vs ms=>K (v::vs) (m++ms)
 |_,_,_=>none
def Afa(shr:Bool)(id:Nat)(t:CT)(p:PV)(K:PV->List (Nat × Cd)->Option R):Option R:=
 match t with
 |.sl es=>bif shr then Xw es p fun _ n c=>K (.lst false es n c) [] else FJ es p fun n c=>K (.view id es 0 n) [(id,.ar false c)]
 |t=>CU t p fun c=>K c []
def R9(shr:Bool)(N:Nat):Nat->List CT->Al->(Al->List (Nat × Cd)->Option R)->Option R
 |_,[],ps,K=>Af ps (K [] [])
 |id,t::ts,ps,K=>Ac ps fun p ps=>Afa shr id t p fun c b=>R9 shr N (id+N) ts ps fun cs bs=>K (c::cs) (b++bs)
def AJ(P:Program)(t:TypeId):Option TypeId:=
 match P.underlying t with
 |some (.pointer e)=>some e
 |_=>none
def RW(P:Program)(t:TypeId):Nat:=
 match AJ P t with
 |some e=>1+(Jj P e).length
 |none=>(Jj P t).length
def Add(P:Program)(shr:Bool)(N:Nat)(id:Nat)(t:TypeId)(p:PV)(K:PV->List (Nat × Cd)->Option R):Option R:=
 match AJ P t with
 |some e=>Xm p fun ps=>R9 shr N (id+N) (Jj P e) ps fun cs bs=>K (.ptr id 0) ((id,.st cs)::bs)
 |none=>
 bif Cp P t then Fo p fun ps=>R9 shr N id (Jj P t) ps fun cs bs=>K (.agg cs) bs
 else R9 shr N id (Jj P t) [p] fun cs bs=>Ac cs fun c r=>Af r (K c bs)
def DR(P:Program)(shr:Bool)(N:Nat):Nat->List TypeId->Al->(Al->List (Nat × Cd)->Option R)->Option R
 |_,[],ps,K=>Af ps (K [] [])
 |id,t::ts,ps,K=>Ac ps fun p ps=>Add P shr N id t p fun v bs=>DR P shr N (id+N*RW P t) ts ps fun vs bs'=>K (v::vs) (bs++bs')
def Pr(P:Program)(t:TypeId):List TypeId:=
 match P.underlying t with
 |some (.tuple ts)=>ts.toList
 |_=>[t]
def Oj(vs:Al)(t:Bool):PV:=bif t then .tup vs else vs.headD .top
def Qi(P:Program)(t:TypeId):Bool:=
 match P.underlying t with
 |some (.tuple _)=>true
 |_=>false
def Anz(op:BinOp)(a b:Int)(K:Bool->Option R):Option R:=
 match op with
 |.eql=>K (a==b)
 |.neq=>K (a != b)
 |.lss=>K (decide (a<b))
 |.leq=>K (decide (a<=b))
 |.gtr=>K (decide (a>b))
 |.geq=>K (decide (a>=b))
 |_=>none
def IC(op:BinOp)(k:IntKind)(a b:Int)(K:PV->Option R):Option R:=
 match op with
 |.add=>Ab ((k.wrap (a+b))) fun n=>K (.sc (.int k n))
 |.sub=>Ab ((k.wrap (a-b))) fun n=>K (.sc (.int k n))
 |.mul=>Ab ((k.wrap (a*b))) fun n=>K (.sc (.int k n))
 |.quo=>A6 (decide (b≠0)) (Ab ((k.wrap (a.tdiv b))) fun n=>K (.sc (.int k n)))
 |.rem=>A6 (decide (b≠0)) (Ab ((a.tmod b)) fun n=>K (.sc (.int k n)))
 |.and=>Ab (CO k a b) fun n=>K (.sc (.int k n))
 |.or=>Ab (EO k a b) fun n=>K (.sc (.int k n))
 |.xor=>Ab (Ho k a b) fun n=>K (.sc (.int k n))
 |.andNot=>Ab (An9 k a b) fun n=>K (.sc (.int k n))
 |op=>Anz op a b fun r=>K (.sc (.bool r))
def IK(op:BinOp)(x y:ByteArray)(K:PV->Option R):Option R:=
 match op with
 |.add=>A6 (decide (x.size+y.size<=9223372036854775807)) (Ab (x++y) fun s=>K (.sc (.string s)))
 |.eql=>K (.sc (.bool (x.data.toList==y.data.toList)))
 |.neq=>K (.sc (.bool !(x.data.toList==y.data.toList)))
 |.lss=>K (.sc (.bool (Op.bytesLess x.data.toList y.data.toList)))
 |.leq=>K (.sc (.bool (Op.bytesLess x.data.toList y.data.toList||x.data.toList==y.data.toList)))
 |.gtr=>K (.sc (.bool !(Op.bytesLess x.data.toList y.data.toList||x.data.toList==y.data.toList)))
 |.geq=>K (.sc (.bool !(Op.bytesLess x.data.toList y.data.toList)))
 |_=>none
def GN(e:Bool)(p:PV)(K:PV->Option R):Option R:=
 match p with
 |.sc (.slice none 0 0)=>K (.sc (.bool e))
 |.lst z _ n _=>As z (K (.sc (.bool e))) (As (decide (0<n)) (K (.sc (.bool !e))) (K .ub))
 |.view _ _ _ n=>As (decide (0<n)) (K (.sc (.bool !e))) (K .ub)
 |_=>none
def SA(P:Program):List Field->Nat->Bool
 |[],_=>true
 |f::r,i=>Nat.beq f.offset i&&(f.name != "_")&&(match P.underlying f.type with|some (.int _)=>true|some .bool=>true|some .string=>true|_=>false)&&SA P r (i+1)
def O6(P:Program):List Field->Nat->Bool
  |[],_=>true
  |f::r,i=>Nat.beq f.offset i&&(f.name != "_") &&
    (match P.underlying f.type with
     |some (.int _)=>O6 P r (i+1)
     |some .bool=>O6 P r (i+1)
     |some .string=>O6 P r (i+1)
     |some (.struct gs)=>SA P gs.toList 0 && !P.stoodInHeld f.type&&(P.info? f.type).isSome&&Nat.beq (Bj P f.type) gs.size&&O6 P r (i+gs.size)
     |_=>false)
def PY(P:Program)(t:TypeId)(fs:Array Field):Bool:=O6 P fs.toList 0 && !P.stoodInHeld t && !P.eqGuardType P.depth t
def fty(P:Program)(f:Field):CT:=
 match P.underlying f.type with
 |some (.int k)=>.int k
 |some .bool=>.bool
 |some .string=>.str
 |_=>.any
def UG(P:Program)(f:Field):List CT:=
 match P.underlying f.type with
 |some (.struct gs)=>gs.toList.map (fty P)
 |_=>[fty P f]
def Xq(P:Program):List Field->List CT
 |[]=>[]
 |f::r=>UG P f++Xq P r
def Mi:List CT->Al->Al->(Bool->Option R)->Option R
 |[],[],[],K=>K true
 |.int k::ts,p::ps,q::qs,K=>Eh k p fun a=>Eh k q fun b=>Mi ts ps qs fun r=>K ((a==b)&&r)
 |.bool::ts,p::ps,q::qs,K=>Cb p fun a=>Cb q fun b=>Mi ts ps qs fun r=>K ((a==b)&&r)
 |.str::ts,p::ps,q::qs,K=>Ai p fun a=>Ai q fun b=>Mi ts ps qs fun r=>K ((a==b)&&r)
 |_,_,_,_=>none
def Ajy(P:Program)(op:BinOp)(t:TypeId)(x y:PV)(K:PV->Option R):Option R:=
 match P.underlying t with
 |some (.int k)=>
  match op with
  |.shl=>Eh k x fun a=>El y fun _ b=>A6 (decide (0<=b)) (Ab (H6 k a b) fun n=>K (.sc (.int k n)))
  |.shr=>Eh k x fun a=>El y fun _ b=>A6 (decide (0<=b)) (Ab (S0 k a b) fun n=>K (.sc (.int k n)))
  |op=>Eh k x fun a=>Eh k y fun b=>IC op k a b K
 |some .string=>Ai x fun a=>Ai y fun b=>IK op a b K
 |some .bool=>
  match op with
  |.eql=>Cb x fun a=>Cb y fun b=>K (.sc (.bool (a==b)))
  |.neq=>Cb x fun a=>Cb y fun b=>K (.sc (.bool !(a==b)))
  |_=>none
 |some (.slice _)=>
  match op,y with
  |.eql,.sc (.slice none 0 0)=>GN true x K
  |.neq,.sc (.slice none 0 0)=>GN false x K
  |_,_=>none
 |some (.map _ _)=>
  match op,x,y with
  |.eql,.sc (.map none),.sc (.map none)=>K (.sc (.bool true))
  |.neq,.sc (.map none),.sc (.map none)=>K (.sc (.bool false))
  |_,_,_=>none
 |_=>none
def Wi(P:Program)(op:BinOp)(t:TypeId)(x y:PV)(K:PV->Option R):Option R:=
 match P.underlying t with
 |some (.struct fs)=>
  match op with
  |.eql=>A6 (PY P t fs) (Fo x fun xs=>Fo y fun ys=>Mi (Xq P fs.toList) xs ys fun b=>K (.sc (.bool b)))
  |.neq=>A6 (PY P t fs) (Fo x fun xs=>Fo y fun ys=>Mi (Xq P fs.toList) xs ys fun b=>K (.sc (.bool !b)))
  |_=>none
 |_=>Ajy P op t x y K
def unK(op:UnOp)(x:PV)(K:PV->Option R):Option R:=
 match op with
 |.not=>Cb x fun b=>K (.sc (.bool !b))
 |.neg=>El x fun k n=>Ab (k.wrap (0-n)) fun n=>K (.sc (.int k n))
 |.xor=>El x fun k n=>Ab (Au8 k n) fun n=>K (.sc (.int k n))
 |_=>none
def Ly:Al->Option (List UInt8)
 |[]=>some []
 |.sc (.int .u8 n)::r=>(Ly r).map (n.toNat.toUInt8 :: ·)
 |_::_=>none
def V1:Al->Option Am
 |[]=>some []
 |.sc (.int .i32 n)::r=>(V1 r).map (n :: ·)
 |_::_=>none
def Ro(s:ByteArray):Al:=s.data.toList.map fun b=>.sc (.int .u8 b.toNat)
def GU(P:Program)(rdf:Nat->Option Al)(d:Nat)(src dst:TypeId)(x:PV)(K:PV->List (Nat × Cd)->Option R):Option R:=
 match P.underlying dst with
 |some (.int k)=>A6 (P.underlying src).isSome (El x fun _ n=>Ab (k.wrap n) fun n=>K (.sc (.int k n)) [])
 |some .string=>
  match P.underlying src with
  |some .string=>Ai x fun s=>K (.sc (.string s)) []
  |some (.slice e)=>
   match P.underlying e with
   |some (.int .u8)=>RV rdf 1 x fun n c=>A6 (decide (c.length=n)) (Dk (Ly c) fun b=>K (.sc (.string ⟨b.toArray⟩)) [])
   |some (.int .i32)=>RV rdf 1 x fun n c=>A6 (decide (c.length=n)) (Dk (V1 c) fun ns=>Ab (runesBytes ns) fun s=>K (.sc (.string s)) [])
   |_=>none
  |_=>none
 |some (.slice e)=>
  match P.underlying e,P.underlying src with
  |some (.int .u8),some .string=>Ai x fun s=>A6 (decide (s.size<=1099511627776)) (K (.view d 1 0 s.size) [(d,.ar false (Ro s))])
  |_,_=>none
 |_=>none
def H7(p:Option PV)(dflt:Nat)(K:Nat->Option R):Option R:=
 match p with
 |none=>K dflt
 |some p=>El p fun _ i=>A6 (decide (0<=i)) (K i.toNat)
def BG(P:Program)(rdf:Nat->Option Al)(t:TypeId)(x:PV)(lo hi:Option PV)(K:PV->Option R):Option R:=
 match P.underlying t with
 |some .string=>Ai x fun s=>H7 lo 0 fun l=>H7 hi s.size fun h=>A6 (decide (l<=h)&&decide (h<=s.size)) (Ab (s.extract l h) fun s=>K (.sc (.string s)))
 |some (.slice e)=>A6 (P.info? e).isSome (
  match x with
  |.view id es off n=>A6 (Nat.beq es (Bj P e)) (H7 lo 0 fun l=>H7 hi n fun h=>A6 (decide (l<=h)&&decide (h<=n)) (Ab (off+l*es) fun o=>Ab (h-l) fun n=>K (.view id es o n)))
  |x=>Xw (Bj P e) x fun z n c=>H7 lo 0 fun l=>H7 hi n fun h=>A6 (decide (l<=h)&&decide (h<=n)) (Ab (h-l) fun n=>Ab ((c.drop (l*Bj P e)).take (n*Bj P e)) fun c=>K (.lst z (Bj P e) n c)))
 |some (.array n e)=>A6 (P.info? e).isSome (
  match x with
  |.ptr id off=>Dk (rdf id) fun c=>A6 (decide (1<=n*Bj P e)&&decide (off+n*Bj P e<=c.length)&&Nat.beq (Bj P e) 1)<|H7 lo 0 fun l=>H7 hi n fun h=>A6 (decide (l<=h)&&decide (h<=n)) (Ab (off+l*Bj P e) fun o=>Ab (h-l) fun n=>K (.view id (Bj P e) o n))
  |_=>none)
 |_=>none
def Vv(P:Program)(d:Nat)(t:TypeId)(x:PV)(lo hi mx:Option PV)(K:PV->List (Nat × Cd)->Option R):Option R:=
 match P.underlying t with
 |some (.slice e)=>A6 ((P.info? e).isSome&&hi.isSome) (
  match x with
  |.view _ es _ n=>A6 (Nat.beq es (Bj P e)) (H7 lo 0 fun l=>H7 hi n fun h=>H7 mx n fun m=>A6 (Nat.beq l m&&Nat.beq h m&&decide (m<=n)) (K (.view d (Bj P e) 0 0) [(d,.ar false [])]))
  |x=>Xw (Bj P e) x fun _ n _=>H7 lo 0 fun l=>H7 hi n fun h=>H7 mx n fun m=>A6 (Nat.beq l m&&Nat.beq h m&&decide (m<=n)) (K (.view d (Bj P e) 0 0) [(d,.ar false [])]))
 |_=>none
def Vj(x:PV)(d:Nat)(K:PV->Option R):Option R:=
 match x with
 |.ptr id off=>K (.ptr id (off+d))
 |.iptr c off=>K (.iptr c (off+d))
 |_=>none
def HN(P:Program)(e:TypeId):Bool:=(P.info? e).isSome
def Sf(P:Program)(t:TypeId)(f:Nat):Option (Nat × TypeId):=
 match P.underlying t with
 |some (.struct fs)=>(fs[f]?).map fun g=>(g.offset,g.type)
 |_=>none
def Ln(P:Program)(t:TypeId)(x:PV)(i:Int)(K:PV->Option R):Option R:=
 match P.underlying t with
 |some (.array n e)=>A6 (HN P e) (A6 (decide (0<=i)&&decide (i<n)) (Vj x (i.toNat*Bj P e) K))
 |some (.slice e)=>A6 (HN P e) (
  match x with
  |.view id es off n=>A6 (Nat.beq es (Bj P e)) (A6 (decide (0<=i)&&decide (i<n)) (K (.ptr id (off+i.toNat*es))))
  |x=>Xw (Bj P e) x fun _ n c=>A6 (decide (0<=i)&&decide (i<n)) (K (.iptr c (i.toNat*Bj P e))))
 |_=>none
def Ya(P:Program)(rdf:Nat->Option Al)(t:TypeId)(x:PV)(K:PV->Option R):Option R:=
 match x with
 |.ptr id off=>A6 (J3 P t) (Dk (rdf id) fun c=>P8 (Jj P t) c off fun cs=>mkV (Cp P t) cs K)
 |.iptr c off=>A6 (J3 P t) (Tx (Jj P t) c off fun cs=>mkV (Cp P t) cs K)
 |_=>none
def PO:PV->PV
 |.lst _ es n c=>.lst false es n c
 |p=>p
def XU:PV->PV
 |.agg cs=>.agg (cs.map PO)
 |p=>PO p
def Zl(nz:Bool)(P:Program)(rdf rdaf:Nat->Option Al)(t:TypeId)(x:PV)(K:PV->Option R):Option R:=
 match x with
 |.ptr id off=>A6 (J3 P t) (
  match rdaf id with
  |some c=>Tx (Jj P t) c off fun cs=>mkV (Cp P t) cs fun v=>K (bif nz then v else XU v)
  |none=>Dk (rdf id) fun c=>P8 (Jj P t) c off fun cs=>mkV (Cp P t) cs K)
 |.iptr c off=>A6 (J3 P t) (Tx (Jj P t) c off fun cs=>mkV (Cp P t) cs fun v=>K (bif nz then v else XU v))
 |_=>none
def Cw(cells new:Al)(off:Nat):Al:=cells.take off++new++cells.drop (off+new.length)
def okP:PV->Bool
 |.agg _=>true
 |.lst _ _ _ _=>true
 |.view _ _ _ _=>true
 |.sc (.int _ _)=>true
 |.sc (.bool _)=>true
 |.sc (.string _)=>true
 |.sc (.slice none 0 0)=>true
 |_=>false
def U9(Ib:Nat->Option (Nat × Nat)):List (Nat × PV)->Al->(Al->Option R)->Option R
 |[],cells,K=>K cells
 |(i,p)::r,cells,K=>Dk (Ib i) fun q=>A6 (okP p&&Nat.beq (cellsOf p).length q.2&&Nat.ble (q.1+q.2) cells.length) (Ab (Cw cells (cellsOf p) q.1) fun cells=>U9 Ib r cells K)
def Sq(P:Program)(t:TypeId)(i:Nat):Option (Nat × Nat):=
 match P.underlying t with
 |some (.struct fs)=>(fs[i]?).map fun f=>(f.offset,Bj P f.type)
 |some (.array _ e)=>some (i*Bj P e,Bj P e)
 |some (.slice e)=>some (i*Bj P e,Bj P e)
 |_=>none
def R6(P:Program)(t:TypeId):Bool:=
 match P.underlying t with
 |some (.struct fs)=>fs.toList.all fun f=>HN P f.type
 |some (.array _ e)=>HN P e
 |some (.slice e)=>HN P e
 |_=>false
def Q5(P:Program)(t:TypeId):Option Value:=(P.info? t).bind (·.zero)
def Ic(P:Program)(t:TypeId)(K:Al->Option R):Option R:=
 Dk (Q5 P t) fun v=>A6 (Nat.beq v.cells.toList.length (Jj P t).length&&J3 P t) (Tx (Jj P t) (v.cells.toList.map .sc) 0 K)
def Vp(P:Program)(t:TypeId):Bool:=
 match P.underlying t with
 |some (.array _ _)=>true
 |_=>false
def Af0(P:Program)(t:TypeId)(cells:Al):Cd:=bif Vp P t then .ar false cells else .st cells
def Sw(n:Nat)(l:Al):Al:=(List.replicate n l).flatten
def An3(a b:PV)(K:PV->Option R):Option R:=El a fun k x=>Eh k b fun y=>Ab (if y<x then y else x) fun n=>K (.sc (.int k n))
def Amy(a b:PV)(K:PV->Option R):Option R:=El a fun k x=>Eh k b fun y=>Ab (if x<y then y else x) fun n=>K (.sc (.int k n))
def Ab2(P:Program)(t:TypeId)(x:PV)(K:Nat->Option R):Option R:=
 match P.underlying t with
 |some .string=>Ai x fun s=>K s.size
 |some (.array n _)=>K n
 |some (.slice e)=>
  match x with
  |.view _ es _ n=>A6 (Nat.beq es (Bj P e)) (K n)
  |x=>Xw (Bj P e) x fun _ n _=>K n
 |_=>none
end
abbrev A7:=FuncId->Al->Option Bz
section
variable {R:Type}
def Ku(P:Program)(ts:List TypeId):Bool:=ts.any fun t=>(AJ P t).isSome||(Jj P t).any fun c=>match c with | .sl _=>true|_=>false
def BI(P:Program)(t:TypeId)(tm:Nat->PV)(x:Operand)(K:PV->Option R):Option R:=
 match x with
 |.const v=>cvK P t v K
 |x=>K (Cm tm x)
def PD(P:Program)(e:TypeId):Bool:=
 match P.info? e with
 |some i=>(match i.zero with|some z=>Nat.beq z.cells.size i.size|none=>false)
 |none=>false
def XN(P:Program)(rdaf:Nat->Option Al)(es:Nat)(t:TypeId)(x:PV)(K:Nat->Al->Option R):Option R:=
 match P.underlying t with
 |some .string=>A6 (Nat.beq es 1) (Ai x fun b=>K b.size (Ro b))
 |some (.slice _)=>RV rdaf es x K
 |_=>none
abbrev XL(P:Program)(s:St)(es:Nat)(t:TypeId)(x:PV)(K:Nat->Al->Option R):Option R:=XN P (Kq s.hp) es t x K
def Zw(c:Call):Bool:=
 match c.args.toList with
 |.const (.slice none 0 0)::_=>true
 |_=>false
def V6(P:Program)(rdaf:Nat->Option Al)(d:Nat)(t tx:TypeId)(x:PV)(K:PV->List (Nat × Cd)->Option R):Option R:=
 match P.underlying t with
 |some (.slice e)=>A6 (PD P e) <|
  XN P rdaf (Bj P e) tx x fun m new=>
   A6 (decide (new.length=m*Bj P e)&&decide (m*((P.info? e).map (·.bytes)).getD 0<=1099511627776)&&decide (m<=1099511627776)) (K (.view d (Bj P e) 0 m) [(d,.ar false new)])
 |_=>none
def Kp(k:Bool):List Operand->Al->Al
  |x::xs,p::ps=>
    (match x,p with
     |.const (.slice none 0 0),.lst z es 0 []=>.lst (k||z) es 0 []
     |_,p=>p)::Kp k xs ps
  |_,ps=>ps
def Acw(P:Program)(t:TypeId)(x:PV)(K:Nat->Option R):Option R:=
 match P.underlying t with
 |some (.slice e)=>Xw (Bj P e) x fun z _ _=>A6 z (K 0)
 |_=>none
def IW(P:Program)(f:FuncId)(c:Call):List TypeId:=
 match P.funcs[f]? with
 |some fn=>fn.params.toList
 |none=>c.argTypes.toList
def IF(C:H2)(P:Program)(N:Nat)(call:A7)(tm:Nat->PV)(rdaf:Nat->Option Al)(o:Oper)(c:Call)(f:FuncId)(K:PV->B8->List (Nat × Cd)->Option R):Option R:=
 GD P rdaf (IW P f c) (c.args.toList.map (Cm tm)) fun vs m=>
  Ah (call f (Kp (C.kz f) c.args.toList vs)) fun rv ro=>Af ro (A6 (Nat.blt 0 N)<|DR P (C.shr f) N (o.dst.getD 0) (Pr P o.type) rv fun ws bs=>
   A6 (bif Qi P o.type then !Nat.beq ws.length 1 else Nat.beq ws.length 1)<|K (Oj ws (Qi P o.type)) (bif Ku P (Pr P o.type) then m else []) bs)
def JU(C:H2)(P:Program)(N:Nat)(call:A7)(tm:Nat->PV)(rdf rdaf:Nat->Option Al)(o:Oper)(K:PV->B8->List (Nat × Cd)->Option R):Option R:=
  match o.op with
  |.move x=>BI P o.type tm x fun p=>K p [] []
  |.assign x=>BI P o.type tm x fun p=>K p [] []
  |.pick c a b=>Cb (Cm tm c) fun t=>As t (K (Cm tm a) [] []) (K (Cm tm b) [] [])
  |.alloc t=>Dk o.dst fun d=>Ic P t fun cs=>K (.ptr d 0) [] [(d,Af0 P t cs)]
  |.box t x=>Dk o.dst fun d=>A6 (J3 P t&&Nat.beq (cellsOf (Cm tm x)).length (Jj P t).length)
      (bif Vp P t then Tx (Jj P t) (cellsOf (Cm tm x)) 0 fun cs=>K (.ptr d 0) [] [(d,.ar false cs)]
       else P8 (Jj P t) (cellsOf (Cm tm x)) 0 fun cs=>K (.ptr d 0) [] [(d,.st cs)])
  |.build t ps=>A6 (R6 P t&&Cp P t)<|Ic P t fun z=>U9 (Sq P t) (ps.toList.map fun q=>(q.1,Cm tm q.2)) z fun cs=>P8 (Jj P t) cs 0 fun cs'=>K (.agg cs') [] []
  |.buildSlice t n ps=>Dk o.dst fun d=>
      match P.underlying t with
      |some (.slice e)=>A6 (R6 P t&&Nat.ble (n*Bj P e) 16777216) (Ic P e fun z=>U9 (Sq P t) (ps.toList.map fun q=>(q.1,Cm tm q.2)) (Sw n z) fun cs=>
          Pn rdaf (List.replicate n (Jj P e)).flatten cs fun cs' m=>K (.view d (Bj P e) 0 n) m [(d,.ar false (bif C.nz N then SF true cs cs' else cs'))])
      |_=>none
  |.load t a=>Zl (C.nz N) P rdf rdaf t (Cm tm a) fun v=>K v [] []
  |.nilCheck x=>Vj (Cm tm x) 0 fun p=>K p [] []
  |.binOp op t x y _=>
      Wi P op t (Cm tm x) (Cm tm y) fun v=>K v [] []
  |.unOp op _ x=>unK op (Cm tm x) fun v=>K v [] []
  |.convert src dst x=>GU P rdaf (o.dst.getD 0) src dst (Cm tm x) fun v b=>Dk o.dst fun _=>K v [] b
  |.makeSlice t l c=>Dk o.dst fun d=>
      match P.underlying t with
      |some (.slice e)=>El (Cm tm l) fun _ n=>El (Cm tm c) fun _ m=>
          A6 (decide (0<=n)&&decide (n<=m)&&decide (m*((P.info? e).map (·.bytes)).getD 0<=1099511627776)&&decide (m<=1099511627776))
            (Ic P e fun z=>K (.view d (Bj P e) 0 n.toNat) [] [(d,.ar false (Sw n.toNat z))])
      |_=>none
  |.slice t x lo hi mx=>
      match mx with
      |none=>BG P rdf t (Cm tm x) (lo.map (Cm tm)) (hi.map (Cm tm)) fun v=>K v [] []
      |some m=>Dk o.dst fun d=>Vv P d t (Cm tm x) (lo.map (Cm tm)) (hi.map (Cm tm)) (some (Cm tm m)) fun v nw=>K v [] nw
  |.fieldAddr t x f=>Dk (Sf P t f) fun q=>A6 (Nat.ble 1 (Bj P q.2)) (Vj (Cm tm x) q.1 fun p=>K p [] [])
  |.field t x f=>Dk (Sf P t f) fun q=>A6 (J3 P q.2)<|Fo (Cm tm x) fun cs=>P8 (Jj P q.2) cs q.1 fun c=>mkV (Cp P q.2) c fun v=>K v [] []
  |.indexAddr t x i=>El (Cm tm i) fun _ n=>Ln P t (Cm tm x) n fun p=>K p [] []
  |.index t x i=>El (Cm tm i) fun _ n=>
      match P.underlying t with
      |some .string=>Ai (Cm tm x) fun s=>A6 (decide (0<=n)) (Dk (s.data.toList[n.toNat]?) fun b=>K (.sc (.int .u8 b.toNat)) [] [])
      |some (.array len e)=>Fo (Cm tm x) fun cs=>A6 (decide (0<=n)&&decide (n<len)&&J3 P e) (P8 (Jj P e) cs (n.toNat*Bj P e) fun c=>mkV (Cp P e) c fun v=>K v [] [])
      |_=>none
  |.lookup t x k ok=>
      match P.underlying t with
      |some (.map kt vt)=>A6 (match P.underlying kt with|some .string=>true|_=>false) (
        match Cm tm x with
        |.sc (.map none)=>Ai (Cm tm k) fun _=>Dk (Q5 P vt) fun z=>cvK P vt z fun v=>A6 (match v with | .tup _=>false|_=>true) (K (bif ok then .tup [v,.sc (.bool false)] else v) [] [])
        |_=>none)
      |_=>none
  |.extract x i=>
      match Cm tm x with
      |.tup vs=>Dk vs[i]? fun p=>K p [] []
      |_=>none
  |.call c=>
      match c.callee with
      |.builtin .len=>Ac c.args.toList fun x _=>Ac c.argTypes.toList fun t _=>Ab2 P t (Cm tm x) fun n=>K (.sc (.int .i64 n)) [] []
      |.builtin .cap=>Ac c.args.toList fun x _=>Ac c.argTypes.toList fun t _=>Acw P t (Cm tm x) fun n=>K (.sc (.int .i64 n)) [] []
      |.builtin .min=>Ac c.args.toList fun x r=>Ac r fun y r'=>Af r' (An3 (Cm tm x) (Cm tm y) fun v=>K v [] [])
      |.builtin .max=>Ac c.args.toList fun x r=>Ac r fun y r'=>Af r' (Amy (Cm tm x) (Cm tm y) fun v=>K v [] [])
      |.builtin .append=>A6 (Zw c) (Dk o.dst fun d=>Ac c.args.toList fun _ r=>Ac r fun x r'=>Af r' (Ac c.argTypes.toList fun t u=>Ac u fun tx _=>V6 P rdaf d t tx (Cm tm x) fun v nw=>K v [] nw))
      |.value (.func f)=>IF C P N call tm rdaf o c f K
      |.value (.tmp t)=>fvK (tm t) fun f=>IF C P N call tm rdaf o c f K
      |_=>none
  |_=>none
def So(C:H2)(P:Program)(o:Op):Bool:=
 match o with
 |.store .. =>true
 |.call c=>
  match c.callee with
  |.builtin .append=> !Zw c
  |.builtin .copy=>true
  |.builtin _=>false
  |.value (.func f)=>((IW P f c).any fun t=>(AJ P t).isSome)||((IW P f c).zipIdx.any fun q=>C.mvd f q.2||C.lnd f q.2)
  |_=>false
 |_=>false
def Vn(b:Cd):Cd:=
 match b with
 |.ar _ c=>.ar true c
 |b=>b
def Aj(hp:Nat->Option Cd)(ids:B8):Nat->Option Cd:=fun i=>bif ids.any (Nat.beq i) then (hp i).map Vn else hp i
def Ax(hp:Nat->Option Cd):List (Nat × Cd)->Nat->Option Cd
 |[]=>hp
 |(i,b)::r=>Ax (Di hp i (some b)) r
def Cf(hp:Nat->Option Cd):List (Nat × Cd)->Bool
 |[]=>true
 |(i,_)::r=>(hp i).isNone && !(r.any fun q=>Nat.beq q.1 i)&&Cf hp r
def B7(tm:Nat->PV)(d:Option Tmp)(v:PV):Nat->PV:=
 match d with
 |some i=>Di tm i v
 |none=>tm
def Hm(N:Nat)(d:Option Tmp):Bool:=
 match d with
 |some i=>Nat.blt i N
 |none=>true
def CV(N:Nat)(s:St)(d:Option Tmp)(v:PV)(fz:B8)(nw:List (Nat × Cd))(K:St->Option R):Option R:=
 A6 (Hm N d&&Cf s.hp nw) (K ⟨B7 s.tm d v,Ax (Aj s.hp fz) nw⟩)
def BX(P:Program)(s:St)(t:TypeId)(a x:PV)(K:St->Option R):Option R:=
 match a with
 |.ptr id off=>
  match s.hp id with
  |some (.st c)=>A6 (J3 P t&&Nat.beq (cellsOf x).length (Jj P t).length&&decide (off+(Jj P t).length<=c.length)) (P8 (Jj P t) (cellsOf x) 0 fun cs=>Ab (Cw c cs off) fun c=>K ⟨s.tm,Di s.hp id (some (.st c))⟩)
  |some (.ar false c)=>A6 (J3 P t&&decide (off+(Jj P t).length<=c.length)) (Pn (Kq s.hp) (Jj P t) (cellsOf x) fun cs m=>A6 (!m.any (Nat.beq id)) (Ab (Cw c cs off) fun c=>K ⟨s.tm,Di (Aj s.hp m) id (some (.ar false c))⟩))
  |_=>none
 |_=>none
def Z9(P:Program)(t:TypeId):Bool:=
 match P.underlying t with
 |some (.int _)=>true
 |_=>false
def Uh(P:Program)(N:Nat)(s:St)(d:Nat)(e:TypeId)(b x:PV)(K:St->Option R):Option R:=
 El x fun _ n=>Xw (Bj P e) b fun z _ _=>
  A6 (z&&Nat.blt d N&&(s.hp d).isNone&&decide (0<=n)&&decide (n.toNat*((P.info? e).map (·.bytes)).getD 0<=1099511627776)&&decide (n<=1099511627776))
   (K ⟨Di s.tm d (.view d (Bj P e) 0 n.toNat),Di s.hp d (some (.ar false []))⟩)
def Qm(P:Program)(N:Nat)(s:St)(d:Nat)(t tx:TypeId)(b x:PV)(K:St->Option R):Option R:=
 match P.underlying t with
 |some (.slice e)=>A6 (PD P e) <|
  bif Z9 P tx then Uh P N s d e b x K else
  XL P s (Bj P e) tx x fun m new=>
  match b with
  |.view id es off n=>
   match s.hp id with
   |some (.ar false c)=>
    A6 (Nat.beq es (Bj P e)&&Nat.beq off 0&&Nat.blt d N&&(s.hp d).isNone&&decide (n*es<=c.length)&&decide (new.length=m*es)
     && decide ((n+m)*((P.info? e).map (·.bytes)).getD 0<=1099511627776)&&decide (n+m<=1099511627776))
     (Ab (n+m) fun n'=>Ab (c.take (n*es)++new) fun c=>K ⟨Di s.tm d (.view d es 0 n'),Di (Di s.hp id (some .mv)) d (some (.ar false c))⟩)
   |_=>none
  |b=>Xw (Bj P e) b fun z _ _=>
    A6 (z&&Nat.blt d N&&(s.hp d).isNone&&decide (new.length=m*Bj P e)&&decide (m*((P.info? e).map (·.bytes)).getD 0<=1099511627776)&&decide (m<=1099511627776))
     (K ⟨Di s.tm d (.view d (Bj P e) 0 m),Di s.hp d (some (.ar false new))⟩)
 |_=>none
def LI(P:Program)(N:Nat)(s:St)(d:Option Tmp)(t tx:TypeId)(b x:PV)(K:St->Option R):Option R:=
 match P.underlying t with
 |some (.slice e)=>A6 (HN P e&&Hm N d) <|
  XL P s (Bj P e) tx x fun m new=>
  match b with
  |.view id es off n=>
   match s.hp id with
   |some (.ar false c)=>A6 (Nat.beq es (Bj P e)&&decide (off+n*es<=c.length)&&decide (new.length=m*es))
     (Ab (min m n) fun k=>Ab (Cw c (new.take (k*es)) off) fun c=>K ⟨B7 s.tm d (.sc (.int .i64 k)),Di s.hp id (some (.ar false c))⟩)
   |_=>none
  |_=>none
 |_=>none
def Ac8(mv:Bool)(hp:Nat->Option Cd)(t:CT)(p:PV)(K:PV->B8->B8->Option R):Option R:=
 match t with
 |.sl es=>
  bif mv then
   match p with
   |.view id es' off n=>
    match hp id with
    |some (.ar false c)=>
     bif Nat.beq es' es&&Nat.beq off 0 then A6 (decide (n*es<=c.length)) (K (.own es n (c.take (n*es))) [] [id])
     else P5 (Kq hp) (.sl es) (.view id es' off n) fun c m=>K c m []
    |_=>P5 (Kq hp) (.sl es) (.view id es' off n) fun c m=>K c m []
   |p=>Xw es p fun z n c=>bif z then K (.own es 0 []) [] [] else K (.lst false es n c) [] []
  else P5 (Kq hp) (.sl es) p fun c m=>K c m []
 |t=>CU t p fun c=>K c [] []
def DW(mv:Bool)(hp:Nat->Option Cd):List CT->Al->(Al->B8->B8->Option R)->Option R
 |[],[],K=>K [] [] []
 |t::ts,p::ps,K=>Ac8 mv hp t p fun c m x=>DW mv hp ts ps fun cs ms xs=>K (c::cs) (m++ms) (x++xs)
 |_,_,_=>none
inductive H0 where
 |var (id off:Nat) (cts:List CT) (ws:Al)
 |row (id:Nat)
 |none
def H0.ids:H0->B8
 |.var id _ _ _=>[id]
 |.row id=>[id]
 |.none=>[]
def Avi(P:Program)(t:TypeId):Option TypeId:=
 match P.underlying t with
 |some (.slice e)=>some e
 |_=>none
def Afl(hp:Nat->Option Cd)(es:Nat)(p:PV)(K:PV->List H0->Option R):Option R:=
 match p with
 |.view id es' off n=>
  match hp id with
  |some (.ar false c)=>A6 (Nat.beq es' es&&Nat.beq off 0) (K (.tup [.own es n c]) [.row id])
  |_=>none
 |p=>Xw es p fun z _ _=>A6 z (K (.tup [.own es 0 []]) [.none])
def AW(C:H2)(P:Program)(f:FuncId)(hp:Nat->Option Cd)(i:Nat)(t:TypeId)(p:PV)(K:PV->B8->B8->List H0->Option R):Option R:=
 match AJ P t with
 |some e=>
  match p with
  |.ptr id off=>
   match hp id with
   |some (.st c)=>A6 (J3 P e&&decide (off+(Jj P e).length<=c.length)) (DW (C.mvd f i) hp (Jj P e) ((c.drop off).take (Jj P e).length) fun cs m x=>K (.pbox cs) m x [.var id off (Jj P e) cs])
   |_=>none
  |_=>none
 |none=>
  bif C.lnd f i then Dk (Avi P t) fun e=>Afl hp (Bj P e) p fun v l=>K v [] [] l
  else bif Cp P t then Fo p fun ps=>DW (C.mvd f i) hp (Jj P t) ps fun cs m x=>K (.agg cs) m x []
  else DW (C.mvd f i) hp (Jj P t) [p] fun cs m x=>Ac cs fun c r=>Af r (K c m x [])
def NX(C:H2)(P:Program)(f:FuncId)(hp:Nat->Option Cd):Nat->List TypeId->Al->(Al->B8->B8->List H0->Option R)->Option R
 |_,[],[],K=>K [] [] [] []
 |i,t::ts,p::ps,K=>AW C P f hp i t p fun v m x l=>NX C P f hp (i+1) ts ps fun vs ms xs ls=>K (v::vs) (m++ms) (x++xs) (l++ls)
 |_,_,_,_=>none
def Vm(hp:Nat->Option Cd)(ids:B8):Nat->Option Cd:=fun i=>bif ids.any (Nat.beq i) then (hp i).map (fun _=>Cd.mv) else hp i
def WE(N t:Nat):Nat:=N*(1000+t)
def TA(N:Nat)(hp:Nat->Option Cd):Nat->Nat->Nat
 |0,t=>t
 |k+1,t=>bif (hp (WE N t)).isNone then t else TA N hp k (t+1)
def Aea(N t:Nat)(ct:CT)(was p:PV)(K:Nat->PV->List (Nat × Cd)->Option R):Option R:=
 match ct with
 |.sl es=>
  match was with
  |.own _ _ _=>FJ es p fun n c=>K (t+1) (.view (WE N t) es 0 n) [(WE N t,.ar false c)]
  |_=>Xw es p fun _ n c=>K t (.lst false es n c) []
 |ct=>CU ct p fun c=>K t c []
def NS(N:Nat):Nat->List CT->Al->Al->(Nat->Al->List (Nat × Cd)->Option R)->Option R
 |t,[],[],ps,K=>Af ps (K t [] [])
 |t,ct::cts,w::ws,ps,K=>Ac ps fun p ps=>Aea N t ct w p fun t' c b=>NS N t' cts ws ps fun t'' cs bs=>K t'' (c::cs) (b++bs)
 |_,_,_,_,_=>none
def Xs(N:Nat):Nat->List H0->List Al->(Nat->Option Cd)->((Nat->Option Cd)->List (Nat × Cd)->Option R)->Option R
 |_,[],ro,hp,K=>Af ro (K hp [])
 |t,.var id off cts ws::l,ro,hp,K=>Ac ro fun cs ro=>NS N t cts ws cs fun t' cs' bs=>
   match hp id with
   |some (.st c)=>Ab (Cw c cs' off) fun c=>Xs N t' l ro (Di hp id (some (.st c))) fun Dn bs'=>K Dn (bs++bs')
   |_=>none
 |t,.row id::l,ro,hp,K=>Ac ro fun cs ro=>Xs N t l ro (Di hp id (some (.ar false cs))) K
 |t,.none::l,ro,hp,K=>Ac ro fun _ ro=>Xs N t l ro hp K
def E5:B8->Bool
 |[]=>true
 |a::r=> !(r.any (Nat.beq a))&&E5 r
def CC(C:H2)(P:Program)(N:Nat)(call:A7)(s:St)(o:Oper)(f:FuncId)(c:Call)(K:St->Option R):Option R:=
 NX C P f s.hp 0 (IW P f c) (c.args.toList.map (Cm s.tm)) fun vs m x l=>
  A6 (E5 (l.flatMap H0.ids++x)&&m.all (fun i=> !((l.flatMap H0.ids++x).any (Nat.beq i)))&&Nat.blt 0 N&&Hm N o.dst) <|
  Ah (call f (Kp (C.kz f) c.args.toList vs)) fun rv ro=>
   DR P (C.shr f) N (o.dst.getD N) (Pr P o.type) rv fun ws bs=>
    A6 (bif Qi P o.type then !Nat.beq ws.length 1 else Nat.beq ws.length 1) <|
    A0f (TA N s.hp 100 0) fun t0=>Xs N t0 l ro (Vm (Aj s.hp m) x) fun Dn bs'=>
     A6 (Cf Dn (bs++bs')) (K ⟨B7 s.tm o.dst (Oj ws (Qi P o.type)),Ax Dn (bs++bs')⟩)
def Wp(C:H2)(P:Program)(N:Nat)(call:A7)(s:St)(o:Oper)(K:St->Option R):Option R:=
 match o.op with
 |.store t a x=>A6 (o.dst.isNone) (BX P s t (Cm s.tm a) (Cm s.tm x) K)
 |.call c=>
  match c.callee with
  |.builtin .append=>Dk o.dst fun d=>Ac c.args.toList fun b r=>Ac r fun x r'=>Af r' (Ac c.argTypes.toList fun t u=>Ac u fun tx _=>Qm P N s d t tx (Cm s.tm b) (Cm s.tm x) K)
  |.builtin .copy=>Ac c.args.toList fun b r=>Ac r fun x r'=>Af r' (Ac c.argTypes.toList fun t u=>Ac u fun tx _=>LI P N s o.dst t tx (Cm s.tm b) (Cm s.tm x) K)
  |.value (.func f)=>CC C P N call s o f c K
  |_=>none
 |_=>none
def TS(C:H2)(P:Program)(N:Nat)(call:A7)(o:Oper)(s:St)(K:St->Option R):Option R:=
 bif So C P o.op then Wp C P N call s o K
 else JU C P N call s.tm (rd s.hp) (Kq s.hp) o fun v fz nw=>CV N s o.dst v fz nw K
def Ek(C:H2)(P:Program)(N:Nat)(call:A7)(ops:Array Oper)(o:Oper)(s:St)(K:St->Option R):Option R:=
 match o.guard with
 |none=>TS C P N call o s K
 |some (j,want)=>
  match (ops[j]?).bind (·.dst) with
  |none=>none
  |some d=>
   match s.tm d with
   |.sc (.bool b)=>
    As b (bif want then TS C P N call o ⟨Di s.tm d (.sc (.bool true)),s.hp⟩ K else A6 (Hm N o.dst) (K ⟨B7 (Di s.tm d (.sc (.bool true))) o.dst (.sc undef),s.hp⟩))
     (bif want then A6 (Hm N o.dst) (K ⟨B7 (Di s.tm d (.sc (.bool false))) o.dst (.sc undef),s.hp⟩) else TS C P N call o ⟨Di s.tm d (.sc (.bool false)),s.hp⟩ K)
   |.sc (.tuple _)=>A6 (Hm N o.dst) (K ⟨B7 s.tm o.dst (.sc undef),s.hp⟩)
   |_=>none
def O5(C:H2)(P:Program)(N:Nat)(call:A7)(ops:Array Oper):List Oper->St->(St->Option R)->Option R
 |[],s,K=>K s
 |o::r,s,K=>Ek C P N call ops o s fun s'=>O5 C P N call ops r s' K
def MX(x y:Option R):Option R:=open Classical in if x=y then x else none
def WU(ops:Array Oper)(o:Oper)(s:St)(F:St->Option R):Option R:=
 match o.guard with
 |none=>F s
 |some (j,_)=>
  match (ops[j]?).bind (·.dst) with
  |none=>F s
  |some d=>
   match s.tm d with
   |.ub=>MX (F ⟨Di s.tm d (.sc (.bool true)),s.hp⟩) (F ⟨Di s.tm d (.sc (.bool false)),s.hp⟩)
   |_=>F s
def RF(C:H2)(P:Program)(N:Nat)(call:A7)(ops:Array Oper):List Oper->St->(St->Option R)->Option R
 |[],s,K=>K s
 |o::r,s,K=>WU ops o s fun s1=>Ek C P N call ops o s1 fun s'=>RF C P N call ops r s' K
end
def Agn(o:Oper):B8:=o.op.operands.toList.filterMap fun x=>match x with | .tmp t=>some t|_=>none
def looks(ops:Array Oper)(o:Oper):B8:=
 Agn o++(match o.guard with|some (g,_)=>((ops[g]?).bind (·.dst)).toList|none=>[])
def I0(P:Program)(o:Op):Bool:=
 match o with
 |.slice t .. =>match P.underlying t with|some (.array _ _)=>true|_=>false
 |.buildSlice t _ _=>match P.underlying t with|some (.slice e)=>Ku P [e]|_=>true
 |.convert _ dst _=>match P.underlying dst with|some .string=>true|_=>false
 |.alloc _ | .box .. | .makeSlice .. =>false
 |.move _ | .assign _ | .pick .. | .build .. | .binOp .. | .unOp .. | .fieldAddr .. | .field .. | .index .. | .indexAddr .. | .extract .. | .nilCheck _=>false
 |.call c=>match c.callee with | .builtin .len=>false | .builtin .min=>false | .builtin .max=>false|_=>true
 |_=>true
def IZ(C:H2)(P:Program)(ops:Array Oper)(x y:Oper):Bool:=
 (match x.dst with|some d=>(looks ops y).any (Nat.beq d)||(match y.dst with|some e=>Nat.beq d e|none=>false)|none=>false) ||
 (match y.dst with|some e=>(looks ops x).any (Nat.beq e)|none=>false) ||
 (So C P x.op&&I0 P y.op)||(So C P y.op&&I0 P x.op)
def Jp(ops:List Oper):B8->B8
 |acc=>match ops with
  |[]=>acc
  |o::r=>Jp r (acc++[o.after.toList.foldl (fun s e=>bif Region.binds .any e then s ||| 2 ^ e.on ||| acc.getD e.on 0 else s) 0])
def FR(C:H2)(P:Program)(ops:Array Oper)(bs:B8):List Oper->Nat->Bool
 |[],_=>true
 |o::r,i=>(ops.toList.zipIdx.all fun q=> !Nat.blt q.2 i || !IZ C P ops q.1 o||(bs.getD i 0).testBit q.2)&&FR C P ops bs r (i+1)
def LV(C:H2)(P:Program)(ops:Array Oper):Bool:=
 ops.toList.zipIdx.all (fun q=>q.1.after.toList.all fun e=> !Region.binds .any e||Nat.blt e.on q.2)&&FR C P ops (Jp ops.toList []) ops.toList 0
def Aw:PV->B8
 |.view id _ _ _=>[id]
 |.ptr id _=>[id]
 |_=>[]
def C5:PV->B8
 |.agg cs=>cs.flatMap Aw
 |p=>Aw p
def Ch:PV->B8
 |.tup ps=>ps.flatMap C5
 |p=>C5 p
def U5(P:Program)(o:Op):Bool:=
 match o with
 |.load .. =>true
 |.convert _ dst _=>(match P.underlying dst with|some .string=>true|_=>false)
 |_=>false
def Om(o:Op):Bool:=
 match o with
 |.call c=>(match c.callee with | .builtin .append=> !Zw c|_=>false)
 |_=>false
def Ajf(ops:Array Oper)(x y:Oper):Bool:=
 (match x.dst with|some d=>(looks ops y).any (Nat.beq d)||(match y.dst with|some e=>Nat.beq d e|none=>false)|none=>false) ||
 (match y.dst with|some e=>(looks ops x).any (Nat.beq e)|none=>false)
def Sr(C:H2)(P:Program)(x y:Oper):Bool:=(So C P x.op&&I0 P y.op)||(So C P y.op&&I0 P x.op)
def K9(C:H2)(P:Program)(x y:Oper):Bool:=(So C P x.op&&U5 P y.op)||(So C P y.op&&U5 P x.op)||(Om x.op&&Om y.op)
def Ah8(C:H2)(P:Program)(ops:Array Oper)(x y:Oper):Bool:=Ajf ops x y||(Sr C P x y && !K9 C P x y)
def Za(C:H2)(P:Program)(ops:Array Oper)(bs:B8):List Oper->Nat->Bool
 |[],_=>true
 |o::r,i=>(ops.toList.zipIdx.all fun q=> !Nat.blt q.2 i || !Ah8 C P ops q.1 o||(bs.getD i 0).testBit q.2)&&Za C P ops bs r (i+1)
def ID(C:H2)(P:Program)(ops:Array Oper):Bool:=
 ops.toList.zipIdx.all (fun q=>q.1.after.toList.all fun e=> !Region.binds .any e||Nat.blt e.on q.2)&&Za C P ops (Jp ops.toList []) ops.toList 0
def Ns(C:H2)(P:Program)(s:St)(o:Oper):B8:=
 let l:=o.op.operands.toList.flatMap fun y=>Ch (Cm s.tm y)
 bif So C P o.op && !Om o.op then l++l.flatMap (fun i=>match s.hp i with|some (.st c)=>c.flatMap Aw|_=>[])
 else bif U5 P o.op||Om o.op then l else []
def Aem(a b:B8):Bool:=a.all fun i=> !b.any (Nat.beq i)
def Z7(C:H2)(P:Program)(ops:Array Oper)(bs:B8)(i:Nat)(o:Oper):B8:=
 (ops.toList.zipIdx.filter fun q=>K9 C P q.1 o && !(Nat.blt q.2 i&&(bs.getD i 0).testBit q.2) && !(Nat.blt i q.2&&(bs.getD q.2 0).testBit i)).map (·.2)
def DU(C:H2)(P:Program)(ops:Array Oper)(bs:B8):List B8:=ops.toList.zipIdx.map fun q=>Z7 C P ops bs q.2 q.1
def EP(C:H2)(P:Program)(sm:List B8)(s:St)(i:Nat)(o:Oper):B8:=
 match sm.getD i [] with
 |[]=>[]
 |_::_=>Ns C P s o
def LC(C:H2)(P:Program)(sm:List B8)(s:St)(i:Nat)(o:Oper)(q:Nat × Oper × B8):Bool:=
 !((sm.getD i []).any (Nat.beq q.1))||Aem q.2.2 (EP C P sm s i o)
def Jh{R:Type}(C:H2)(P:Program)(N:Nat)(call:A7)(ops:Array Oper)(sm:List B8):List (Nat × Oper × B8)->B8->St->(St->Option R)->Option R
 |_,[],s,K=>K s
 |dn,i::l,s,K=>Dk ops[i]? fun o=>A6 (dn.all (LC C P sm s i o)&&(EP C P sm s i o).all (fun k=>(s.hp k).isSome)) (Ek C P N call ops o s fun s'=>Jh C P N call ops sm ((i,o,EP C P sm s i o)::dn) l s' K)
def Afp(m i:Nat):Nat:=m ||| 2 ^ i
def A0b(m i:Nat):Nat:=bif m.testBit i then m ^^^ 2 ^ i else m
def ZV(ops:Array Oper):List Oper->Nat->Nat
 |[],m=>m
 |o::r,m=>
  let m1:=ZV ops r m
  let m2:=match o.dst with|some d=>A0b m1 d|none=>m1
  (looks ops o).foldl Afp m2
def P3:Code->Nat->(Nat->Nat)->Nat->Nat
 |.skip,ln,_,_=>ln
 |.region _ ops _,ln,_,_=>ZV ops ops.toList ln
 |.seq a b,ln,lx,lr=>P3 a (P3 b ln lx lr) lx lr
 |.cond c a b,ln,lx,lr=>let m:=P3 a ln lx lr ||| P3 b ln lx lr;match c with | .tmp d=>Afp m d|_=>m
 |.block id c,ln,lx,lr=>P3 c ln (fun j=>bif Nat.beq j id then ln else lx j) lr
 |.loop c,_,lx,lr=>P3 c (P3 c 0 lx lr) lx lr
 |.exit id,_,lx,_=>lx id
 |.ret,_,_,lr=>lr
 |_,_,_,_=>0
def UA(ops:List Oper):B8:=(ops.filterMap fun o=>o.guard.map (·.1)).eraseDups
def Ox:Code->Nat
 |.region _ _ _=>1
 |.seq a b=>Ox a+Ox b
 |.cond _ a b=>Ox a+Ox b
 |.block _ c=>Ox c
 |.loop c=>Ox c
 |_=>0
def CA:Code->Nat
 |.skip=>1
 |.region _ ops _=>2 ^ min 6 (UA ops.toList).length
 |.seq a b=>bif (Nat.ble 7 (CA a)&&Nat.ble 6 (Ox b))||(Nat.ble 5 (CA a)&&Nat.ble 9 (Ox b)) then CA b else min 1000 (CA a*CA b)
 |.cond _ a b=>CA a+CA b
 |.block _ c=>CA c
 |.loop _=>1
 |.exit _=>1
 |_=>0
def Apl(P:Program)(o:Oper):Bool:=
 match o.op with
 |.load t _=>Vp P t&&Nat.ble 8 (Bj P t)
 |.store t _ _=>Vp P t&&Nat.ble 8 (Bj P t)
 |_=>false
def VH(P:Program):Code->Bool
 |.region _ ops _=>ops.toList.any (Apl P)
 |.seq a _=>VH P a
 |_=>false
def Aam(P:Program):Code->Bool
 |.region _ ops _=>ops.toList.any (Apl P)
 |.seq _ b=>Aam P b
 |_=>false
def Axu:Code->Nat
 |.seq a b=>match b with
  |.ret=>(match a with | .region _ ops _=>(UA ops.toList).length|_=>0)
  |_=>Axu b
 |_=>0
def Ah7(x y:Code):Bool:=(Nat.beq (CA x) 1&&Nat.beq (Axu y) 11)||(Nat.beq (CA x) 4&&Nat.beq (Ox x) 7&&(Nat.beq (Ox y) 3||Nat.beq (Ox y) 1))||(Nat.beq (CA x) 9&&Nat.beq (Ox x) 5&&Nat.beq (Ox y) 5)
def FG(a b:Code):Bool:=Ah7 a b||(match b with | .seq x y=>Ah7 x y|_=>false)
def Aju(P:Program)(a b:Code):Bool:=(Nat.ble 7 (CA a)&&Nat.ble 6 (Ox b))||(Nat.ble 5 (CA a)&&Nat.ble 9 (Ox b))||FG a b||VH P b||Aam P a
def Nc(m:Nat):Nat->B8
 |0=>[]
 |n+1=>Nc m n++(bif m.testBit n then [n] else [])
def lk(l:List (Nat × PV))(i:Nat):PV:=
 match l with
 |[]=>.top
 |(j,p)::r=>bif Nat.beq i j then p else lk r i
def H4(l:List (Nat × Cd))(i:Nat):Option Cd:=
 match l with
 |[]=>none
 |(j,b)::r=>bif Nat.beq i j then some b else H4 r i
def Wl(l:List (Nat × Nat))(i:Nat):Option Nat:=
 match l with
 |[]=>none
 |(j,b)::r=>bif Nat.beq i j then some b else Wl r i
def FK(N:Nat)(s:St)(i:Nat):St:=
 match s.tm i with
 |.lst true es 0 []=>
  bif (s.hp i).isNone then ⟨Di s.tm i (.view i es 0 0),Di s.hp i (some (.ar false []))⟩
  else bif (s.hp (i+N*3000)).isNone then ⟨Di s.tm i (.view (i+N*3000) es 0 0),Di s.hp (i+N*3000) (some (.ar false []))⟩
  else s
 |_=>s
def OG(N:Nat)(id:Nat)(s:St)(j:Nat):St:=
 match s.hp id with
 |some (.st c)=>
  match c[j]? with
  |some (.lst true es 0 [])=>bif (s.hp (id+N*(j+1))).isNone then ⟨s.tm,Di (Di s.hp id (some (.st (c.set j (.view (id+N*(j+1)) es 0 0))))) (id+N*(j+1)) (some (.ar false []))⟩ else s
  |_=>s
 |_=>s
def PW(N:Nat)(s:St)(i:Nat):St:=
 match s.tm i with
 |.ptr id _=>
  match s.hp id with
  |some (.st c)=>(List.range c.length).foldl (OG N id) s
  |_=>s
 |_=>s
def NV(m:List (Nat × Nat))(old new:Nat):List (Nat × Nat):=
 match Wl m old with
 |some _=>m
 |none=>m++[(old,new)]
def S4(N new:Nat):Al->Nat->List (Nat × Nat)->List (Nat × Nat)
 |[],_,m=>m
 |.view id _ _ _::r,j,m=>S4 N new r (j+1) (NV m id (new+N*(j+1)))
 |_::r,j,m=>S4 N new r (j+1) m
def FD(N:Nat)(s:St)(m:List (Nat × Nat))(i:Nat):List (Nat × Nat):=
 match s.tm i with
 |.view id _ _ _=>NV m id i
 |.ptr id _=>
  match Wl m id with
  |some _=>m
  |none=>
   match s.hp id with
   |some (.st c)=>S4 N i c 0 (NV m id i)
   |_=>NV m id i
 |.agg c=>S4 N i c 0 m
 |_=>m
def XP(m:List (Nat × Nat)):PV->PV
 |.view id es off n=>match Wl m id with|some j=>.view j es off n|none=>.top
 |.ptr id off=>match Wl m id with|some j=>.ptr j off|none=>.top
 |.sc v=>.sc v
 |.lst z es n c=>.lst z es n c
 |.iptr c off=>.iptr c off
 |_=>.top
def Ab7(m:List (Nat × Nat)):PV->PV
 |.agg c=>.agg (c.map (XP m))
 |p=>XP m p
def Ak2(m:List (Nat × Nat)):Cd->Cd
 |.st c=>.st (c.map (XP m))
 |b=>b
def Ee(N i:Nat):Nat:=i+N*2000
def VC(N:Nat)(hp:Nat->Option Cd):Nat->List (Nat × Nat)
 |0=>[]
 |i+1=>bif (hp (Ee N i)).isSome then VC N hp i++[(Ee N i,Ee N i)] else VC N hp i
def Up(N:Nat)(hp:Nat->Option Cd):Nat->List (Nat × Nat)->List (Nat × Nat)
 |0,m=>m
 |i+1,m=>
  match hp (Ee N i) with
  |some (.st c)=>S4 N (Ee N i) c 0 (Up N hp i m)
  |_=>Up N hp i m
def A4f(N:Nat)(hp:Nat->Option Cd)(k:Nat):List (Nat × Nat):=Up N hp k (VC N hp k)
def Nj(m:List (Nat × Nat))(hp:Nat->Option Cd):List (Nat × Nat)->List (Nat × Cd)
 |[]=>[]
 |(old,new)::r=>match hp old with
  |some b=>(new,Ak2 m b)::Nj m hp r
  |none=>Nj m hp r
section
variable {R:Type}
def Aav(N:Nat)(ls:B8)(q:Bool)(s:St)(K:St->Option R):Option R:=
 let s2:=bif q then s else ls.foldl (PW N) (ls.foldl (FK N) s)
 let m:=ls.foldl (FD N s2) (A4f N s2.hp 8)
 A6 (E5 (m.map (·.1))&&E5 (m.map (·.2))) (K ⟨lk (ls.map fun i=>(i,Ab7 m (s2.tm i))),H4 (Nj m s2.hp m)⟩)
def Y5(N L:Nat)(s:St)(K:St->Option R):Option R:=Aav N (Nc L N) false s K
def Abm(N L:Nat)(s:St)(K:St->Option R):Option R:=Aav N (Nc L N) true s K
def Ahc(F:(St->Option R)->St->Option R)(nm:St->(St->Option R)->Option R):Nat->St->Option R
 |0,_=>none
 |n+1,s=>F (fun s'=>nm s' (Ahc F nm n)) s
def HQ(n:Nat)(F:St->Option R)(s:St):Option R:=
 match n with
 |0=>none
 |_+1=>F s
def Ahl(s:St)(c:Operand)(kt kf:St->Option R):Option R:=
 match c with
 |.tmp d=>
  match s.tm d with
  |.sc (.bool b)=>As b (kt ⟨Di s.tm d (.sc (.bool true)),s.hp⟩) (kf ⟨Di s.tm d (.sc (.bool false)),s.hp⟩)
  |.ub=>MX (kt s) (kf s)
  |_=>none
 |.const (.bool true)=>kt s
 |.const (.bool false)=>kf s
 |_=>none
def Qv(C:H2)(P:Program)(fu N:Nat)(call:A7):Code->Nat->(Nat->Nat)->Nat->(St->Option R)->(Nat->St->Option R)->(St->Option R)->St->Option R
 |.skip,_,_,_,kn,_,_,s=>kn s
 |.region _ ops draw,_,_,_,kn,_,_,s=>TK (draw && !LV C P ops) (A6 (ID C P ops) (Ap1 (DU C P ops (Jp ops.toList [])) fun sm=>Jh C P N call ops sm [] (List.range ops.size) s kn)) (TK draw (O5 C P N call ops ops.toList s kn) (RF C P N call ops ops.toList s kn))
 |.seq a b,ln,lx,lr,kn,kx,kr,s=>Qv C P fu N call a (P3 b ln lx lr) lx lr (fun s'=>TK (Aju P a b) (TK (FG a b) (Abm N (P3 b ln lx lr) s' (HQ fu fun s''=>Qv C P fu N call b ln lx lr kn kx kr s'')) (Y5 N (P3 b ln lx lr) s' (HQ fu fun s''=>Qv C P fu N call b ln lx lr kn kx kr s''))) (Qv C P fu N call b ln lx lr kn kx kr s')) kx kr s
 |.cond c a b,ln,lx,lr,kn,kx,kr,s=>Ahl s c (Qv C P fu N call a ln lx lr kn kx kr) (Qv C P fu N call b ln lx lr kn kx kr)
 |.block id c,ln,lx,lr,kn,kx,kr,s=>Qv C P fu N call c ln (fun j=>bif Nat.beq j id then ln else lx j) lr kn (fun j s'=>bif Nat.beq j id then kn s' else kx j s') kr s
 |.loop c,ln,lx,lr,_,kx,kr,s=>
  Y5 N (P3 (.loop c) ln lx lr) s (Ahc (fun k s'=>Qv C P fu N call c (P3 (.loop c) ln lx lr) lx lr k kx kr s') (Y5 N (P3 (.loop c) ln lx lr)) fu)
 |.exit id,_,_,_,_,kx,_,s=>kx id s
 |.ret,_,_,_,_,_,kr,s=>kr s
 |_,_,_,_,_,_,_,_=>none
def Ahk(id:Nat)(t:CT)(p:PV)(K:PV->List (Nat × Cd)->Option R):Option R:=
 match t with
 |.sl es=>
  match p with
  |.own es' n c=>bif Nat.beq es' es then K (.view id es 0 n) [(id,.ar false c)] else none
  |p=>Xw es p fun z n c=>K (.lst z es n c) []
 |t=>CU t p fun c=>K c []
def DO(N:Nat):Nat->List CT->Al->(Al->List (Nat × Cd)->Option R)->Option R
 |_,[],ps,K=>Af ps (K [] [])
 |id,t::ts,ps,K=>Ac ps fun p ps=>Ahk id t p fun c b=>DO N (id+N) ts ps fun cs bs=>K (c::cs) (b++bs)
def inK(P:Program)(N i:Nat)(t:TypeId)(p:PV)(K:PV->List (Nat × Cd)->Option R):Option R:=
 match AJ P t with
 |some e=>Xm p fun ps=>A6 (Nat.blt i 8) (DO N (Ee N i+N) (Jj P e) ps fun cs bs=>K (.ptr (Ee N i) 0) ((Ee N i,.st cs)::bs))
 |none=>
  match p with
  |.tup ps=>Dk (Avi P t) fun e=>A6 (Nat.blt i 8) (Ac ps fun q r=>Af r (FJ (Bj P e) q fun n c=>K (.view (Ee N i) (Bj P e) 0 n) [(Ee N i,.ar false c)]))
  |p=>
   bif Cp P t then Fo p fun ps=>DO N (i+N) (Jj P t) ps fun cs bs=>K (.agg cs) bs
   else DO N (i+N) (Jj P t) [p] fun cs bs=>Ac cs fun c r=>Af r (K c bs)
def Afb(P:Program)(N:Nat):Nat->List TypeId->Al->(List (Nat × PV)->List (Nat × Cd)->Option R)->Option R
 |_,[],ps,K=>Af ps (K [] [])
 |i,t::ts,ps,K=>Ac ps fun p ps=>inK P N i t p fun v bs=>Afb P N (i+1) ts ps fun vs bs'=>K ((i,v)::vs) (bs++bs')
def Apu(hp:Nat->Option Cd)(t:CT)(p:PV)(K:PV->B8->B8->Option R):Option R:=
  match t with
  |.sl es=>
    match p with
    |.view id es' off n=>bif Nat.beq es' es&&Nat.beq off 0 then
        (match hp id with
         |some (.ar false c)=>A6 (decide (n*es<=c.length)) (K (.own es n (c.take (n*es))) [id] [])
         |_=>none) else none
    |p=>Xw es p fun z _ _=>A6 z (K (.own es 0 []) [] [])
  |t=>CU t p fun c=>K c [] []
def Aa3(shr:Bool)(hp:Nat->Option Cd)(t:CT)(p:PV)(K:PV->B8->B8->Option R):Option R:=
 bif shr then P5 (Kq hp) t p fun c m=>K c [] m else Apu hp t p K
def CQ(shr:Bool)(hp:Nat->Option Cd):List CT->Al->(Al->B8->B8->Option R)->Option R
 |[],[],K=>K [] [] []
 |t::ts,p::ps,K=>Aa3 shr hp t p fun c m z=>CQ shr hp ts ps fun cs ms zs=>K (c::cs) (m++ms) (z++zs)
 |_,_,_=>none
def Agb(P:Program)(shr:Bool)(hp:Nat->Option Cd)(t:TypeId)(p:PV)(K:PV->B8->B8->Option R):Option R:=
 match AJ P t with
 |some e=>
  match p with
  |.ptr id off=>
   match hp id with
   |some (.st c)=>A6 (Nat.beq off 0) (CQ shr hp (Jj P e) c fun cs m z=>K (.pbox cs) (id::m) z)
   |_=>none
  |_=>none
 |none=>
  bif Cp P t then Fo p fun ps=>CQ shr hp (Jj P t) ps fun cs m z=>K (.agg cs) m z
  else CQ shr hp (Jj P t) [p] fun cs m z=>Ac cs fun c r=>Af r (K c m z)
def Ah0(P:Program)(s:St)(r:ResultVar)(K:PV->Option R):Option R:=
 match r with
 |.tmp t=>K (s.tm t)
 |.cell a t=>Zl false P (rd s.hp) (Kq s.hp) t (s.tm a) K
def OZ(P:Program)(shr:Bool)(s:St):List ResultVar->List TypeId->(Al->B8->B8->Option R)->Option R
 |[],[],K=>K [] [] []
 |r::rs,t::ts,K=>Ah0 P s r fun p=>Agb P shr s.hp t p fun v m z=>OZ P shr s rs ts fun vs ms zs=>K (v::vs) (m++ms) (z++zs)
 |_,_,_=>none
def FW(hp:Nat->Option Cd):List CT->Al->Al->(Al->B8->B8->Option R)->Option R
 |[],[],[],K=>K [] [] []
 |t::ts,w::ws,p::ps,K=>Aa3 (match w with | .own _ _ _=>false|_=>true) hp t p fun c m z=>FW hp ts ws ps fun cs ms zs=>K (c::cs) (m++ms) (z++zs)
 |_,_,_,_=>none
def BM(P:Program)(N:Nat)(hp:Nat->Option Cd):Nat->List TypeId->Al->(List Al->B8->B8->B8->Option R)->Option R
 |_,[],ps,K=>Af ps (K [] [] [] [])
 |i,t::ts,ps,K=>Ac ps fun p ps=>
  match p with
  |.pbox ws=>Dk (AJ P t) fun e=>
    match hp (Ee N i) with
    |some (.st c)=>FW hp (Jj P e) ws c fun cs m z=>BM P N hp (i+1) ts ps fun r m' z' q=>K (cs::r) (m++m') (z++z') (Ee N i::q)
    |_=>none
  |.tup _=>
    match hp (Ee N i) with
    |some (.ar false c)=>BM P N hp (i+1) ts ps fun r m' z' q=>K (c::r) m' z' (Ee N i::q)
    |_=>none
  |_=>BM P N hp (i+1) ts ps K
def Aay(rs:List ResultVar):Nat:=rs.foldl (fun m r=>match r with | .tmp t=>Afp m t | .cell a _=>Afp m a) 0
end
def KC(P:Program):Nat->List TypeId->Nat->Nat
 |_,[],m=>m
 |i,t::ts,m=>KC P (i+1) ts (match P.underlying t with|some (.pointer _)=>Afp m i|_=>m)
def Ade(C:H2)(P:Program)(f:FuncId)(fn:Func)(args:Al)(s:St):Option Bz:=
 OZ P (C.shr f) s fn.results.toList fn.resultTypes.toList fun vs m z=>BM P fn.ntmps s.hp 0 fn.params.toList args fun os m' z' q=>
  A6 (E5 ((m++m')++q)&&(z++z').all (fun i=> !(((m++m')++q).any (Nat.beq i)))) (some ⟨vs,os⟩)
def Ars(C:H2)(P:Program)(fu:Nat)(call:A7)(f:FuncId)(fn:Func)(c:Code)(args:Al):Option Bz:=
  Afb P fn.ntmps 0 fn.params.toList args fun tms bs=>A6 (Nat.ble args.length fn.ntmps&&Cf (fun _=>none) bs)
    (let lr:=KC P 0 fn.params.toList (Aay fn.results.toList)
     Qv C P fu fn.ntmps call c lr (fun _=>0) lr (Ade C P f fn args) (fun _ _=>none) (Ade C P f fn args) ⟨lk tms,H4 bs⟩)
def Ae(C:H2)(P:Program)(fu:Nat):Nat->FuncId->Al->Option Bz
 |0,_,_=>none
 |d+1,f,args=>
  match C.ext f with
  |some g=>g args
  |none=>
   match P.funcs[f]? with
   |none=>none
   |some fn=>match fn.body with
    |none=>none
    |some c=>Ars C.core P fu (Ae C P fu d) f fn c args
inductive Dir where
 |l
 |r
 |i (m:Nat)
section
variable {R:Type}
def X7(C:H2)(P:Program)(fu N:Nat)(call:A7):List Dir->Code->Nat->(Nat->Nat)->Nat->(St->Option R)->(Nat->St->Option R)->(St->Option R)->Nat->St->Option R
 |[],.seq _ b,ln,lx,lr,kn,kx,kr,n,s=>HQ n (fun s''=>Qv C P fu N call b ln lx lr kn kx kr s'') s
 |[],.loop c,ln,lx,lr,_,kx,kr,n,s=>Ahc (fun k s'=>Qv C P fu N call c (P3 (.loop c) ln lx lr) lx lr k kx kr s') (Y5 N (P3 (.loop c) ln lx lr)) n s
 |.l::p,.seq a b,ln,lx,lr,kn,kx,kr,n,s=>X7 C P fu N call p a (P3 b ln lx lr) lx lr (fun s'=>TK (Aju P a b) (TK (FG a b) (Abm N (P3 b ln lx lr) s' (HQ fu fun s''=>Qv C P fu N call b ln lx lr kn kx kr s'')) (Y5 N (P3 b ln lx lr) s' (HQ fu fun s''=>Qv C P fu N call b ln lx lr kn kx kr s''))) (Qv C P fu N call b ln lx lr kn kx kr s')) kx kr n s
 |.r::p,.seq _ b,ln,lx,lr,kn,kx,kr,n,s=>X7 C P fu N call p b ln lx lr kn kx kr n s
 |.l::p,.cond _ a _,ln,lx,lr,kn,kx,kr,n,s=>X7 C P fu N call p a ln lx lr kn kx kr n s
 |.r::p,.cond _ _ b,ln,lx,lr,kn,kx,kr,n,s=>X7 C P fu N call p b ln lx lr kn kx kr n s
 |.l::p,.block id c,ln,lx,lr,kn,kx,kr,n,s=>X7 C P fu N call p c ln (fun j=>bif Nat.beq j id then ln else lx j) lr kn (fun j s'=>bif Nat.beq j id then kn s' else kx j s') kr n s
 |.i m::p,.loop c,ln,lx,lr,_,kx,kr,n,s=>
  X7 C P fu N call p c (P3 (.loop c) ln lx lr) lx lr
   (fun s'=>Y5 N (P3 (.loop c) ln lx lr) s' (Ahc (fun k s'=>Qv C P fu N call c (P3 (.loop c) ln lx lr) lx lr k kx kr s') (Y5 N (P3 (.loop c) ln lx lr)) m)) kx kr n s
 |_,_,_,_,_,_,_,_,_,_=>none
end
def Axh(C:H2)(P:Program)(fu:Nat)(call:A7)(f:FuncId)(fn:Func)(c:Code)(args:Al)(p:List Dir)(n:Nat)(s:St):Option Bz:=
 let lr:=KC P 0 fn.params.toList (Aay fn.results.toList)
 X7 C P fu fn.ntmps call p c lr (fun _=>0) lr (Ade C P f fn args) (fun _ _=>none) (Ade C P f fn args) n s
def Aob:B8:=[
 1000000]
def Asc:B8:=[
 12,
 5,
 1000000]
def Asa:B8:=[
 1000000]
def Ak8:B8:=[
 1000000]
def Asg:B8:=[
 1000000]
def JZ(args:Al):Option Bz:=
 match args with
 |[.sc (.string s)]=>bif decide (s.size<=9223372036854775807) then some ⟨[.sc (.bool (Lib.validD s.data.toList))],[]⟩ else none
 |_=>none
def Zh:B8:=[
 77,
 89,
 66,
 92,
 90,
 109,
 119,
 120,
 112,
 95,
 69,
 47,
 46,
 1000000]
def A3e:B8:=[
 1000000]
def CB:H2:=⟨fun f=>Asc.any (Nat.beq f),fun f i=>Nat.beq i 0&&Asg.any (Nat.beq f),fun f i=>(Nat.beq i 0&&Asa.any (Nat.beq f))||(Nat.beq i 2&&Ak8.any (Nat.beq f)),fun f=>Aob.any (Nat.beq f),fun _=>none,fun N=>A3e.any (Nat.beq N)⟩
def CX(xs:FuncId->Option (Al->Option Bz)):H2:={ CB with ext:=fun f=>bif Zh.any (Nat.beq f) then none else xs f }
def Arf(f:Func):Code:=match f.body with|some c=>c|none=>.skip
section
variable {R:Type}{r:Option R}
theorem Bd{k:IntKind}{p:PV}{K:Int->Option R}{n:Int}(h:p=.sc (.int k n))(hk:K n=r):Eh k p K=r:=by subst h;unfold Eh;simp[hk]
theorem A52{p:PV}{K:IntKind->Int->Option R}{k:IntKind}{n:Int}(h:p=.sc (.int k n))(hk:K k n=r):El p K=r:=by subst h;exact hk
theorem A4{p:PV}{K:Bool->Option R}{b:Bool}(h:p=.sc (.bool b))(hk:K b=r):Cb p K=r:=by subst h;exact hk
theorem Bc{p:PV}{K:ByteArray->Option R}{s:ByteArray}(h:p=.sc (.string s))(hk:K s=r):Ai p K=r:=by subst h;exact hk
theorem Afu{es:Nat}{p:PV}{K:Bool->Nat->Al->Option R}{z:Bool}{n:Nat}{c:Al}(h:p=.lst z es n c)(hk:K z n c=r):Xw es p K=r:=by subst h;unfold Xw;simp[Pz,hk]
theorem Ag4{es:Nat}{p:PV}{K:Nat->Al->Option R}{n:Nat}{c:Al}(h:p=.own es n c)(hk:K n c=r):FJ es p K=r:=by subst h;unfold FJ;simp[Pz,hk]
theorem Bf{b:Bool}{K:Option R}(h:b=true)(hk:K=r):A6 b K=r:=by subst h;exact hk
theorem Az5{b:Bool}{x y:Option R}(h:b=true)(hx:x=r):As b x y=r:=by subst h;exact hx
theorem Azy{b:Bool}{x y:Option R}(h:b=false)(hx:y=r):As b x y=r:=by subst h;exact hx
theorem Fe{α:Type}{o:Option α}{K:α->Option R}{a:α}(h:o=some a)(hk:K a=r):Dk o K=r:=by subst h;exact hk
theorem A0{α:Type}{l:List α}{K:α->List α->Option R}{a:α}{t:List α}(h:l=a::t)(hk:K a t=r):Ac l K=r:=by subst h;exact hk
theorem Be{α:Type}{l:List α}{K:Option R}(h:l=[])(hk:K=r):Af l K=r:=by subst h;exact hk
theorem Nb{p:PV}{K:Al->Option R}{c:Al}(h:p=.agg c)(hk:K c=r):Fo p K=r:=by subst h;exact hk
theorem Ayv{p:PV}{K:Al->Option R}{c:Al}(h:p=.pbox c)(hk:K c=r):Xm p K=r:=by subst h;exact hk
theorem Az{o:Option Bz}{K:Al->List Al->Option R}{v:Al}{q:List Al}(h:o=some ⟨v,q⟩)(hk:K v q=r):Ah o K=r:=by subst h;exact hk
end
theorem Ab5(a b:Int):(a==b)=decide (a=b):=by by_cases h:a=b<;>simp[h]
section
variable {R:Type}
theorem FL(v:Al)(o:List Al)(K:Al->List Al->Option R):Ah (some ⟨v,o⟩) K=K v o:=by exact id rfl
theorem PQ{α:Type}(K:Option R):Af ([]:List α) K=K:=by exact id rfl
theorem FS{α:Type}(a:α)(r:List α)(K:α->List α->Option R):Ac (a::r) K=K a r:=by exact id rfl
theorem FQ(b:Bool)(K:Bool->Option R):Cb (.sc (.bool b)) K=K b:=by exact id rfl
theorem PN(s:ByteArray)(K:ByteArray->Option R):Ai (.sc (.string s)) K=K s:=by exact id rfl
theorem HF(k:IntKind)(n:Int)(K:Int->Option R):Eh k (.sc (.int k n)) K=K n:=by unfold Eh;simp
theorem Aha(k:IntKind)(n:Int)(K:IntKind->Int->Option R):El (.sc (.int k n)) K=K k n:=by exact id rfl
theorem Ao1(z:Bool)(es n:Nat)(c:Al)(K:Bool->Nat->Al->Option R):Xw es (.lst z es n c) K=K z n c:=by unfold Xw;simp
theorem Ap4(es n:Nat)(c:Al)(K:Nat->Al->Option R):FJ es (.own es n c) K=K n c:=by unfold FJ;simp
theorem Aj1(c:Al)(K:Al->Option R):Fo (.agg c) K=K c:=by exact id rfl
theorem ZS(c:Al)(K:Al->Option R):Xm (.pbox c) K=K c:=by exact id rfl
theorem Ahq{α:Type}(a:α)(K:α->Option R):Dk (some a) K=K a:=by exact id rfl
theorem Pg{α:Type}(a:α)(K:α->Option R):Ab a K=K a:=by exact id rfl
theorem Af1(K:Option R):A6 true K=K:=by exact id rfl
theorem QI(p:Prop)[Decidable p](K:Option R)(h:p):A6 (decide p) K=K:=by simp[A6,h]
theorem Aa9(b c:Bool)(K:Option R):A6 (b&&c) K=A6 b (A6 c K):=by cases b<;>rfl
theorem OI(x y:Option R):As true x y=x:=by exact id rfl
theorem PX(x y:Option R):As false x y=y:=by exact id rfl
theorem KD(p:Prop)[Decidable p](x y:Option R)(h:p):As (decide p) x y=x:=by simp[As,h]
theorem JA(p:Prop)[Decidable p](x y:Option R)(h:¬p):As (decide p) x y=y:=by simp[As,h]
theorem Aqe(p:Prop)[Decidable p](x y:Option R):As (decide p) x y=if p then x else y:=by by_cases h:p<;>simp[As,h]
theorem Abd(a b:Int)(x y:Option R):As (a==b) x y=if a=b then x else y:=by rw[Ab5,Aqe]
theorem Aad(x:Option R):MX x x=x:=by unfold MX;simp
end
theorem Ar{x:Int}(h1: -9223372036854775808<=x)(h2:x<=9223372036854775807):IntKind.wrap .i64 x=x:=by have:=IntWalk.i64_in x (by omega);exact this
theorem E9{x:Int}(h1:0<=x)(h2:x<=18446744073709551615):IntKind.wrap .u64 x=x:=by simp only[IntKind.wrap,IntKind.signed,IntKind.bits];simp;omega
theorem Iy{x:Int}(h1:0<=x)(h2:x<=255):IntKind.wrap .u8 x=x:=by simp only[IntKind.wrap,IntKind.signed,IntKind.bits];simp;omega
theorem HJ(x:Int):0<=IntKind.wrap .u64 x/\IntKind.wrap .u64 x<=18446744073709551615:=by simp only[IntKind.wrap,IntKind.signed,IntKind.bits];simp;omega
theorem E0{α:Type}{l r:List α}{x:α}{i:Nat}(h:l.drop i=x::r):i<l.length/\l[i]?=some x/\l.drop (i+1)=r:=by
 have h1:i<l.length:=by
  rcases Ht i l.length with h1|h1
  ·exact h1
  ·rw[List.drop_of_length_le h1] at h;cases h
 rw[List.drop_eq_getElem_cons h1] at h;injection h with h2 h3;exact⟨h1,by rw[List.getElem?_eq_getElem h1,h2],h3⟩
theorem drop_nil{α:Type}{l:List α}{i:Nat}(h:l.drop i=[]):l.length<=i:=by have:=congrArg List.length h;simp at this;omega
section
variable {α:Type}{f:α->Al}{k:Nat}
theorem Ah9(hf:∀x,(f x).length=k):∀(l:List α),(l.flatMap f).length=l.length*k
 |[]=>by simp
 |x::l=>by simp[hf x,Ah9 hf l,Nat.succ_mul];omega
theorem ZQ(hf:∀x,(f x).length=k):∀(l:List α)(i:Nat),(l.flatMap f).drop (i*k)=(l.drop i).flatMap f
 |l,0=>by simp
 |[],i+1=>by simp
 |x::l,i+1=>by
  rw[Kg,Nat.succ_mul,Nat.add_comm,<-List.drop_drop,List.drop_append_of_le_length (by rw[hf x];omega)]
  rw[show (f x).drop k=[] from List.drop_of_length_le (by rw[hf x];omega),Zzq]
  exact ZQ hf l i
theorem Aa2(hf:∀x,(f x).length=k):∀(l:List α)(i:Nat),(l.flatMap f).take (i*k)=(l.take i).flatMap f
 |l,0=>by simp
 |[],i+1=>by simp
 |x::l,i+1=>by
  rw[Kg,Nat.succ_mul,Nat.add_comm,List.take_succ_cons,Kg,<-Aa2 hf l i];rw[show k+i*k=(f x).length+i*k by rw[hf x],List.take_length_add_append]
theorem Avz(hf:∀x,(f x).length=k){l:List α}{i:Nat}{x:α}(h:l[i]?=some x){j:Nat}(hj:j<k):(l.flatMap f).getD (i*k+j) .top=(f x).getD j .top:=by
 have h1:((l.flatMap f).drop (i*k))[j]?=(l.flatMap f)[i*k+j]?:=List.getElem?_drop;rw[ZQ hf] at h1
 have h2:i<l.length:=by
  rcases Ht i l.length with h1|h1
  ·exact h1
  ·rw[List.getElem?_eq_none h1] at h;cases h
 rw[List.drop_eq_getElem_cons h2,Kg] at h1;have h3:l[i]=x:=by rw[List.getElem?_eq_getElem h2] at h;injection h
 rw[h3,List.getElem?_append_left (by rw[hf x];exact hj)] at h1
 simp only[List.getD_eq_getElem?_getD,<-h1]
theorem JN{c:Al}{p:PV}{i:Nat}(h:i<c.length):Cw c [p] i=c.set i p:=by unfold Cw;rw[List.set_eq_take_append_cons_drop,Bq h];simp
end
theorem Asn{α:Type}{l:List α}{i:Nat}{x:α}(h:l[i]?=some x):i<l.length:=by
 rcases Ht i l.length with h1|h1
 ·exact h1
 ·rw[List.getElem?_eq_none h1] at h;cases h
abbrev Aqc(k:IntKind)(n:Int):Al:=[.sc (.int k n)]
abbrev Bk(k:IntKind)(l:Am):Al:=l.flatMap (Aqc k)
theorem HA(k:IntKind)(n:Int):(Aqc k n).length=1:=rfl
theorem ati{k:IntKind}{l:Am}{i:Nat}{n:Int}(h:l[i]?=some n):(Bk k l).getD i .top=.sc (.int k n):=by
 have:=Avz (HA k) h (j:=0) (by omega)
 simpa using this
theorem C3(k:IntKind)(l:Am):(Bk k l).length=l.length:=by rw[Ah9 (HA k)];omega
theorem UK(k:IntKind)(l:Am)(n:Int):Bk k l++[.sc (.int k n)]=Bk k (l++[n]):=by simp
theorem tki(k:IntKind)(l:Am):List.take l.length (Bk k l)=Bk k l:=FF (by rw[C3];omega)
theorem A2:type_of% @FL/\type_of% @PQ/\type_of% @FS/\type_of% @FQ/\type_of% @PN/\type_of% @HF/\type_of% @Aha/\type_of% @Ao1/\type_of% @Ap4/\type_of% @Aj1/\type_of% @ZS/\type_of% @Ahq/\type_of% @Pg/\type_of% @Af1/\type_of% @QI/\type_of% @Aa9/\type_of% @OI/\type_of% @PX/\type_of% @KD/\type_of% @JA/\type_of% @Aad/\type_of% @Bool.not_true/\type_of% @Bool.not_false/\type_of% @Bool.false_eq_true/\type_of% @if_true.{1}/\type_of% @if_false.{1}/\type_of% @Bool.true_and/\type_of% @Bool.and_true/\type_of% @Bool.false_and/\type_of% @Bool.and_false/\type_of% @decide_true/\type_of% @decide_false:=
 ⟨@FL,@PQ,@FS,@FQ,@PN,@HF,@Aha,@Ao1,@Ap4,@Aj1,@ZS,@Ahq,@Pg,@Af1,@QI,@Aa9,@OI,@PX,@KD,@JA,@Aad,@Bool.not_true,@Bool.not_false,@Bool.false_eq_true,@if_true.{1},@if_false.{1},@Bool.true_and,@Bool.and_true,@Bool.false_and,@Bool.and_false,@decide_true,@decide_false⟩
theorem gT:type_of% @Bool.and_eq_true/\type_of% @decide_eq_true_eq/\type_of% @beq_iff_eq.{0}/\type_of% @bne_iff_ne.{0}/\type_of% @ne_eq.{1}/\type_of% @Bool.not_eq_true'/\type_of% @true_and/\type_of% @and_true:=
 ⟨@Bool.and_eq_true,@decide_eq_true_eq,@beq_iff_eq.{0},@bne_iff_ne.{0},@ne_eq.{1},@Bool.not_eq_true',@true_and,@and_true⟩
theorem gF:type_of% @decide_eq_false_iff_not/\type_of% @beq_eq_false_iff_ne.{0}/\type_of% @bne_eq_false_iff_eq.{0}/\type_of% @ne_eq.{1}/\type_of% @Bool.not_eq_false':=
 ⟨@decide_eq_false_iff_not,@beq_eq_false_iff_ne.{0},@bne_eq_false_iff_eq.{0},@ne_eq.{1},@Bool.not_eq_false'⟩
section
open Go.RowKit
def Bo{α β:Type}(R:α->β->Prop):List α->List β->Prop
 |[],[]=>True
 |a::zs,b::bs=>R a b/\Bo R zs bs
 |_,_=>False
section
variable {α β γ:Type}{R S:α->β->Prop}
theorem Bo.len:∀{zs:List α}{bs:List β},Bo R zs bs->zs.length=bs.length
 |[],[],_=>rfl
 |_::_,_::_,h=>by simp[Bo.len h.2]
 |[],_::_,h=>h.elim
 |_::_,[],h=>h.elim
theorem Bo.at_:∀{zs:List α}{bs:List β},Bo R zs bs->∀{i:Nat} {a b},zs[i]?=some a->bs[i]?=some b->R a b
 |[],[],_,i,a,b,h,_=>by simp at h
 |_::_,_::_,h,0,a,b,ha,hb=>by simp at ha hb;subst ha;subst hb;exact h.1
 |_::_,_::_,h,i+1,a,b,ha,hb=>by simp at ha hb;exact Bo.at_ h.2 ha hb
 |[],_::_,h,_,_,_,_,_=>h.elim
 |_::_,[],h,_,_,_,_,_=>h.elim
theorem Bo.of_at:∀{zs:List α}{bs:List β},zs.length=bs.length->(∀(i:Nat) a b,zs[i]?=some a->bs[i]?=some b->R a b)->Bo R zs bs
 |[],[],_,_=>trivial
 |a::zs,b::bs,hl,h=>⟨h 0 a b rfl rfl,Bo.of_at (by simpa using hl) fun i x y hx hy=>h (i+1) x y hx hy⟩
 |[],_::_,hl,_=>by simp at hl
 |_::_,[],hl,_=>by simp at hl
theorem Bo.mono(hRS:∀a b,R a b->S a b):∀{zs:List α}{bs:List β},Bo R zs bs->Bo S zs bs
 |[],[],_=>trivial
 |_::_,_::_,h=>⟨hRS _ _ h.1,Bo.mono hRS h.2⟩
 |[],_::_,h=>h.elim
 |_::_,[],h=>h.elim
theorem Bo.mono_mem:∀{zs:List α}{bs:List β},(∀a∈zs,∀b,R a b->S a b)->Bo R zs bs->Bo S zs bs
 |[],[],_,_=>trivial
 |a::_,_::_,hRS,h=>⟨hRS a (by simp) _ h.1,Bo.mono_mem (fun x hx=>hRS x (by simp[hx])) h.2⟩
 |[],_::_,_,h=>h.elim
 |_::_,[],_,h=>h.elim
theorem Bo.app:∀{zs:List α}{bs:List β}{as':List α}{bs':List β},Bo R zs bs->Bo R as' bs'->Bo R (zs++as') (bs++bs')
 |[],[],_,_,_,h'=>h'
 |_::_,_::_,_,_,h,h'=>⟨h.1,Bo.app h.2 h'⟩
 |[],_::_,_,_,h,_=>h.elim
 |_::_,[],_,_,h,_=>h.elim
theorem Bo.take:∀(n:Nat){zs:List α}{bs:List β},Bo R zs bs->Bo R (zs.take n) (bs.take n)
 |0,_,_,_=>by simp[Bo]
 |_+1,[],[],_=>trivial
 |n+1,_::_,_::_,h=>⟨h.1,Bo.take n h.2⟩
 |_+1,[],_::_,h=>h.elim
 |_+1,_::_,[],h=>h.elim
theorem Bo.drop:∀(n:Nat){zs:List α}{bs:List β},Bo R zs bs->Bo R (zs.drop n) (bs.drop n)
 |0,_,_,h=>h
 |_+1,[],[],_=>trivial
 |n+1,_::_,_::_,h=>Bo.drop n h.2
 |_+1,[],_::_,h=>h.elim
 |_+1,_::_,[],h=>h.elim
end
inductive A3(w:World)(A:Nat->Prop):PV->Value->Prop where
 |sc (v:Value):A3 w A (.sc v) v
 |top (v:Value):A3 w A .top v
 |ub (b:Bool):A3 w A .ub (.bool b)
 |lnil (z:Bool) (es:Nat):A3 w A (.lst z es 0 []) (.slice none 0 0)
 |lemp (es:Nat) (a:Addr) (cap:Nat):A3 w A (.lst false es 0 []) (.slice (some a) 0 cap)
 |lst (es n:Nat) (cells:Al) (a:Addr) (cap:Nat) (f:Nat->Value) (hs:a.spot=none) (hb:a.block<w.heap.size) (hA:¬A a.block) (hn:n<=cap)
   (hc:∀j c,cells[j]?=some c->w.cell? (a.add j)=some (f j)) (h1:∀j c,cells[j]?=some c->(f j).oneCell'=true) (hr:∀j c,cells[j]?=some c->A3 w A c (f j)):A3 w A (.lst false es n cells) (.slice (some a) n cap)
def bsz(w:World)(b:Nat):Nat:=
 match w.heap[b]? with
 |some (.cells c _ _)=>c.size
 |_=>0
def VD(w:World)(b:Nat):Bool:=w.frozen? ⟨b,bsz w b,none⟩
def Fit(w:World)(es b e:Nat):Prop:=e<=bsz w b/\(es=1\/VD w b=false)
def Iw(w w':World)(b:Nat):Prop:=bsz w b<=bsz w' b/\(VD w b=false->VD w' b=false)
theorem Iw.refl(w:World)(b:Nat):Iw w w b:=⟨Cc _,id⟩
theorem Iw.same{w w':World}{b:Nat}(h:w'.heap[b]?=w.heap[b]?):Iw w w' b:=by
 have e:bsz w' b=bsz w b:=by unfold bsz;rw[h]
 refine⟨by rw[e];exact Cc _,fun q=>?_⟩
 unfold VD at q ⊢;rw[e];unfold World.frozen? at q ⊢;simp only[h];exact q
theorem Iw.trans{w w' w'':World}{b:Nat}(h:Iw w w' b)(h':Iw w' w'' b):Iw w w'' b:=⟨Nat.le_trans h.1 h'.1,fun q=>h'.2 (h.2 q)⟩
theorem Fit.step{w w':World}{es b e:Nat}(h:Fit w es b e)(hb:Iw w w' b):Fit w' es b e:=⟨Nat.le_trans h.1 hb.1,h.2.imp id hb.2⟩
def WD(w:World)(A:Nat->Prop)(a:Addr)(cells:Al):Prop:=∀j c,cells[j]?=some c->∃v,w.cell? (a.add j)=some v/\v.oneCell'=true/\A3 w A c v
def Cn(w:World)(A:Nat->Prop)(β:Nat->Option (Nat × Nat))(p:PV)(v:Value):Prop:=
 match p with
 |.view id es off n=>(β id=none/\off=0/\n=0/\∃ad,v=.slice ad 0 0) \/
   ∃b o x cap,β id=some (b,o)/\v=.slice (some ⟨b,x,none⟩) n cap/\(x=o+off\/(n=0/\off≠0))/\n<=cap/\Fit w es b (x+cap*es)/\b<w.heap.size
 |.ptr id off=>∃b o,β id=some (b,o)/\v=.pointer (some ⟨b,o+off,none⟩)
 |.iptr c off=>∃a:Addr,v=.pointer (some (a.add off))/\a.spot=none/\a.block<w.heap.size/\¬A a.block/\WD w A a c
 |p=>A3 w A p v
def I6(w:World)(A:Nat->Prop)(β:Nat->Option (Nat × Nat))(p:PV)(v:Value):Prop:=
 match p with
 |.agg cs=>∃vs,v=.agg ⟨vs⟩/\Bo (Cn w A β) cs vs
 |p=>Cn w A β p v
def Fk(w:World)(A:Nat->Prop)(β:Nat->Option (Nat × Nat))(p:PV)(v:Value):Prop:=
 match p with
 |.tup ps=>∃vs,v=.tuple ⟨vs⟩/\Bo (I6 w A β) ps vs
 |p=>I6 w A β p v
structure Cy(A:Nat->Prop)(w w':World):Prop where
 size:w.heap.size<=w'.heap.size
 keep:∀b,b<w.heap.size->¬A b->w'.heap[b]?=w.heap[b]?
 bs:∀b,b<w.heap.size->Iw w w' b
theorem F6(a:Addr)(j:Nat):(a.add j).block=a.block:=by unfold Addr.add;split<;>rfl
theorem add_add(a:Addr)(i j:Nat):(a.add i).add j=a.add (i+j):=by unfold Addr.add;by_cases hi:i=0<;>by_cases hj:j=0<;>simp[hi,hj,Mu]
theorem Ft(b o j:Nat):(⟨b,o,none⟩:Addr).add j=⟨b,o+j,none⟩:=by unfold Addr.add;by_cases hj:j=0<;>simp[hj]
theorem Ait{a:Addr}(h:a.spot=none)(j:Nat):(a.add j).spot=none:=by unfold Addr.add;split<;>simp[h]
section
variable {w w':World}{A A':Nat->Prop}{β β':Nat->Option (Nat × Nat)}
theorem Cy.cell(h:Cy A w w'){a:Addr}(hb:a.block<w.heap.size)(hA:¬A a.block):w'.cell? a=w.cell? a:=
 World.cell?_of_block (h.keep a.block hb hA)
theorem A3.step(h:Cy A w w')(hA:∀b,b<w.heap.size->A' b->A b){p:PV}{v:Value}(t:A3 w A p v):A3 w' A' p v:=by
 induction t with
 |sc v=>exact .sc v
 |top v=>exact .top v
 |ub b=>exact .ub b
 |lnil z es=>exact .lnil z es
 |lemp es a cap=>exact .lemp es a cap
 |lst es n cells a cap f hs hb hA1 hn hc h1 hr ih=>
  refine .lst es n cells a cap f hs (Gy hb h.size) (fun x=>hA1 (hA _ hb x)) hn (fun j c hj=>?_) h1 (fun j c hj=>ih j c hj);rw[h.cell (by rw[F6];exact hb) (by rw[F6];exact hA1)]
  exact hc j c hj
theorem WD.step(h:Cy A w w')(hA:∀b,b<w.heap.size->A' b->A b){a:Addr}(hb:a.block<w.heap.size)(hn:¬A a.block){cells:Al}(t:WD w A a cells):WD w' A' a cells:=by intro j c hj;obtain⟨v,hv,h1,ht⟩:=t j c hj;exact⟨v,by rw[h.cell (by rw[F6];exact hb) (by rw[F6];exact hn)];exact hv,h1,ht.step h hA⟩
theorem Cn.step(h:Cy A w w')(hA:∀b,b<w.heap.size->A' b->A b){p:PV}{v:Value}(hβ:∀id∈Aw p,β' id=β id)(t:Cn w A β p v):Cn w' A' β' p v:=by
 cases p with
 |view id es off n=>
  have e:=hβ id (by simp[Aw]);rcases t with⟨h1,h2,h3,h4⟩|⟨b,o,x,cap,h1,h2,hx,h3,h4,h5⟩
  ·exact .inl ⟨by rw[e];exact h1,h2,h3,h4⟩
  ·exact .inr ⟨b,o,x,cap,by rw[e];exact h1,h2,hx,h3,h4.step (h.bs b h5),Gy h5 h.size⟩
 |ptr id off=>
  have e:=hβ id (by simp[Aw]);obtain⟨b,o,h1,h2⟩:=t;exact⟨b,o,by rw[e];exact h1,h2⟩
 |iptr c off=>
  obtain⟨a,h1,h2,h3,h4,h5⟩:=t;exact⟨a,h1,h2,Gy h3 h.size,fun x=>h4 (hA _ h3 x),h5.step h hA h3 h4⟩
 |sc v=>exact A3.step h hA t
 |lst z es n c=>exact A3.step h hA t
 |own es n c=>exact A3.step h hA t
 |pbox c=>exact A3.step h hA t
 |agg c=>exact A3.step h hA t
 |tup c=>exact A3.step h hA t
 |top=>exact A3.step h hA t
 |ub=>exact A3.step h hA t
theorem I6.step(h:Cy A w w')(hA:∀b,b<w.heap.size->A' b->A b){p:PV}{v:Value}(hβ:∀id∈C5 p,β' id=β id)(t:I6 w A β p v):I6 w' A' β' p v:=by
 cases p with
 |agg cs=>
  obtain⟨vs,rfl,h2⟩:=t;exact⟨vs,rfl,h2.mono_mem fun c hc v hv=>hv.step h hA fun id B1=>hβ id (by simp only[C5,List.mem_flatMap];exact⟨c,hc,B1⟩)⟩
 |sc x=>exact Cn.step (p:=.sc x) h hA hβ t
 |lst x y z u=>exact Cn.step (p:=.lst x y z u) h hA hβ t
 |own x y z=>exact Cn.step (p:=.own x y z) h hA hβ t
 |view x y z u=>exact Cn.step (p:=.view x y z u) h hA hβ t
 |ptr x y=>exact Cn.step (p:=.ptr x y) h hA hβ t
 |iptr x y=>exact Cn.step (p:=.iptr x y) h hA hβ t
 |pbox x=>exact Cn.step (p:=.pbox x) h hA hβ t
 |tup x=>exact Cn.step (p:=.tup x) h hA hβ t
 |top=>exact Cn.step (p:=.top) h hA hβ t
 |ub=>exact Cn.step (p:=.ub) h hA hβ t
theorem Fk.step(h:Cy A w w')(hA:∀b,b<w.heap.size->A' b->A b){p:PV}{v:Value}(hβ:∀id∈Ch p,β' id=β id)(t:Fk w A β p v):Fk w' A' β' p v:=by
 cases p with
 |tup cs=>
  obtain⟨vs,rfl,h2⟩:=t;exact⟨vs,rfl,h2.mono_mem fun c hc v hv=>hv.step h hA fun id B1=>hβ id (by simp only[Ch,List.mem_flatMap];exact⟨c,hc,B1⟩)⟩
 |sc x=>exact I6.step (p:=.sc x) h hA hβ t
 |lst x y z u=>exact I6.step (p:=.lst x y z u) h hA hβ t
 |own x y z=>exact I6.step (p:=.own x y z) h hA hβ t
 |view x y z u=>exact I6.step (p:=.view x y z u) h hA hβ t
 |ptr x y=>exact I6.step (p:=.ptr x y) h hA hβ t
 |iptr x y=>exact I6.step (p:=.iptr x y) h hA hβ t
 |pbox x=>exact I6.step (p:=.pbox x) h hA hβ t
 |top=>exact I6.step (p:=.top) h hA hβ t
 |ub=>exact I6.step (p:=.ub) h hA hβ t
 |agg x=>exact I6.step (p:=.agg x) h hA hβ t
theorem Cy.refl(A:Nat->Prop)(w:World):Cy A w w:=⟨Cc _,fun _ _ _=>rfl,fun _ _=>Iw.refl _ _⟩
theorem WD.weak(hA:∀b,b<w.heap.size->A' b->A b){a:Addr}{cells:Al}(t:WD w A a cells):WD w A' a cells:=by intro j c hj;obtain⟨v,hv,h1,ht⟩:=t j c hj;exact⟨v,hv,h1,ht.step (Cy.refl A w) hA⟩
theorem Cy.trans{w'':World}(h:Cy A w w')(h':Cy A' w' w'')(hA:∀b,b<w.heap.size->A' b->A b):Cy A w w'':=
  ⟨Nat.le_trans h.size h'.size,fun b hb hn=>(h'.keep b (Gy hb h.size) (fun x=>hn (hA b hb x))).trans (h.keep b hb hn),
   fun b hb=>(h.bs b hb).trans (h'.bs b (Gy hb h.size))⟩
theorem Cy.weaken(h:Cy A w w')(hA:∀b,b<w.heap.size->A b->A' b):Cy A' w w':=⟨h.size,fun b hb hn=>h.keep b hb (fun x=>hn (hA b hb x)),h.bs⟩
end
section
variable {R:Type}{r:R}
theorem Fm{k:IntKind}{p:PV}{K:Int->Option R}(h:Eh k p K=some r):∃n,p=.sc (.int k n)/\K n=some r:=by
 unfold Eh at h;split at h
 ·split at h
  ·rename_i hk;subst hk;exact⟨_,rfl,h⟩
  ·cases h
 ·cases h
theorem En{p:PV}{K:Bool->Option R}(h:Cb p K=some r):∃b,p=.sc (.bool b)/\K b=some r:=by
 unfold Cb at h;split at h
 ·exact⟨_,rfl,h⟩
 ·cases h
theorem Eg{p:PV}{K:ByteArray->Option R}(h:Ai p K=some r):∃b,p=.sc (.string b)/\K b=some r:=by
 unfold Ai at h;split at h
 ·exact⟨_,rfl,h⟩
 ·cases h
theorem Ef{p:PV}{K:IntKind->Int->Option R}(h:El p K=some r):∃k n,p=.sc (.int k n)/\K k n=some r:=by
 unfold El at h;split at h
 ·exact⟨_,_,rfl,h⟩
 ·cases h
theorem Aq{b:Bool}{K:Option R}(h:A6 b K=some r):b=true/\K=some r:=by
 unfold A6 at h;cases b
 ·cases h
 ·exact⟨rfl,h⟩
theorem Cz{α:Type}{o:Option α}{K:α->Option R}(h:Dk o K=some r):∃a,o=some a/\K a=some r:=by
 unfold Dk at h;split at h
 ·exact⟨_,rfl,h⟩
 ·cases h
theorem Bh{α:Type}{l:List α}{K:α->List α->Option R}(h:Ac l K=some r):∃a t,l=a::t/\K a t=some r:=by
 unfold Ac at h;split at h
 ·exact⟨_,_,rfl,h⟩
 ·cases h
theorem Ej{α:Type}{l:List α}{K:Option R}(h:Af l K=some r):l=[]/\K=some r:=by
 unfold Af at h;split at h
 ·exact⟨rfl,h⟩
 ·cases h
theorem Iv{p:PV}{K:Al->Option R}(h:Fo p K=some r):∃c,p=.agg c/\K c=some r:=by
 unfold Fo at h;split at h
 ·exact⟨_,rfl,h⟩
 ·cases h
theorem MK{p:PV}{K:Al->Option R}(h:Xm p K=some r):∃c,p=.pbox c/\K c=some r:=by
 unfold Xm at h;split at h
 ·exact⟨_,rfl,h⟩
 ·cases h
theorem Aaz{p:PV}{K:Value->Option R}(h:fnK p K=some r):∃v,p=.sc v/\v.oneCell'=true/\K v=some r:=by
 unfold fnK at h;split at h
 ·exact⟨_,rfl,rfl,h⟩
 ·exact⟨_,rfl,rfl,h⟩
 ·cases h
theorem Alb{p:PV}{K:FuncId->Option R}(h:fvK p K=some r):∃f,p=.sc (.func (.func f) #[] #[])/\K f=some r:=by
 unfold fvK at h;split at h
 ·rename_i f a b;cases hb:(a.isEmpty&&b.isEmpty)<;>rw[hb] at h
  ·cases h
  ·simp only[Fb,Array.isEmpty_iff] at hb;rw[hb.1,hb.2];exact⟨f,rfl,h⟩
 ·cases h
theorem NM{o:Option Bz}{K:Al->List Al->Option R}(h:Ah o K=some r):∃v x,o=some ⟨v,x⟩/\K v x=some r:=by
 unfold Ah at h;split at h
 ·exact⟨_,_,rfl,h⟩
 ·cases h
theorem N3{b:Bool}{x y:Option R}(h:As b x y=some r):(b=true/\x=some r)\/(b=false/\y=some r):=by
 unfold As at h;cases b
 ·exact .inr ⟨rfl,h⟩
 ·exact .inl ⟨rfl,h⟩
theorem Gq{es:Nat}{p:PV}{K:Bool->Nat->Al->Option R}(h:Xw es p K=some r):
  ∃z n c,K z n c=some r/\(p=.lst z es n c\/(p=.sc (.slice none 0 0)/\z=true/\n=0/\c=[])):=by
 unfold Xw at h;split at h
 ·rename_i z es' n c;cases hb:Nat.beq es' es
  ·rw[hb] at h;cases h
  ·rw[hb] at h;have:=D9 hb;subst this;exact⟨z,n,c,h,.inl rfl⟩
 ·exact⟨true,0,[],h,.inr ⟨rfl,rfl,rfl,rfl⟩⟩
 ·cases h
def Xl:PV->Prop
 |.sc _=>True
 |.lst _ _ _ _=>True
 |_=>False
def KQ:PV->Prop
 |.sc _=>True
 |.lst _ _ _ _=>True
 |.view _ _ _ _=>True
 |_=>False
theorem Sy{c:PV}(h:Xl c):KQ c:=by cases c<;>first|trivial|exact h.elim
theorem I1{c:PV}(h:Xl c):Aw c=[]:=by cases c<;>first|rfl|exact h.elim
variable {w:World}{A:Nat->Prop}{β:Nat->Option (Nat × Nat)}
theorem Md{c:PV}{v:Value}(h:Xl c):Cn w A β c v↔A3 w A c v:=by cases c<;>first|exact Iff.rfl|exact h.elim
theorem Zt{c:PV}{v:Value}(h:∀cs,c ≠ .agg cs):I6 w A β c v↔Cn w A β c v:=by cases c<;>first|exact Iff.rfl|exact absurd rfl (h _)
theorem Qf{c:PV}{v:Value}(h:∀cs,c ≠ .tup cs):Fk w A β c v↔I6 w A β c v:=by cases c<;>first|exact Iff.rfl|exact absurd rfl (h _)
theorem Y9{c:PV}(h:Xl c)(cs:Al):c ≠ .agg cs:=by rintro rfl;exact h
theorem ZR{c:PV}(h:Xl c)(cs:Al):c ≠ .tup cs:=by rintro rfl;exact h
theorem A3.val{v u:Value}(h:A3 w A (.sc v) u):u=v:=by cases h;rfl
theorem Xr{es n:Nat}{z:Bool}{c:Al}{p:PV}{v:Value}(h:p=.lst z es n c\/(p=.sc (.slice none 0 0)/\z=true/\n=0/\c=[]))(hv:Cn w A β p v):A3 w A (.lst z es n c) v:=by
 rcases h with rfl|⟨rfl,rfl,rfl,rfl⟩
 ·exact hv
 ·have:=A3.val (w:=w) (A:=A) hv;subst this;exact .lnil true es
theorem N1{t:CT}{p:PV}{K:PV->Option R}(h:CU t p K=some r):
  ∃c,K c=some r/\Xl c/\Xl p/\∀(w:World) (A:Nat->Prop) (β:Nat->Option (Nat × Nat)) (v:Value),Cn w A β p v->A3 w A c v/\v.oneCell'=true:=by
 cases t with
 |int k=>obtain⟨n,rfl,h2⟩:=Fm h;exact⟨_,h2,trivial,trivial,fun w A β v hv=>⟨hv,by have:=A3.val (w:=w) (A:=A) hv;subst this;rfl⟩⟩
 |bool=>obtain⟨n,rfl,h⟩:=En h;exact⟨_,h,trivial,trivial,fun w A β v hv=>⟨hv,by have:=A3.val (w:=w) (A:=A) hv;subst this;rfl⟩⟩
 |str=>obtain⟨n,rfl,h⟩:=Eg h;exact⟨_,h,trivial,trivial,fun w A β v hv=>⟨hv,by have:=A3.val (w:=w) (A:=A) hv;subst this;rfl⟩⟩
 |sl es=>
  obtain⟨z,n,c,h,hp⟩:=Gq h;refine⟨_,h,trivial,?_,fun w A β v hv=>⟨Xr hp hv,?_⟩⟩
  ·rcases hp with rfl|⟨rfl,_⟩<;>trivial
  ·have ht:=Xr hp hv;cases ht<;>rfl
 |any=>
  obtain⟨u,rfl,h1,h2⟩:=Aaz (show fnK p (fun v=>K (.sc v))=some r from h);exact⟨_,h2,trivial,trivial,fun w A β v hv=>⟨hv,by have:=A3.val (w:=w) (A:=A) hv;subst this;exact h1⟩⟩
theorem Am6{t:CT}{p:PV}{K:PV->Option R}(h:fcK t p K=some r):
  ∃c,K c=some r/\(Xl c\/c=p)/\KQ p/\p ≠ .top/\(∀cs,c ≠ .agg cs)/\(∀cs,c ≠ .tup cs)/\(∀id,id∈Aw c->id∈Aw p)/\∀(w:World) (A:Nat->Prop) (β:Nat->Option (Nat × Nat)) (v:Value),Cn w A β p v->Cn w A β c v/\v.oneCell'=true:=by
 have tree:∀t',CU t' p K=some r->∃c,K c=some r/\(Xl c\/c=p)/\KQ p/\p ≠ .top/\(∀cs,c ≠ .agg cs)/\(∀cs,c ≠ .tup cs)/\(∀id,id∈Aw c->id∈Aw p)/\∀(w:World) (A:Nat->Prop) (β:Nat->Option (Nat × Nat)) (v:Value),Cn w A β p v->Cn w A β c v/\v.oneCell'=true:=by
  intro t' h;obtain⟨c,h,hc,hp,hv⟩:=N1 h;exact⟨c,h,.inl hc,Sy hp,by rintro rfl;exact hp,Y9 hc,ZR hc,by rw[I1 hc];simp,fun w A β v h=>⟨(Md hc).2 (hv w A β v h).1,(hv w A β v h).2⟩⟩
 cases t with
 |sl es=>
  unfold fcK fsK at h;dsimp only at h;split at h
  ·rename_i id es' off n;cases hb:Nat.beq es' es
   ·rw[hb] at h;cases h
   ·rw[hb] at h;have:=D9 hb;subst this;exact⟨_,h,.inr rfl,trivial,by simp,by simp,by simp,fun _ h=>h,fun _ _ _ _ h=>⟨h,by rcases h with⟨_,_,_,_,rfl⟩|⟨_,_,_,_,_,rfl,_⟩<;>rfl⟩⟩
  ·exact tree (.sl es) h
 |int k=>exact tree (.int k) h
 |bool=>exact tree (.bool) h
 |str=>exact tree (.str) h
 |any=>exact tree (.any) h
theorem DF{cells:Al}{i:Nat}{p:PV}(h:cells.getD i .top=p)(hp:p ≠ .top):cells[i]?=some p:=by
 rw[List.getD_eq_getElem?_getD] at h;cases hc:cells[i]? with
 |none=>rw[hc] at h;exact absurd h.symm hp
 |some q=>rw[hc] at h;simp at h;rw[h]
theorem Uu:∀{ts:List CT}{cells:Al}{off:Nat}{K:Al->Option R},Tx ts cells off K=some r ->
  ∃cs,K cs=some r/\cs.length=ts.length/\∀j c,cs[j]?=some c->Xl c/\∃p,cells[off+j]?=some p/\Xl p /\
   ∀(w:World) (A:Nat->Prop) (β:Nat->Option (Nat × Nat)) (v:Value),Cn w A β p v->A3 w A c v/\v.oneCell'=true
 |[],_,_,_,h=>⟨[],h,rfl,fun j c hj=>by simp at hj⟩
 |t::ts,cells,off,K,h=>by
  unfold Tx at h;obtain⟨c,h,hc,hp,hv⟩:=N1 h;obtain⟨cs,h,hl,EV⟩:=Uu h;refine⟨c::cs,h,by simp[hl],fun j c' hj=>?_⟩;cases j with
  |zero=>
   simp at hj;subst hj;refine⟨hc,cells.getD off .top,DF rfl ?_,hp,hv⟩;intro e;rw[e] at hp;exact hp
  |succ j=>
   simp at hj;have:=EV j c' hj
   rwa [Nat.add_right_comm,Mu] at this
theorem Ui:∀{ts:List CT}{cells:Al}{off:Nat}{K:Al->Option R},P8 ts cells off K=some r ->
  ∃cs,K cs=some r/\cs.length=ts.length/\(∀c∈cs,(∀x,c ≠ .agg x)/\(∀x,c ≠ .tup x))/\∀j c,cs[j]?=some c->∃p,cells[off+j]?=some p/\KQ p/\(∀id,id∈Aw c->id∈Aw p) /\
   ∀(w:World) (A:Nat->Prop) (β:Nat->Option (Nat × Nat)) (v:Value),Cn w A β p v->Cn w A β c v/\v.oneCell'=true
 |[],_,_,_,h=>⟨[],h,rfl,by simp,fun j c hj=>by simp at hj⟩
 |t::ts,cells,off,K,h=>by
  unfold P8 at h;obtain⟨c,h,hc,hf,hp,ha,ht,hr,hv⟩:=Am6 h;obtain⟨cs,h,hl,CH,EV⟩:=Ui h;refine⟨c::cs,h,by simp[hl],?_,fun j c' hj=>?_⟩
  ·intro x hx;rcases List.mem_cons.1 hx with rfl|hx
   ·exact⟨ha,ht⟩
   ·exact CH x hx
  ·cases j with
   |zero=>
    simp at hj;subst hj;exact⟨cells.getD off .top,DF rfl hp,hf,hr,hv⟩
   |succ j=>
    simp at hj;have:=EV j c' hj
    rwa [Nat.add_right_comm,Mu] at this
theorem PG{agg:Bool}{cells:Al}{K:PV->Option R}(h:mkV agg cells K=some r):
  (agg=true/\K (.agg cells)=some r)\/(agg=false/\∃c,cells=[c]/\K c=some r):=by
 unfold mkV at h;cases agg
 ·obtain⟨c,t,rfl,h⟩:=Bh h;obtain⟨rfl,h⟩:=Ej h;exact .inr ⟨rfl,c,rfl,h⟩
 ·exact .inl ⟨rfl,h⟩
end
open Go.RowKit
def D1(b:Option Cd):Prop:=
 match b with
 |some (.st _)=>True
 |some (.ar false _)=>True
 |_=>False
abbrev Bt:=Nat->Option (Nat × Nat)
def OT(hp:Nat->Option Cd)(β:Bt)(b:Nat):Prop:=∃id o,D1 (hp id)/\β id=some (b,o)
def D2(hp:Nat->Option Cd)(β:Bt)(Y:Nat->Prop)(b:Nat):Prop:=OT hp β b\/Y b
def Tg(w:World)(A:Nat->Prop)(β:Bt)(id:Nat)(bx:Cd):Prop:=
 match bx with
 |.st cells=>∃b o,β id=some (b,o)/\(∀j c,cells[j]?=some c->∃v,w.cell? ⟨b,o+j,none⟩=some v/\Cn w A β c v)/\∀j,j<cells.length->w.frozen? ⟨b,o+j,none⟩=false
 |.ar fz cells=>(β id=none/\cells=[])\/∃b o,β id=some (b,o)/\WD w A ⟨b,o,none⟩ cells/\(fz=false->∀j,o<=j->j<bsz w b->w.frozen? ⟨b,j,none⟩=false)/\(fz=true->¬A b)
 |.mv=>True
structure Jb where
 X:Nat->Prop
 L:Nat->Nat->Prop
 pn:Nat->Prop
 pt:Nat->Option (Nat × Nat)
 p8:∀i,pn i->i<8
def BR(bx:Cd)(o j:Nat):Prop:=
 match bx with
 |.st c=>o<=j/\j<o+c.length
 |.ar _ _=>o<=j
 |.mv=>False
structure Fr(X0:Jb)(w0 w:World):Prop where
 os:w.os=w0.os
 tape:w.tape=w0.tape
 output:w.output=w0.output
 step:Cy X0.X w0 w
 rng:∀b j,b<w0.heap.size->¬X0.L b j->w.cell? ⟨b,j,none⟩=w0.cell? ⟨b,j,none⟩/\w.frozen? ⟨b,j,none⟩=w0.frozen? ⟨b,j,none⟩
structure Dl(N:Nat)(w0:World)(X0:Jb)(Y:Nat->Prop)(β:Bt)(s:St)(a:Act)(w:World):Prop where
 dfr:a.defers=[]
 tsz:a.tmps.size=N
 tmo:∀i,N<=i->s.tm i=.top
 tms:∀i,i<N->Fk w (D2 s.hp β Y) β (s.tm i) (a.tmps.getD i undef)
 box:∀id b,s.hp id=some b->Tg w (D2 s.hp β Y) β id b
 inj:∀id id' b o o',D1 (s.hp id)->D1 (s.hp id')->β id=some (b,o)->β id'=some (b,o')->id=id'
 blt:∀id b o,s.hp id≠none->β id=some (b,o)->b<w.heap.size
 wfT:∀i,i<N->∀id∈Ch (s.tm i),s.hp id≠none
 wfB:∀id cells,s.hp id=some (.st cells)->∀c∈cells,∀id'∈Aw c,s.hp id'≠none
 ownd:∀b,OT s.hp β b->X0.X b\/w0.heap.size<=b
 rngB:∀id bx b o,s.hp id=some bx->D1 (some bx)->β id=some (b,o)->b<w0.heap.size->∀j,BR bx o j->X0.L b j
 pin:∀i,X0.pn i->s.hp (Ee N i)≠none/\β (Ee N i)=X0.pt i
 stp:∀id c b o,s.hp id=some (.st c)->β id=some (b,o)->b<w0.heap.size->∃i,id=Ee N i/\X0.pn i
 Yx:∀b,Y b->¬OT s.hp β b
 Ylt:∀b,Y b->b<w0.heap.size
 fr:Fr X0 w0 w
theorem Dr{b:Option Cd}(h:D1 b):b≠none:=by rintro rfl;exact h
theorem At{α:Type}(f:Nat->α)(i:Nat)(v:α):Di f i v i=v:=by simp[Di,Pz]
theorem Ap{α:Type}(f:Nat->α){i j:Nat}(v:α)(h:j≠i):Di f i v j=f j:=by
 have:Nat.beq j i=false:=by
  cases hb:Nat.beq j i
  ·rfl
  ·exact absurd (D9 hb) h
 simp[Di,this]
theorem Zg{α:Type}(f:Nat->α){i:Nat}{v:α}(h:f i=v):Di f i v=f:=by
 funext j
 by_cases e:j=i
 ·subst e;rw[At];exact h.symm
 ·exact Ap f v e
theorem SI{α:Type}(f:Nat->α){i j:Nat}(u v:α)(h:i≠j):Di (Di f i u) j v=Di (Di f j v) i u:=by
 funext k
 by_cases e:k=j
 ·subst e;rw[At,Ap _ _ (Ne.symm h),At]
 ·rw[Ap _ _ e];by_cases e':k=i
  ·subst e';rw[At,At]
  ·rw[Ap _ _ e',Ap _ _ e',Ap _ _ e]
theorem LA{a:Act}{d:Nat}{v:Value}(h:d<a.tmps.size):(a.put (some d) v).tmps.getD d undef=v:=by simp[Act.put,h]
theorem HG{a:Act}{d i:Nat}{v:Value}(h:i≠d):(a.put (some d) v).tmps.getD i undef=a.tmps.getD i undef:=by have h':d≠i:=fun e=>h e.symm;simp[Act.put,Array.getElem?_setIfInBounds_ne h']
section
variable {N:Nat}{w0:World}{X0:Jb}{Y:Nat->Prop}{β β':Bt}{s:St}{a:Act}{w w':World}
theorem Zq(d:Option Tmp)(v:Value):(a.put d v).tmps.size=a.tmps.size:=by cases d<;>simp[Act.put]
theorem S5(d:Option Tmp)(v:Value):(a.put d v).defers=a.defers:=by cases d<;>rfl
theorem Rz{d:Option Tmp}(h:Hm N d=true){i:Nat}(e:d=some i):i<N:=by subst e;exact Nat.lt_of_succ_le (Rc h)
theorem Qb{Q:Nat->PV->Value->Prop}{tm:Nat->PV}{d:Option Tmp}{v:PV}{val:Value}(hN:a.tmps.size=N)(hd:Hm N d=true)(h:∀i,i<N->Q i (tm i) (a.tmps.getD i undef))(hv:∀i,Q i v val):∀i,i<N->Q i (B7 tm d v i) ((a.put d val).tmps.getD i undef):=by
 intro i hi;cases d with
 |none=>exact h i hi
 |some d=>
  have Cx:=Rz hd rfl;by_cases e:i=d
  ·subst e;show Q i (Di tm i v i) _;rw[At,LA (by omega)];exact hv i
  ·show Q i (Di tm d v i) _;rw[Ap _ _ e,HG e];exact h i hi
theorem QO{tm:Nat->PV}{d:Option Tmp}{v:PV}(hd:Hm N d=true)(h:∀i,N<=i->tm i=.top):∀i,N<=i->B7 tm d v i=.top:=by
 intro i hi;cases d with
 |none=>exact h i hi
 |some d=>
  have:=Rz hd rfl;show Di tm d v i=_;rw[Ap _ _ (by omega)];exact h i hi
theorem Dl.put(h:Dl N w0 X0 Y β s a w){d:Option Tmp}{v:PV}{val:Value}(hd:Hm N d=true)(hv:Fk w (D2 s.hp β Y) β v val)(hr:∀id∈Ch v,s.hp id≠none):
  Dl N w0 X0 Y β ⟨B7 s.tm d v,s.hp⟩ (a.put d val) w where
 dfr:=by rw[S5];exact h.dfr
 tsz:=by rw[Zq];exact h.tsz
 tmo:=QO hd h.tmo
 tms:=Qb (Q:=fun _ p u=>Fk w (D2 s.hp β Y) β p u) h.tsz hd h.tms (fun _=>hv)
 box:=h.box
 inj:=h.inj
 blt:=h.blt
 wfT:=by
  have:=Qb (Q:=fun _ p _=>∀id∈Ch p,s.hp id≠none) (val:=val) h.tsz hd h.wfT (fun _=>hr);exact this
 wfB:=h.wfB
 ownd:=h.ownd
 rngB:=h.rngB
 pin:=h.pin
 stp:=h.stp
 Yx:=h.Yx
 Ylt:=h.Ylt
 fr:=h.fr
theorem Ci(hp:Nat->Option Cd)(ids:B8)(i:Nat):Aj hp ids i=if i∈ids then (hp i).map Vn else hp i:=by
 unfold Aj;by_cases hi:i∈ids
 ·have:ids.any (Nat.beq i)=true:=List.any_eq_true.2 ⟨i,hi,Pz i⟩;rw[this,Bq hi];rfl
 ·have:ids.any (Nat.beq i)=false:=by
   cases hb:ids.any (Nat.beq i)
   ·rfl
   ·obtain⟨j,hj,e⟩:=List.any_eq_true.1 hb;exact absurd (D9 e ▸ hj) hi
  rw[this,Bg hi];rfl
theorem E2{hp:Nat->Option Cd}{ids:B8}{i:Nat}:Aj hp ids i=none↔hp i=none:=by rw[Ci];split<;>simp
theorem Qr{hp:Nat->Option Cd}{ids:B8}{i:Nat}(h:D1 (Aj hp ids i)):D1 (hp i):=by
 rw[Ci] at h;split at h
 ·cases hb:hp i with
  |none=>rw[hb] at h;exact h
  |some b=>cases b with
   |st c=>trivial
   |ar fz c=>rw[hb] at h;exact h.elim
   |mv=>rw[hb] at h;exact h
 ·exact h
theorem J7{hp:Nat->Option Cd}{ids:B8}{i:Nat}{bx:Cd}(h:Aj hp ids i=some bx)(hl:D1 (some bx)):hp i=some bx:=by
 rw[Ci] at h;split at h
 ·cases hb:hp i with
  |none=>rw[hb] at h;cases h
  |some b=>
   rw[hb] at h;cases b with
   |st c=>exact h
   |ar fz c=>simp only[Option.map_some,Vn,Option.some.injEq] at h;subst h;exact hl.elim
   |mv=>simp only[Option.map_some,Vn,Option.some.injEq] at h;subst h;exact hl.elim
 ·exact h
theorem Si{hp:Nat->Option Cd}{ids:B8}{b:Nat}(h:OT (Aj hp ids) β b):OT hp β b:=by obtain⟨id,o,hl,hb⟩:=h;exact⟨id,o,Qr hl,hb⟩
theorem Tg.step'{A A':Nat->Prop}{id:Nat}{bx:Cd}(hA:∀b,A' b->A b)(h:Tg w A β id bx):Tg w A' β id bx:=by
 have hs:=Cy.refl A w;cases bx with
 |st c=>
  obtain⟨b,o,h1,h2,h3⟩:=h;exact⟨b,o,h1,fun j c hj=>let ⟨v,hv,hc⟩:=h2 j c hj;⟨v,hv,hc.step hs (fun b _=>hA b) (fun _ _=>rfl)⟩,h3⟩
 |ar fz c=>
  rcases h with h|⟨b,o,h1,h2,h3,h4⟩
  ·exact .inl h
  ·exact .inr ⟨b,o,h1,h2.weak (fun b _=>hA b),h3,fun e x=>h4 e (hA b x)⟩
 |mv=>trivial
theorem Dl.freeze(h:Dl N w0 X0 Y β s a w){fz:B8}(CY:∀id∈fz,∃f c,s.hp id=some (.ar f c)):Dl N w0 X0 Y β ⟨s.tm,Aj s.hp fz⟩ a w:=by
 have hA:∀b,D2 (Aj s.hp fz) β Y b->D2 s.hp β Y b:=fun b hb=>hb.imp Si id
 refine⟨h.dfr,h.tsz,h.tmo,fun i hi=>(h.tms i hi).step (Cy.refl _ _) (fun b _=>hA b) (fun _ _=>rfl),fun id b hb=>?_,fun id id' b o o' h1 h2=>h.inj id id' b o o' (Qr h1) (Qr h2),
  fun id b o hn=>h.blt id b o (fun e=>hn (E2.2 e)),fun i hi id B1 e=>h.wfT i hi id B1 (E2.1 e),fun id cells hc c VI id' B1 e=>?_,fun b hb=>h.ownd b (Si hb),
  fun id bx b o hb hl=>h.rngB id bx b o (J7 hb hl) hl,fun i hi=>⟨fun e=>(h.pin i hi).1 (E2.1 e),(h.pin i hi).2⟩,fun id c b o hc=>h.stp id c b o (J7 hc trivial),fun b hb x=>h.Yx b hb (Si x),h.Ylt,h.fr⟩
 ·simp only at hb;rw[Ci] at hb;split at hb
  ·rename_i hm;obtain⟨f,c,hc⟩:=CY id hm;rw[hc] at hb;simp only[Option.map_some,Vn,Option.some.injEq] at hb;subst hb;have My:=h.box id _ hc;rcases My with My|⟨b,o,h1,h2,h3,h4⟩
   ·exact .inl My
   ·refine .inr ⟨b,o,h1,h2.weak (fun b _=>hA b),(fun e=>by cases e),fun _ hb=>?_⟩;rcases hb with⟨id',o',hl,hb⟩|hY
    ·have hl0:=Qr hl;cases f with
     |true=>exact h4 rfl (.inl ⟨id',o',hl0,hb⟩)
     |false=>
      have e:=h.inj id' id b o' o hl0 (by rw[hc];trivial) hb h1
      subst e;simp only at hl;rw[Ci,Bq hm,hc] at hl;exact hl
    ·cases f with
     |true=>exact h4 rfl (.inr hY)
     |false=>exact h.Yx b hY ⟨id,o,by rw[hc];trivial,h1⟩
  ·exact (h.box id b hb).step' hA
 ·simp only at hc;rw[Ci] at hc;refine h.wfB id cells ?_ c VI id' B1 (E2.1 e);split at hc
  ·rename_i hm;obtain⟨f,c,Tf⟩:=CY id hm;rw[Tf] at hc;cases hc
  ·exact hc
theorem B2:∀{nw:List (Nat × Cd)} {hp:Nat->Option Cd},Cf hp nw=true ->
  (∀id bx,(id,bx)∈nw->hp id=none)/\(∀id bx bx',(id,bx)∈nw->(id,bx')∈nw->bx=bx')
 |[],_,_=>⟨by simp,by simp⟩
 |(i,b)::r,hp,h=>by
  simp only[Cf,Fb,Option.isNone_iff_eq_none,Bool.not_eq_true'] at h;obtain⟨⟨h1,h2⟩,h3⟩:=h;obtain⟨h4,h5⟩:=B2 h3
  have Er:∀bx,(i,bx) ∉ r:=by
   intro bx hm;have:r.any (fun q=>Nat.beq q.1 i)=true:=List.any_eq_true.2 ⟨_,hm,Pz i⟩;rw[this] at h2;cases h2
  refine⟨fun id bx hm=>?_,fun id bx bx' hm Jw=>?_⟩
  ·rcases List.mem_cons.1 hm with e|hm
   ·cases e;exact h1
   ·exact h4 id bx hm
  ·rcases List.mem_cons.1 hm with e|hm
   ·cases e;rcases List.mem_cons.1 Jw with e|Jw
    ·cases e;rfl
    ·exact absurd Jw (Er _)
   ·rcases List.mem_cons.1 Jw with e|Jw
    ·cases e;exact absurd hm (Er _)
    ·exact h5 id bx bx' hm Jw
theorem Fh:∀{nw:List (Nat × Cd)} {hp:Nat->Option Cd},(∀id bx bx',(id,bx)∈nw->(id,bx')∈nw->bx=bx') ->
  (∀id bx,(id,bx)∈nw->Ax hp nw id=some bx)/\(∀id,(∀bx,(id,bx) ∉ nw)->Ax hp nw id=hp id)
 |[],_,_=>⟨by simp,fun _ _=>rfl⟩
 |(i,b)::r,hp,h=>by
  obtain⟨h1,h2⟩:=Fh (nw:=r) (hp:=Di hp i (some b)) (fun id bx bx' hm Jw=>h id bx bx' (by simp[hm]) (by simp[Jw]));refine⟨fun id bx hm=>?_,fun id hn=>?_⟩
  ·by_cases hr:∃bx',(id,bx')∈r
   ·obtain⟨bx',hr⟩:=hr;have:=h id bx bx' hm (by simp[hr]);subst this;exact h1 id bx hr
   ·rcases List.mem_cons.1 hm with e|hm
    ·cases e;show Ax (Di hp i (some b)) r i=_;rw[h2 i (fun bx' hb=>hr ⟨bx',hb⟩),At]
    ·exact absurd ⟨bx,hm⟩ hr
  ·show Ax (Di hp i (some b)) r id=_;rw[h2 id (fun bx hb=>hn bx (by simp[hb])),Ap]
   rintro rfl
   exact hn b (by simp)
structure MA(Y:Nat->Prop)(β:Bt)(s:St)(w:World)(v:PV)(nw:List (Nat × Cd))(val:Value)(w':World)(β':Bt):Prop where
 os:w'.os=w.os
 tape:w'.tape=w.tape
 output:w'.output=w.output
 ext:Cy (fun _=>False) w w'
 old:∀id,s.hp id≠none->β' id=β id
 nlive:∀id bx,(id,bx)∈nw->D1 (some bx)
 nbox:∀id bx,(id,bx)∈nw->Tg w' (D2 (Ax s.hp nw) β' Y) β' id bx
 nblk:∀id bx b o,(id,bx)∈nw->β' id=some (b,o)->w.heap.size<=b/\b<w'.heap.size
 ninj:∀id bx id' bx' b o o',(id,bx)∈nw->(id',bx')∈nw->β' id=some (b,o)->β' id'=some (b,o')->id=id'
 nwf:∀id cells,(id,.st cells)∈nw->∀c∈cells,∀id'∈Aw c,s.hp id'≠none\/∃bx,(id',bx)∈nw
 val:Fk w' (D2 (Ax s.hp nw) β' Y) β' v val
 vwf:∀id∈Ch v,s.hp id≠none\/∃bx,(id,bx)∈nw
theorem Dl.stepR(h:Dl N w0 X0 Y β s a w){d:Option Tmp}{v:PV}{nw:List (Nat × Cd)}{val:Value}(hd:Hm N d=true)(Rh:Cf s.hp nw=true)(st:MA Y β s w v nw val w' β'):Dl N w0 X0 Y β' ⟨B7 s.tm d v,Ax s.hp nw⟩ (a.put d val) w':=by
 obtain⟨ha1,Sm⟩:=B2 Rh;obtain⟨hg1,hg2⟩:=Fh (hp:=s.hp) Sm
 have Iq:∀id,(∃bx,(id,bx)∈nw)\/Ax s.hp nw id=s.hp id:=fun id=>by
  by_cases hx:∃bx,(id,bx)∈nw
  ·exact .inl hx
  ·exact .inr (hg2 id fun bx hb=>hx ⟨bx,hb⟩)
 have Avl:∀id,s.hp id≠none->Ax s.hp nw id=s.hp id:=fun id hn=>by
  rcases Iq id with⟨bx,hx⟩|e
  ·exact absurd (ha1 id bx hx) hn
  ·exact e
 have Jo:∀id,(s.hp id≠none\/∃bx,(id,bx)∈nw)->Ax s.hp nw id≠none:=by
  rintro id (hn|⟨bx,hx⟩)
  ·rw[Avl id hn];exact hn
  ·rw[hg1 id bx hx];simp
 have Ao7:∀b,b<w.heap.size->OT (Ax s.hp nw) β' b->OT s.hp β b:=by
  rintro b hb ⟨id,o,hl,hβ⟩
  rcases Iq id with⟨bx,hx⟩|e
  ·have:=(st.nblk id bx b o hx hβ).1;omega
  ·rw[e] at hl;exact⟨id,o,hl,by rw[<-st.old id (Dr hl)];exact hβ⟩
 have ZW:∀b,b<w.heap.size->D2 (Ax s.hp nw) β' Y b->D2 s.hp β Y b:=fun b hb hA=>hA.imp (Ao7 b hb) id;have Abb:Cy (D2 s.hp β Y) w w':=st.ext.weaken (fun _ _ x=>x.elim);refine⟨by rw[S5];exact h.dfr,by rw[Zq];exact h.tsz,QO hd h.tmo,?_,?_,?_,?_,?_,?_,?_,?_,?_,?_,?_,h.Ylt,?_⟩
 ·refine Qb (Q:=fun _ p u=>Fk w' (D2 (Ax s.hp nw) β' Y) β' p u) h.tsz hd (fun i hi=>?_) (fun _=>st.val);exact (h.tms i hi).step Abb ZW fun id B1=>st.old id (h.wfT i hi id B1)
 ·intro id b hb;simp only at hb;rcases Iq id with⟨bx,hx⟩|e
  ·rw[hg1 id bx hx] at hb;cases hb;exact st.nbox id _ hx
  ·rw[e] at hb;have hβ:=st.old id (by rw[hb];simp)
   have My:=h.box id b hb;have Cx:=h.blt id;have Er:s.hp id≠none:=by rw[hb];simp
   cases b with
   |st c=>
    obtain⟨b,o,h1,h2,h3⟩:=My;have Jf:=Cx b o Er h1;have Rj:=st.ext.keep b Jf (fun x=>x);refine⟨b,o,by rw[hβ];exact h1,fun j c hj=>?_,fun j hj=>?_⟩
    ·obtain⟨v,hv,hc⟩:=h2 j c hj;refine⟨v,by rw[World.cell?_of_block (w:=w) Rj];exact hv,hc.step Abb ZW fun id' B1=>st.old id' ?_⟩
     exact h.wfB id _ hb c (List.mem_of_getElem? hj) id' B1
    ·rw[World.frozen?_of_block (w:=w) Rj];exact h3 j hj
   |ar fz c=>
    rcases My with⟨h1,h2⟩|⟨b,o,h1,h2,h3,h4⟩
    ·exact .inl ⟨by rw[hβ];exact h1,h2⟩
    ·have Jf:=Cx b o Er h1;have Rj:=st.ext.keep b Jf (fun x=>x);have KM:bsz w' b=bsz w b:=by unfold bsz;rw[Rj]
     refine .inr ⟨b,o,by rw[hβ];exact h1,fun j c hj=>?_,fun e j hj Uf=>?_,fun e x=>h4 e (ZW b Jf x)⟩
     ·obtain⟨v,hv,h5,hc⟩:=h2 j c hj;exact⟨v,by rw[World.cell?_of_block (w:=w) (by rw[F6];exact Rj)];exact hv,h5,hc.step Abb ZW⟩
     ·rw[World.frozen?_of_block (w:=w) Rj];exact h3 e j hj (by rw[<-KM];exact Uf)
   |mv=>trivial
 ·intro id id' b o o' hl Lp hb Jf;simp only at hl Lp;rcases Iq id with⟨bx,hx⟩|e
  ·rcases Iq id' with⟨bx',Vq⟩|e'
   ·exact st.ninj id bx id' bx' b o o' hx Vq hb Jf
   ·rw[e'] at Lp;have h1:=(st.nblk id bx b o hx hb).1;have h2:=h.blt id' b o' (Dr Lp) (by rw[<-st.old id' (Dr Lp)];exact Jf)
    omega
  ·rw[e] at hl;rcases Iq id' with⟨bx',Vq⟩|e'
   ·have h1:=(st.nblk id' bx' b o' Vq Jf).1;have h2:=h.blt id b o (Dr hl) (by rw[<-st.old id (Dr hl)];exact hb)
    omega
   ·rw[e'] at Lp;exact h.inj id id' b o o' hl Lp (by rw[<-st.old id (Dr hl)];exact hb) (by rw[<-st.old id' (Dr Lp)];exact Jf)
 ·intro id b o hn hb;simp only at hn;rcases Iq id with⟨bx,hx⟩|e
  ·exact (st.nblk id bx b o hx hb).2
  ·rw[e] at hn;exact Gy (h.blt id b o hn (by rw[<-st.old id hn];exact hb)) st.ext.size
 ·have:=Qb (Q:=fun _ p _=>∀id∈Ch p,Ax s.hp nw id≠none) (val:=val) (d:=d) (v:=v) h.tsz hd (fun i hi id B1=>Jo id (.inl (h.wfT i hi id B1))) (fun _ id B1=>Jo id (st.vwf id B1));exact this
 ·intro id cells hc c VI id' B1;simp only at hc;rcases Iq id with⟨bx,hx⟩|e
  ·rw[hg1 id bx hx] at hc;cases hc;exact Jo id' (st.nwf id _ hx c VI id' B1)
  ·rw[e] at hc;exact Jo id' (.inl (h.wfB id cells hc c VI id' B1))
 ·rintro b ⟨id,o,hl,hb⟩
  simp only at hl;rcases Iq id with⟨bx,hx⟩|e
  ·exact .inr (Nat.le_trans h.fr.step.size (st.nblk id bx b o hx hb).1)
  ·rw[e] at hl;exact h.ownd b ⟨id,o,hl,by rw[<-st.old id (Dr hl)];exact hb⟩
 ·intro id bx b o hb hl hβ Cx;simp only at hb;rcases Iq id with⟨bx',hx⟩|e
  ·have:=(st.nblk id bx' b o hx hβ).1;have:=h.fr.step.size;omega
  ·rw[e] at hb;exact h.rngB id bx b o hb hl (by rw[<-st.old id (by rw[hb];simp)];exact hβ) Cx
 ·intro i hi;obtain⟨h1,h2⟩:=h.pin i hi;exact⟨Jo _ (.inl h1),by rw[st.old _ h1];exact h2⟩
 ·intro id c b o hb hβ Cx;simp only at hb;rcases Iq id with⟨bx',hx⟩|e
  ·have:=(st.nblk id bx' b o hx hβ).1;have:=h.fr.step.size;omega
  ·rw[e] at hb;exact h.stp id c b o hb (by rw[<-st.old id (by rw[hb];simp)];exact hβ) Cx
 ·rintro b hY hX
  have hb:b<w.heap.size:=Gy (h.Ylt b hY) h.fr.step.size;exact h.Yx b hY (Ao7 b hb hX)
 ·refine⟨st.os.trans h.fr.os,st.tape.trans h.fr.tape,st.output.trans h.fr.output,h.fr.step.trans st.ext (fun _ _ x=>x.elim),fun b j hb hL=>?_⟩;have Rj:=st.ext.keep b (Gy hb h.fr.step.size) (fun x=>x);have hc:w'.cell? ⟨b,j,none⟩=w.cell? ⟨b,j,none⟩:=World.cell?_of_block (w:=w) Rj;have hf:w'.frozen? ⟨b,j,none⟩=w.frozen? ⟨b,j,none⟩:=World.frozen?_of_block (w:=w) Rj;rw[hc,hf];exact h.fr.rng b j hb hL
end
open Go.RowKit
section
variable {P:Program}{N:Nat}{w0:World}{X0:Jb}{Y:Nat->Prop}{β β':Bt}{s:St}{a:Act}{w w':World}{o:Oper}
theorem VQ(cs:List Value)(A:Nat->Prop):Bo (Cn w A β) (cs.map PV.sc) cs:=by
 induction cs with
 |nil=>trivial
 |cons v r ih=>exact⟨A3.sc v,ih⟩
theorem XD(cs:List Value):(cs.map PV.sc).flatMap Aw=[]:=by
 induction cs with
 |nil=>rfl
 |cons v r ih=>exact ih
theorem Dt(h:Dl N w0 X0 Y β s a w)(x:Operand):Fk w (D2 s.hp β Y) β (Cm s.tm x) (a.eval x):=by
 cases x with
 |tmp t=>
  show Fk _ _ _ (s.tm t) (a.tmps.getD t undef);by_cases ht:t<N
  ·exact h.tms t ht
  ·rw[h.tmo t (Nat.le_of_not_lt ht)];exact A3.top _
 |const v=>
  cases v with
  |agg cs=>exact⟨cs.toList,by simp[Act.eval],VQ cs.toList _⟩
  |_=>exact A3.sc _
 |func f=>exact A3.sc _
 |global g=>exact A3.sc _
theorem Gb(h:Dl N w0 X0 Y β s a w)(x:Operand):∀id∈Ch (Cm s.tm x),s.hp id≠none:=by
 cases x with
 |tmp t=>
  show ∀id∈Ch (s.tm t),_;by_cases ht:t<N
  ·exact h.wfT t ht
  ·rw[h.tmo t (Nat.le_of_not_lt ht)];intro id B1;cases B1
 |const v=>
  cases v with
  |agg cs=>
   intro id B1;have:Ch (.agg (cs.toList.map .sc))=[]:=XD cs.toList;simp only[Cm] at B1;rw[this] at B1;cases B1
  |_=>intro id B1;cases B1
 |func f=>intro id B1;cases B1
 |global g=>intro id B1;cases B1
theorem CE{A:Nat->Prop}{v u:Value}(h:Fk w A β (.sc v) u):u=v:=A3.val h
theorem Cv(h:Dl N w0 X0 Y β s a w){x:Operand}{v:Value}(e:Cm s.tm x=.sc v):a.eval x=v:=by have:=Dt h x;rw[e] at this;exact CE this
def Ff(P:Program)(a:Act)(w:World)(o:Oper)(Y:Nat->Prop)(β:Bt)(s:St)(v:PV)(fz:B8)(nw:List (Nat × Cd)):Prop:=
 (∀id∈fz,∃f c,s.hp id=some (.ar f c))/\∃val w',(execOp a.eval o).run P w=.ok (.value val) w'/\(Cf s.hp nw=true->∃β',MA Y β ⟨s.tm,Aj s.hp fz⟩ w v nw val w' β')
theorem YY{v:PV}{val:Value}(hv:Fk w (D2 s.hp β Y) β v val)(hr:∀id∈Ch v,s.hp id≠none):MA Y β s w v [] val w β:=
 ⟨rfl,rfl,rfl,Cy.refl _ _,fun _ _=>rfl,by simp,by simp,by simp,by simp,by simp,hv,fun id B1=>.inl (hr id B1)⟩
theorem Cr{v:PV}{val:Value}(Dh:(execOp a.eval o).run P w=.ok (.value val) w)(hv:Fk w (D2 s.hp β Y) β v val)(hr:∀id∈Ch v,s.hp id≠none):Ff P a w o Y β s v [] []:=
 ⟨by simp,val,w,Dh,fun _=>⟨β,YY (s:=⟨s.tm,Aj s.hp []⟩) hv hr⟩⟩
theorem Db{v:Value}(Dh:(execOp a.eval o).run P w=.ok (.value v) w):Ff P a w o Y β s (.sc v) [] []:=Cr Dh (A3.sc v) (by intro id B1;cases B1)
structure Hk(w w':World)(c:Array Value)(e:TypeId):Prop where
 os:w'.os=w.os
 tape:w'.tape=w.tape
 output:w'.output=w.output
 old:∀b,b<w.heap.size->w'.heap[b]?=w.heap[b]?
 size:w'.heap.size=w.heap.size+1
 new:∃fz:Nat × Nat,w'.heap[w.heap.size]?=some (.cells c e fz)/\(fz.1=fz.2\/c.size<=fz.1)
theorem Hk.alloc(w:World)(c:Array Value)(e:TypeId):Hk w (w.alloc (.cells c e)) c e:=
 ⟨rfl,rfl,rfl,fun b hb=>Below.heap_alloc w _ b hb,by show (w.heap.push _).size=_;simp,(0,0),by show (w.heap.push _)[w.heap.size]?=_;simp,.inl rfl⟩
theorem Hk.drew{c:Array Value}{e:TypeId}(h:Hk w w' c e):Hk w w'.drew c e:=⟨h.os,h.tape,h.output,h.old,h.size,h.new⟩
section
variable {c:Array Value}{e:TypeId}
theorem Hk.step(h:Hk w w' c e):Cy (fun _=>False) w w':=
 ⟨by rw[h.size];omega,fun b hb _=>h.old b hb,fun b hb=>Iw.same (h.old b hb)⟩
theorem Hk.cell(h:Hk w w' c e)(j:Nat):w'.cell? ⟨w.heap.size,j,none⟩=c[j]?:=by obtain⟨fz,hn,_⟩:=h.new;simp[World.cell?,hn]
theorem Hk.frozen(h:Hk w w' c e){j:Nat}(hj:j<c.size):w'.frozen? ⟨w.heap.size,j,none⟩=false:=by obtain⟨fz,hn,hf⟩:=h.new;simp only[World.frozen?,hn];rcases hf with hf|hf<;>simp<;>omega
theorem Lh(w:World)(c:Array Value)(e:TypeId):VD (w.alloc (.cells c e)) w.heap.size=false:=by
 unfold VD World.frozen?;have:(w.alloc (.cells c e)).heap[w.heap.size]?=some (.cells c e (0,0)):=by show (w.heap.push _)[w.heap.size]?=_;simp
 simp only[this];simp
theorem Hk.bsz(h:Hk w w' c e):bsz w' w.heap.size=c.size:=by obtain⟨fz,hn,_⟩:=h.new;simp[Pv.bsz,hn]
end
theorem R5{c:Array Value}{e:TypeId}{d:Nat}{bx:Cd}{v:PV}{val:Value}(hg:Hk w w' c e)(hd:s.hp d=none)(hl:D1 (some bx))(My:Tg w' (D2 (Di s.hp d (some bx)) (Di β d (some (w.heap.size,0))) Y) (Di β d (some (w.heap.size,0))) d bx)(hcw:∀cells,bx=.st cells->∀x∈cells,∀id'∈Aw x,s.hp id'≠none)(hv:Fk w' (D2 (Di s.hp d (some bx)) (Di β d (some (w.heap.size,0))) Y) (Di β d (some (w.heap.size,0))) v val)(hvr:∀id∈Ch v,s.hp id≠none\/id=d):MA Y β s w v [(d,bx)] val w' (Di β d (some (w.heap.size,0))) where
 os:=hg.os
 tape:=hg.tape
 output:=hg.output
 ext:=hg.step
 old:=fun id hn=>Ap _ _ (by rintro rfl;exact hn hd)
 nlive:=by intro id b hm;simp at hm;obtain⟨rfl,rfl⟩:=hm;exact hl
 nbox:=by intro id b hm;simp at hm;obtain⟨rfl,rfl⟩:=hm;exact My
 nblk:=by
  intro id b x y hm hb;simp at hm;obtain⟨rfl,rfl⟩:=hm;rw[At] at hb;simp at hb;have:=hg.size;omega
 ninj:=by intro id b id' b' x y z hm Jw _ _;simp at hm Jw;rw[hm.1,Jw.1]
 nwf:=by intro id cells hm x hx id' B1;simp at hm;exact .inl (hcw cells hm.2.symm x hx id' B1)
 val:=hv
 vwf:=by
  intro id B1;rcases hvr id B1 with h|rfl
  ·exact .inl h
  ·exact .inr ⟨bx,by simp⟩
theorem Aaw{c:Array Value}{e:TypeId}(hg:Hk w w' c e){A A':Nat->Prop}(hA:∀b,b<w.heap.size->A' b->A b){cells:Al}(h:∀(j:Nat) p,cells[j]?=some p->∃v,c[j]?=some v/\v.oneCell'=true/\A3 w A p v):WD w' A' ⟨w.heap.size,0,none⟩ cells:=by intro j p hj;obtain⟨v,hv,h1,ht⟩:=h j p hj;exact⟨v,by rw[Ft,Ob,hg.cell];exact hv,h1,ht.step (hg.step.weaken (fun _ _ x=>x.elim)) hA⟩
theorem Aaj{d:Nat}{bx:Cd}(hwf:s.hp d=none):∀b,b<w.heap.size->D2 (Di s.hp d (some bx)) (Di β d (some (w.heap.size,0))) Y b->D2 s.hp β Y b:=by
 intro b hb hA;rcases hA with⟨id,o,hl,hβ⟩|hY
 ·by_cases e:id=d
  ·subst e;rw[At] at hβ;simp at hβ;omega
  ·rw[Ap _ _ e] at hl hβ;exact .inl ⟨id,o,hl,hβ⟩
 ·exact .inr hY
theorem R8{c:Array Value}{e:TypeId}{d:Nat}{cells:Al}{fz:B8}{v:PV}{val:Value}(CY:∀id∈fz,∃f c,s.hp id=some (.ar f c))(Dh:(execOp a.eval o).run P w=.ok (.value val) w')(hg:Hk w w' c e)(hc:∀(j:Nat) p,cells[j]?=some p->∃u,c[j]?=some u/\u.oneCell'=true/\A3 w (D2 (Aj s.hp fz) β Y) p u)(hv:(v=.ptr d 0/\val=.pointer (some ⟨w.heap.size,0,none⟩))\/∃es n cap,v=.view d es 0 n/\val=.slice (some ⟨w.heap.size,0,none⟩) n cap/\n<=cap/\cap*es<=c.size/\(es=1\/VD w' w.heap.size=false)):
  Ff P a w o Y β s v fz [(d,.ar false cells)]:=by
 refine⟨CY,val,w',Dh,fun Rh=>⟨Di β d (some (w.heap.size,0)),?_⟩⟩;have hd:s.hp d=none:=(B2 Rh).1 d (.ar false cells) (by simp);have hd':Aj s.hp fz d=none:=E2.2 hd;refine R5 (s:=⟨s.tm,Aj s.hp fz⟩) hg hd' trivial ?_ (fun cells hx=>by cases hx) ?_ ?_
 ·refine .inr ⟨w.heap.size,0,At _ _ _,?_,fun _ j _ hj=>?_,(fun x=>by cases x)⟩
  ·exact Aaw hg (Aaj (s:=⟨s.tm,Aj s.hp fz⟩) hd') hc
  ·rw[hg.bsz] at hj;exact hg.frozen hj
 ·rcases hv with⟨rfl,rfl⟩|⟨es,n,cap,rfl,rfl,hn,Yf,Ny⟩
  ·exact⟨w.heap.size,0,At _ _ _,rfl⟩
  ·exact .inr ⟨w.heap.size,0,0,cap,At _ _ _,rfl,.inl rfl,hn,⟨by rw[hg.bsz];omega,Ny⟩,by rw[hg.size];omega⟩
 ·intro id B1;rcases hv with⟨rfl,_⟩|⟨es,n,cap,rfl,_⟩<;>(simp[Ch,C5,Aw] at B1;exact .inr B1)
theorem LZ{c:Array Value}{e:TypeId}{d:Nat}{cells:Al}(Dh:(execOp a.eval o).run P w=.ok (.value (.pointer (some ⟨w.heap.size,0,none⟩))) w')(hg:Hk w w' c e)(hc:∀(j:Nat) p,cells[j]?=some p->∃u,c[j]?=some u/\Cn w (D2 s.hp β Y) β p u)(hr:∀x∈cells,∀id∈Aw x,s.hp id≠none):
  Ff P a w o Y β s (.ptr d 0) [] [(d,.st cells)]:=by
 refine⟨by simp,_,w',Dh,fun Rh=>⟨Di β d (some (w.heap.size,0)),?_⟩⟩;have hd:s.hp d=none:=(B2 Rh).1 d (.st cells) (by simp);refine R5 (s:=⟨s.tm,Aj s.hp []⟩) hg hd trivial ?_ (fun cs hx x hxm id B1=>?_) ?_ ?_
 ·refine⟨w.heap.size,0,At _ _ _,fun j p hj=>?_,fun j hj=>?_⟩
  ·obtain⟨u,hu,hp⟩:=hc j p hj;refine⟨u,by rw[Ob,hg.cell];exact hu,hp.step (hg.step.weaken (fun _ _ x=>x.elim)) (Aaj (s:=⟨s.tm,Aj s.hp []⟩) hd) fun id B1=>Ap _ _ ?_⟩
   rintro rfl
   exact hr p (List.mem_of_getElem? hj) id B1 hd
  ·rw[Ob];obtain⟨u,hu,_⟩:=hc j _ (List.getElem?_eq_getElem hj)
   exact hg.frozen (by
    rcases Ht j c.size with h|h
    ·exact h
    ·rw[Array.getElem?_eq_none h] at hu;cases hu)
 ·injection hx with hx;subst hx;exact hr x hxm id B1
 ·exact⟨w.heap.size,0,At _ _ _,rfl⟩
 ·intro id B1;simp[Ch,C5,Aw] at B1;exact .inr B1
end
open Go.RowKit
section
variable {R:Type}{r:R}{P:Program}{N:Nat}{w0:World}{X0:Jb}{Y:Nat->Prop}{β β':Bt}{s:St}{a:Act}{w w':World}{o:Oper}
theorem Lw{t:TypeId}{n:Nat}(h:(P.info? t).map (·.size)=some n)(w:World):(sizeOf t).run P w=.ok n w:=by
 cases hi:P.info? t with
 |none=>rw[hi] at h;cases h
 |some i=>rw[hi] at h;simp at h;simp[sizeOf,typeInfo,hi,h]
theorem Aie{t:TypeId}{n:Nat}(h:Bj P t=n)(hn:0<n):(P.info? t).map (·.size)=some n:=by
 unfold Bj at h;cases hi:(P.info? t).map (·.size) with
 |none=>rw[hi] at h;simp at h;omega
 |some i=>rw[hi] at h;simp at h;rw[h]
theorem Od{t:TypeId}{d:TypeDesc}(h:P.underlying t=some d)(w:World):(isAgg t).run P w=.ok (Cp P t) w:=by unfold isAgg Cp;rw[h];simp only[Sem.run_bind,run_underlying h,Result.andThen_ok];cases d<;>rfl
theorem Abq{t:TypeId}{v:Value}{K:PV->Option R}(h:cvK P t v K=some r):∃p,K p=some r/\Ch p=[]/\∀(w:World)(A:Nat->Prop)(β:Bt),Fk w A β p v:=by
 have sc:∀v:Value,K (.sc v)=some r->∃p,K p=some r/\Ch p=[]/\∀(w:World) (A:Nat->Prop) (β:Bt),Fk w A β p v:=fun v h=>⟨_,h,rfl,fun w A β=>A3.sc v⟩;unfold cvK at h;split at h
 ·rename_i cs;obtain⟨hl,h⟩:=Aq h;obtain⟨xs,h,MW,hx⟩:=Uu h;have hl:=D9 hl;refine⟨_,h,?_,fun w A β=>⟨cs.toList,by simp,?_⟩⟩
  ·show xs.flatMap Aw=[];rw[List.flatMap_eq_nil_iff];intro c hc;obtain⟨j,hj⟩:=List.mem_iff_getElem?.1 hc;exact I1 (hx j c hj).1
  ·refine Bo.of_at (by rw[MW,hl]) fun i c u hc hu=>?_;obtain⟨hT,p,hp,_,CI⟩:=hx i c hc;refine (Md hT).2 (CI w A β u ?_).1;rw[Ob,List.getElem?_map,hu] at hp;simp at hp;subst hp;exact A3.sc u
 ·split at h
  ·exact⟨_,h,rfl,fun w A β=>A3.lnil true _⟩
  ·cases h
 ·exact sc _ h
theorem AD(h:Dl N w0 X0 Y β s a w){x:Operand}(Dh:(execOp a.eval o).run P w=.ok (.value (a.eval x)) w){K:PV->Option R}(hk:BI P o.type s.tm x K=some r):
  ∃v,K v=some r/\Ff P a w o Y β s v [] []:=by
 have dflt:K (Cm s.tm x)=some r->∃v,K v=some r/\Ff P a w o Y β s v [] []:=fun hk=>⟨_,hk,Cr Dh (Dt h x) (Gb h x)⟩;cases x with
 |const v=>
  obtain⟨p,hk,hr,hv⟩:=Abq hk;exact⟨p,hk,Cr Dh (hv _ _ _) (by rw[hr];simp)⟩
 |tmp t=>exact dflt hk
 |func f=>exact dflt hk
 |global g=>exact dflt hk
theorem Abw{x:Operand}(ho:o.op=.move x):(execOp a.eval o).run P w=.ok (.value (a.eval x)) w:=by unfold execOp;rw[ho];rfl
theorem SO{x:Operand}(ho:o.op=.assign x):(execOp a.eval o).run P w=.ok (.value (a.eval x)) w:=by unfold execOp;rw[ho];rfl
theorem WV(h:Dl N w0 X0 Y β s a w){c x y:Operand}(ho:o.op=.pick c x y){K:PV->Option R}(hk:(Cb (Cm s.tm c) fun t=>As t (K (Cm s.tm x)) (K (Cm s.tm y)))=some r):
  ∃v,K v=some r/\Ff P a w o Y β s v [] []:=by
 obtain⟨b,hb,hk⟩:=En hk;have hc:=Cv h hb;rcases N3 hk with⟨rfl,hk⟩|⟨rfl,hk⟩
 ·exact⟨_,hk,Cr (by unfold execOp;rw[ho];simp[asBool,hc]) (Dt h x) (Gb h x)⟩
 ·exact⟨_,hk,Cr (by unfold execOp;rw[ho];simp[asBool,hc]) (Dt h y) (Gb h y)⟩
theorem Qq{t:TypeId}{K:Al->Option R}(h:Ic P t K=some r):∃(v:Value)(cs:Al),K cs=some r/\Q5 P t=some v/\cs.length=(Jj P t).length/\cs.length=v.cells.toList.length/\cs.length=Bj P t /\
  ∀(j:Nat) c,cs[j]?=some c->Xl c/\∃u,v.cells.toList[j]?=some u/\u.oneCell'=true/\∀(w:World) (A:Nat->Prop),A3 w A c u:=by
 unfold Ic at h;obtain⟨v,hz,h⟩:=Cz h;obtain⟨hl,h⟩:=Aq h;obtain⟨cs,h,Mz,hc⟩:=Uu h;simp only[Fb] at hl;have HS:=D9 hl.1
 have Pu:(Jj P t).length=Bj P t:=by
  have:=hl.2;simp only[J3,Fb] at this;exact D9 this.2
 refine⟨v,cs,h,hz,Mz,by rw[Mz,HS],by rw[Mz,Pu],fun j c hj=>?_⟩;obtain⟨hT,p,hp,_,CI⟩:=hc j c hj;rw[Ob,List.getElem?_map] at hp;cases hu:v.cells.toList[j]? with
 |none=>rw[hu] at hp;cases hp
 |some u=>
  rw[hu] at hp;simp at hp;subst hp;exact⟨hT,u,rfl,(CI default (fun _=>False) (fun _=>none) u (A3.sc u)).2,fun w A=>(CI w A (fun _=>none) u (A3.sc u)).1⟩
theorem Xo{t:TypeId}{v:Value}(h:Q5 P t=some v)(w:World):(zeroValue t).run P w=.ok v w:=by
 unfold Q5 at h;cases hi:P.info? t with
 |none=>rw[hi] at h;cases h
 |some i=>rw[hi] at h;simp at h;simp[zeroValue,typeInfo,hi,h]
theorem SY{t:TypeId}(ho:o.op=.alloc t){d:Nat}{K:PV->B8->List (Nat × Cd)->Option R}(hk:(Ic P t fun cs=>K (.ptr d 0) [] [(d,Af0 P t cs)])=some r):∃v fz nw,K v fz nw=some r/\Ff P a w o Y β s v fz nw:=by
 obtain⟨z,cs,hk,hz,_,hl,_,hc⟩:=Qq hk
 have Dh:(execOp a.eval o).run P w=.ok (.value (.pointer (some ⟨w.heap.size,0,none⟩))) (w.alloc (.cells z.cells t)):=by
  unfold execOp;rw[ho];simp[Instr.alloc,Xo hz,newVar,newRow]
 have hg:=Hk.alloc w z.cells t;refine⟨_,_,_,hk,?_⟩;unfold Af0;cases Vp P t
 ·refine LZ Dh hg (fun j p hj=>?_) fun x hx id B1=>?_
  ·obtain⟨hT,u,hu,_,hv⟩:=hc j p hj;exact⟨u,by simpa using hu,(Md hT).2 (hv _ _)⟩
  ·obtain⟨j,hj⟩:=List.mem_iff_getElem?.1 hx;rw[I1 (hc j x hj).1] at B1;cases B1
 ·refine R8 (by simp) Dh hg (fun j p hj=>?_) (.inl ⟨rfl,rfl⟩);obtain⟨hT,u,hu,h1,hv⟩:=hc j p hj;exact⟨u,by simpa using hu,h1,hv _ _⟩
end
open Go.RowKit
section
variable {R:Type}{r:R}{P:Program}{N:Nat}{w0:World}{X0:Jb}{Y:Nat->Prop}{β β':Bt}{s:St}{a:Act}{w w':World}{o:Oper}{A:Nat->Prop}
theorem Rx{t:TypeId}(h:J3 P t=true):(∃d,P.underlying t=some d)/\(Jj P t).length=Bj P t/\(P.info? t).map (·.size)=some (Bj P t):=by
 simp only[J3,Fb] at h;refine⟨Option.isSome_iff_exists.1 h.1,D9 h.2,?_⟩;unfold Bj;cases hi:P.info? t with
 |none=>unfold Program.underlying at h;rw[hi] at h;cases h.1
 |some i=>simp
theorem Oh{v:Value}(h:v.oneCell'=true):v.cells = #[v]:=by cases v<;>first|rfl|cases h
theorem Aaa{p:PV}{v:Value}{ts:List CT}{K:Al->Option R}(hv:Fk w A β p v)(hl:(cellsOf p).length=ts.length)(h:P8 ts (cellsOf p) 0 K=some r):
  ∃cs,K cs=some r/\cs.length=ts.length/\Bo (Cn w A β) cs v.cells.toList/\(∀u∈v.cells.toList,u.oneCell'=true)/\(∀c∈cs,∀id∈Aw c,id∈Ch p)/\∀c∈cs,(∀x,c ≠ .agg x)/\(∀x,c ≠ .tup x):=by
 obtain⟨cs,h,Mz,CH,hc⟩:=Ui h;refine⟨cs,h,Mz,?_⟩
 have single:(∀x,p ≠ .agg x)->cellsOf p=[p]:=by
  intro hp;cases p<;>first|rfl|exact absurd rfl (hp _)
 by_cases G4:∃x,p=.agg x
 ·obtain⟨x,rfl⟩:=G4;obtain⟨vs,rfl,h2⟩:=hv;have Do:cs.length=vs.length:=by rw[Mz,<-hl];exact h2.len
  have key:∀(i:Nat) c u,cs[i]?=some c->vs[i]?=some u->Cn w A β c u/\u.oneCell'=true:=by
   intro i c u Tf hu;obtain⟨q,hq,_,_,hqv⟩:=hc i c Tf;rw[Ob] at hq;exact hqv w A β u (h2.at_ hq hu)
  refine⟨Bo.of_at Do fun i c u Tf hu=>(key i c u Tf hu).1,?_,?_,CH⟩
  ·intro u hu;obtain⟨i,hi⟩:=List.mem_iff_getElem?.1 (show u∈vs from hu)
   have Cx:i<vs.length:=by
    rcases Ht i vs.length with h|h
    ·exact h
    ·rw[List.getElem?_eq_none h] at hi;cases hi
   exact (key i _ u (List.getElem?_eq_getElem (by omega)) hi).2
  ·intro c VI id B1;obtain⟨i,hi⟩:=List.mem_iff_getElem?.1 VI;obtain⟨q,hq,_,hr,_⟩:=hc i c hi;rw[Ob] at hq;show id∈x.flatMap Aw;exact List.mem_flatMap.2 ⟨q,List.mem_of_getElem? hq,hr id B1⟩
 ·have hp:∀x,p ≠ .agg x:=fun x e=>G4 ⟨x,e⟩;rw[single hp] at hl hc;have HS:cs.length=1:=by rw[Mz,<-hl];rfl
  match cs,HS with
  |[c],_=>
   obtain⟨q,hq,hf,hr,hqv⟩:=hc 0 c rfl;simp at hq;subst hq;have Rm:∀x,p ≠ .tup x:=by rintro x rfl;exact hf
   have Qo:Cn w A β p v:=(Zt hp).1 ((Qf Rm).1 hv);obtain⟨h5,h6⟩:=hqv w A β v Qo;rw[Oh h6];refine⟨⟨h5,trivial⟩,?_,?_,CH⟩
   ·intro u hu;simp at hu;subst hu;exact h6
   ·intro c' Tf id B1;simp at Tf;subst Tf;have:=hr id B1;cases p<;>first|exact this|exact absurd rfl (hp _)|exact absurd rfl (Rm _)
end
open Go.RowKit
section
variable {R:Type}{r:R}{P:Program}{N:Nat}{w0:World}{X0:Jb}{Y:Nat->Prop}{β β':Bt}{s:St}{a:Act}{w w':World}{o:Oper}{A:Nat->Prop}
theorem Bo.get{α β':Type}{R':α->β'->Prop}{zs:List α}{bs:List β'}(h:Bo R' zs bs){i:Nat}{x:α}(hx:zs[i]?=some x):∃y,bs[i]?=some y/\R' x y:=by
 have Cx:i<zs.length:=by
  rcases Ht i zs.length with h|h
  ·exact h
  ·rw[List.getElem?_eq_none h] at hx;cases hx
 have hb:bs[i]?=some (bs[i]'(by rw[<-h.len];exact Cx)):=List.getElem?_eq_getElem _
 exact⟨_,hb,h.at_ hx hb⟩
theorem Al7{p:PV}{v:Value}{ts:List CT}{K:Al->Option R}(hv:Fk w A β p v)(hl:(cellsOf p).length=ts.length)(h:Tx ts (cellsOf p) 0 K=some r):
  ∃cs,K cs=some r/\cs.length=ts.length/\Bo (A3 w A) cs v.cells.toList/\∀u∈v.cells.toList,u.oneCell'=true:=by
 obtain⟨cs,h,Mz,hc⟩:=Uu h;refine⟨cs,h,Mz,?_⟩;by_cases G4:∃x,p=.agg x
 ·obtain⟨x,rfl⟩:=G4;obtain⟨vs,rfl,h2⟩:=hv;have Do:cs.length=vs.length:=by rw[Mz,<-hl];exact h2.len
  have key:∀(i:Nat) c u,cs[i]?=some c->vs[i]?=some u->A3 w A c u/\u.oneCell'=true:=by
   intro i c u Tf hu;obtain⟨_,q,hq,_,hqv⟩:=hc i c Tf;rw[Ob] at hq;exact hqv w A β u (h2.at_ hq hu)
  refine⟨Bo.of_at Do fun i c u Tf hu=>(key i c u Tf hu).1,?_⟩;intro u hu;obtain⟨i,hi⟩:=List.mem_iff_getElem?.1 (show u∈vs from hu)
  have Cx:i<vs.length:=by
   rcases Ht i vs.length with h|h
   ·exact h
   ·rw[List.getElem?_eq_none h] at hi;cases hi
  exact (key i _ u (List.getElem?_eq_getElem (by omega)) hi).2
 ·have hp:∀x,p ≠ .agg x:=fun x e=>G4 ⟨x,e⟩;have single:cellsOf p=[p]:=by cases p<;>first|rfl|exact absurd rfl (hp _)
  rw[single] at hl hc;have HS:cs.length=1:=by rw[Mz,<-hl];rfl
  match cs,HS with
  |[c],_=>
   obtain⟨_,q,hq,hf,hqv⟩:=hc 0 c rfl;simp at hq;subst hq;have Rm:∀x,p ≠ .tup x:=by rintro x rfl;exact hf
   have Qo:Cn w A β p v:=(Zt hp).1 ((Qf Rm).1 hv);obtain⟨h5,h6⟩:=hqv w A β v Qo;rw[Oh h6];exact⟨⟨h5,trivial⟩,fun u hu=>by simp at hu;subst hu;exact h6⟩
theorem Ad1(h:Dl N w0 X0 Y β s a w){t:TypeId}{x:Operand}(ho:o.op=.box t x){d:Nat}{K:PV->B8->List (Nat × Cd)->Option R}(hk:(A6 (J3 P t&&Nat.beq (cellsOf (Cm s.tm x)).length (Jj P t).length)
      (bif Vp P t then Tx (Jj P t) (cellsOf (Cm s.tm x)) 0 fun cs=>K (.ptr d 0) [] [(d,.ar false cs)]
       else P8 (Jj P t) (cellsOf (Cm s.tm x)) 0 fun cs=>K (.ptr d 0) [] [(d,.st cs)]))=some r):∃v fz nw,K v fz nw=some r/\Ff P a w o Y β s v fz nw:=by
  obtain⟨hl,hk⟩:=Aq hk
  simp only[Fb] at hl
  have hl:=D9 hl.2
  have Dh:(execOp a.eval o).run P w=.ok (.value (.pointer (some ⟨w.heap.size,0,none⟩))) (w.alloc (.cells (a.eval x).cells t)):=by
    unfold execOp
    rw[ho]
    simp[Instr.box,newVar,newRow]
  have hg:=Hk.alloc w (a.eval x).cells t
  cases ha:Vp P t
  · rw[ha] at hk
    obtain⟨cs,hk,_,h2,_,hr,_⟩:=Aaa (Dt h x) hl hk
    refine⟨_,_,_,hk,LZ Dh hg (fun j p hj=>?_) fun c hc id B1=>Gb h x id (hr c hc id B1)⟩
    obtain⟨u,hu,hp⟩:=h2.get hj
    exact⟨u,by simpa using hu,hp⟩
  · rw[ha] at hk
    obtain⟨cs,hk,_,h2,h1⟩:=Al7 (Dt h x) hl hk
    refine⟨_,_,_,hk,R8 (by simp) Dh hg (fun j p hj=>?_) (.inl ⟨rfl,rfl⟩)⟩
    obtain⟨u,hu,hp⟩:=h2.get hj
    exact⟨u,by simpa using hu,h1 u (List.mem_of_getElem? hu),hp⟩
theorem XM{c:PV}(h1:∀x,c ≠ .agg x)(h2:∀x,c ≠ .tup x):Ch c=Aw c:=by cases c<;>first|rfl|exact absurd rfl (h1 _)|exact absurd rfl (h2 _)
theorem Zx{t:TypeId}{ad:Addr}{cs:Al}{p:PV}(hok:J3 P t=true)(Do:cs.length=(Jj P t).length)(CH:∀c∈cs,(∀x,c ≠ .agg x)/\(∀x,c ≠ .tup x))(hc:∀(j:Nat) c,cs[j]?=some c->∃v,w.cell? (ad.add j)=some v/\Cn w A β c v)(hp:(Cp P t=true/\p=.agg cs)\/(Cp P t=false/\cs=[p])):∃val,(loadVar t ad).run P w=.ok val w/\Fk w A β p val:=by
 obtain⟨⟨d,hd⟩,hl,hi⟩:=Rx hok;rcases hp with⟨G4,rfl⟩|⟨G4,rfl⟩
 ·have hf:∀j,j<Bj P t->w.cell? (ad.add j)=some ((w.cell? (ad.add j)).getD undef):=by
   intro j hj;obtain⟨v,hv,_⟩:=hc j _ (List.getElem?_eq_getElem (by omega));rw[hv];rfl
  refine⟨_,?_,(List.range (Bj P t)).map (fun j=>(w.cell? (ad.add j)).getD undef),rfl,?_⟩
  ·simp only[loadVar,Sem.run_bind,Od hd,G4,Result.andThen_ok,if_true,Lw hi,run_loadCells w ad (Bj P t) _ hf];simp
  ·refine Bo.of_at (by simp;omega) fun i c u Tf hu=>?_
   obtain⟨v,hv,DL⟩:=hc i c Tf
   have Cx:i<Bj P t:=by
    rcases Ht i cs.length with h|h
    ·omega
    ·rw[List.getElem?_eq_none h] at Tf;cases Tf
   rw[List.getElem?_map,List.getElem?_range Cx] at hu;simp[hv] at hu;subst hu;exact DL
 ·obtain⟨v,hv,DL⟩:=hc 0 p rfl;have hn:=CH p (by simp);have h0:ad.add 0=ad:=by simp[Addr.add]
  rw[h0] at hv;refine⟨v,?_,(Qf hn.2).2 ((Zt hn.1).2 DL)⟩;simp only[loadVar,Sem.run_bind,Od hd,G4,Result.andThen_ok];simp[hv]
theorem Ahg{hp:Nat->Option Cd}{id:Nat}{c:Al}(h:rd hp id=some c):hp id=some (.st c)\/∃f,hp id=some (.ar f c):=by
 unfold rd at h;split at h
 ·rename_i e;simp at h;subst h;exact .inl e
 ·rename_i f _ e;simp at h;subst h;exact .inr ⟨_,e⟩
 ·cases h
theorem PA{hp:Nat->Option Cd}{id:Nat}{c:Al}(h:Kq hp id=some c):∃f,hp id=some (.ar f c):=by
 unfold Kq at h;split at h
 ·rename_i e;simp at h;subst h;exact⟨_,e⟩
 ·cases h
theorem GH(h:Dl N w0 X0 Y β s a w){id:Nat}{c:Al}(hr:rd s.hp id=some c){b ob:Nat}(hβ:β id=some (b,ob)){j:Nat}{p:PV}(hj:c[j]?=some p):
  ∃v,w.cell? ⟨b,ob+j,none⟩=some v/\Cn w (D2 s.hp β Y) β p v:=by
 rcases Ahg hr with hb|⟨f,hb⟩
 ·obtain⟨b',o',h1,h2,_⟩:=h.box id _ hb;rw[hβ] at h1;simp at h1;obtain⟨rfl,rfl⟩:=h1;exact h2 j p hj
 ·rcases h.box id _ hb with⟨h1,_⟩|⟨b',o',h1,h2,_⟩
  ·rw[hβ] at h1;cases h1
  ·rw[hβ] at h1;simp at h1;obtain⟨rfl,rfl⟩:=h1
   obtain⟨v,hv,_,ht⟩:=h2 j p hj;rw[Ft] at hv;refine⟨v,hv,?_⟩;cases ht with
   |sc=>exact A3.sc _
   |top=>exact A3.top _
   |ub=>exact A3.ub _
   |lnil=>exact A3.lnil _ _
   |lemp=>exact A3.lemp _ _ _
   |lst es n cells a cap f hs hb hA hn hc h1 hr=>exact A3.lst es n cells a cap f hs hb hA hn hc h1 hr
theorem Ll:∀{ts:List CT}{cells:Al}{off:Nat}{K:Al->Option R},Tx ts cells off K=some r->P8 ts cells off K=some r
 |[],_,_,_,h=>h
 |.int k::ts,cells,off,K,h=>by
  obtain⟨n,hp,h⟩:=Fm (show Eh k (cells.getD off .top) _=some r from h);show Eh k _ _=_;rw[hp];simp only[Eh,if_true];exact Ll h
 |.bool::ts,cells,off,K,h=>by
  obtain⟨n,hp,h⟩:=En (show Cb (cells.getD off .top) _=some r from h);show Cb _ _=_;rw[hp];exact Ll h
 |.str::ts,cells,off,K,h=>by
  obtain⟨n,hp,h⟩:=Eg (show Ai (cells.getD off .top) _=some r from h);show Ai _ _=_;rw[hp];exact Ll h
 |.sl es::ts,cells,off,K,h=>by
  obtain⟨z,n,c,h,hp⟩:=Gq (show Xw es (cells.getD off .top) _=some r from h);change fcK (.sl es) (cells.getD off .top) (fun c=>P8 ts cells (off+1) fun r=>K (c::r))=some r;unfold fcK;dsimp only;unfold fsK;rcases hp with hp|⟨hp,rfl,rfl,rfl⟩
  ·rw[hp];simp only[Xw,Pz,cond_true];exact Ll h
  ·rw[hp];exact Ll h
 |.any::ts,cells,off,K,h=>by
  have hK:∀v,Tx ts cells (off+1) (fun r=>K (.sc v::r))=some r->P8 ts cells (off+1) (fun r=>K (.sc v::r))=some r:=fun v h=>Ll h;have h:fnK (cells.getD off .top) (fun v=>Tx ts cells (off+1) fun r=>K (.sc v::r))=some r:=h;show fnK (cells.getD off .top) (fun v=>P8 ts cells (off+1) fun r=>K (.sc v::r))=some r;unfold fnK at h ⊢;split at h
  ·rename_i e;exact hK _ h
  ·exact hK _ h
  ·cases h
theorem A3.unz{w:World}{A:Nat->Prop}{z:Bool}{es n:Nat}{c:Al}{u:Value}(h:A3 w A (.lst z es n c) u):A3 w A (.lst false es n c) u:=by
 cases h with
 |lnil z es=>exact .lnil false es
 |lemp es a cap=>exact .lemp es a cap
 |lst es n c a cap f h1 h2 h3 h4 h5 h6 h7=>exact .lst es n c a cap f h1 h2 h3 h4 h5 h6 h7
theorem Adn{w:World}{A:Nat->Prop}{β:Bt}{p:PV}{u:Value}(h:Cn w A β p u):Cn w A β (PO p) u:=by
 cases p with
 |lst z es n c=>exact A3.unz h
 |_=>exact h
theorem WJ(p:PV):Aw (PO p)=Aw p:=by cases p<;>rfl
theorem ML{w:World}{A:Nat->Prop}{β:Bt}:∀{cs:Al}{vs:List Value},Bo (Cn w A β) cs vs->Bo (Cn w A β) (cs.map PO) vs
 |[],[],_=>trivial
 |_::_,_::_,h=>⟨Adn h.1,ML h.2⟩
 |[],_::_,h=>h.elim
 |_::_,[],h=>h.elim
theorem Ac9{w:World}{A:Nat->Prop}{β:Bt}{p:PV}{u:Value}(h:Fk w A β p u):Fk w A β (XU p) u:=by
 cases p with
 |agg cs=>
  obtain⟨vs,h1,h2⟩:=(show I6 w A β (.agg cs) u from h)
  exact⟨vs,h1,ML h2⟩
 |lst z es n c=>exact A3.unz (show A3 w A (.lst z es n c) u from h)
 |_=>exact h
theorem Adq(p:PV):Ch (XU p)=Ch p:=by
 cases p with
 |agg cs=>
  show (cs.map PO).flatMap Aw=cs.flatMap Aw
  induction cs with
  |nil=>rfl
  |cons a l ih=>rw[Xy,Kg,Kg,ih,WJ]
 |_=>rfl
theorem Aly{nz:Bool}{hp:Nat->Option Cd}{t:TypeId}{x:PV}{K:PV->Option R}(h:Zl nz P (rd hp) (Kq hp) t x K=some r):
  Ya P (rd hp) t x K=some r\/Ya P (rd hp) t x (fun v=>K (XU v))=some r:=by
 have h':Ya P (rd hp) t x K=some r\/Ya P (rd hp) t x (fun v=>K (bif nz then v else XU v))=some r:=by
  unfold Zl at h;unfold Ya;split at h
  ·rename_i id off;obtain⟨hb,h⟩:=Aq h;rw[hb];show Dk _ _=_\/Dk _ _=_;split at h
   ·rename_i c hc;obtain⟨f,My⟩:=PA hc;have:rd hp id=some c:=by unfold rd;rw[My]
    rw[this];exact .inr (Ll h)
   ·exact .inl h
  ·exact .inr h
  ·cases h
 cases nz
 ·exact h'
 ·exact .inl (h'.elim id id)
theorem MM(h:Dl N w0 X0 Y β s a w){t:TypeId}{x:PV}{u:Value}(hx:Fk w (D2 s.hp β Y) β x u){K:PV->Option R}(hk:Ya P (rd s.hp) t x K=some r):
  ∃v ad val,K v=some r/\u=.pointer (some ad)/\(loadVar t ad).run P w=.ok val w/\Fk w (D2 s.hp β Y) β v val/\∀i∈Ch v,s.hp i≠none:=by
 unfold Ya at hk;split at hk
 ·rename_i id off;obtain⟨hok,hk⟩:=Aq hk;obtain⟨c,hr,hk⟩:=Cz hk;obtain⟨cs,hk,hl,CH,hc⟩:=Ui hk;obtain⟨b,ob,hβ,D7⟩:=hx
  have Dv:∀(j:Nat) q,cs[j]?=some q->∃v,w.cell? ((⟨b,ob+off,none⟩:Addr).add j)=some v/\Cn w (D2 s.hp β Y) β q v:=by
   intro j q hq;obtain⟨p,hp,_,_,CI⟩:=hc j q hq;obtain⟨v,hv,DL⟩:=GH h hr hβ hp;exact⟨v,by rw[Ft,Mu];exact hv,(CI _ _ _ _ DL).1⟩
  have Xd:∀q∈cs,∀i∈Aw q,s.hp i≠none:=by
   intro q hq i hi;obtain⟨j,hj⟩:=List.mem_iff_getElem?.1 hq;obtain⟨p,hp,_,hpr,_⟩:=hc j q hj;rcases Ahg hr with hb|⟨f,hb⟩
   ·exact h.wfB id c hb p (List.mem_of_getElem? hp) i (hpr i hi)
   ·obtain⟨v,hv,DL⟩:=GH h hr hβ hp;exfalso;have Dn:=hpr i hi;rcases h.box id _ hb with⟨_,rfl⟩|⟨b',o',h1,h2,_⟩
    ·simp at hp
    ·obtain⟨v',_,_,ht⟩:=h2 _ p hp;cases ht<;>cases Dn
  rcases PG hk with⟨G4,F3⟩|⟨G4,q,rfl,F3⟩
  ·obtain⟨val,Y7,hv⟩:=Zx hok hl CH Dv (.inl ⟨G4,rfl⟩);refine⟨_,_,val,F3,D7,Y7,hv,fun i hi=>?_⟩;obtain⟨q,hq,hi⟩:=List.mem_flatMap.1 (show i∈cs.flatMap Aw from hi);exact Xd q hq i hi
  ·obtain⟨val,Y7,hv⟩:=Zx hok hl CH Dv (.inr ⟨G4,rfl⟩);refine⟨_,_,val,F3,D7,Y7,hv,fun i hi=>Xd q (by simp) i ?_⟩;have hn:=CH q (by simp);rw[XM hn.1 hn.2] at hi;exact hi
 ·rename_i c off;obtain⟨hok,hk⟩:=Aq hk;obtain⟨cs,hk,hl,hc⟩:=Uu hk;obtain⟨ad,D7,hs,hb,hA,hrd⟩:=hx
  have CH:∀q∈cs,(∀x,q ≠ .agg x)/\(∀x,q ≠ .tup x):=by
   intro q hq;obtain⟨j,hj⟩:=List.mem_iff_getElem?.1 hq;exact⟨Y9 (hc j q hj).1,ZR (hc j q hj).1⟩
  have Dv:∀(j:Nat) q,cs[j]?=some q->∃v,w.cell? ((ad.add off).add j)=some v/\Cn w (D2 s.hp β Y) β q v:=by
   intro j q hq;obtain⟨hT,p,hp,GK,CI⟩:=hc j q hq;obtain⟨v,hv,_,ht⟩:=hrd (off+j) p hp;exact⟨v,by rw[add_add];exact hv,(Md hT).2 (CI w (D2 s.hp β Y) β v ((Md GK).2 ht)).1⟩
  have Xd:∀q∈cs,Aw q=[]:=by
   intro q hq;obtain⟨j,hj⟩:=List.mem_iff_getElem?.1 hq;exact I1 (hc j q hj).1
  rcases PG hk with⟨G4,F3⟩|⟨G4,q,rfl,F3⟩
  ·obtain⟨val,Y7,hv⟩:=Zx hok hl CH Dv (.inl ⟨G4,rfl⟩);refine⟨_,_,val,F3,D7,Y7,hv,fun i hi=>?_⟩;obtain⟨q,hq,hi⟩:=List.mem_flatMap.1 (show i∈cs.flatMap Aw from hi);rw[Xd q hq] at hi;cases hi
  ·obtain⟨val,Y7,hv⟩:=Zx hok hl CH Dv (.inr ⟨G4,rfl⟩);refine⟨_,_,val,F3,D7,Y7,hv,fun i hi=>?_⟩;have hn:=CH q (by simp);rw[XM hn.1 hn.2,Xd q (by simp)] at hi;cases hi
 ·cases hk
theorem SS(h:Dl N w0 X0 Y β s a w){t:TypeId}{x:PV}{u:Value}(hx:Fk w (D2 s.hp β Y) β x u){nz:Bool}{K:PV->Option R}(hk:Zl nz P (rd s.hp) (Kq s.hp) t x K=some r):
  ∃v ad val,K v=some r/\u=.pointer (some ad)/\(loadVar t ad).run P w=.ok val w/\Fk w (D2 s.hp β Y) β v val/\∀i∈Ch v,s.hp i≠none:=by
 rcases Aly hk with hk|hk
 ·exact MM h hx hk
 ·obtain⟨v,ad,val,h1,h2,h3,h4,h5⟩:=MM h hx hk;exact⟨XU v,ad,val,h1,h2,h3,Ac9 h4,by rw[Adq];exact h5⟩
theorem WO(h:Dl N w0 X0 Y β s a w){t:TypeId}{x:Operand}(ho:o.op=.load t x){nz:Bool}{K:PV->Option R}(hk:Zl nz P (rd s.hp) (Kq s.hp) t (Cm s.tm x) K=some r):
  ∃v,K v=some r/\Ff P a w o Y β s v [] []:=by
 obtain⟨v,ad,val,E6,D7,hl,hv,hr⟩:=SS h (Dt h x) hk;refine⟨v,E6,Cr ?_ hv hr⟩;unfold execOp;rw[ho];simp[Instr.loadAt,Instr.sureAddr,D7,hl]
theorem Abv{x:PV}{d:Nat}{K:PV->Option R}(h:Vj x d K=some r):(∃id off,x=.ptr id off/\K (.ptr id (off+d))=some r)\/∃c off,x=.iptr c off/\K (.iptr c (off+d))=some r:=by
 unfold Vj at h;split at h
 ·exact .inl ⟨_,_,rfl,h⟩
 ·exact .inr ⟨_,_,rfl,h⟩
 ·cases h
theorem Yj(h:Dl N w0 X0 Y β s a w){x:Operand}{d:Nat}{K:PV->Option R}(hk:Vj (Cm s.tm x) d K=some r)(Dh:∀ad:Addr,a.eval x=.pointer (some ad)->(execOp a.eval o).run P w=.ok (.value (.pointer (some (ad.add d)))) w):∃v,K v=some r/\Ff P a w o Y β s v [] []:=by
 have hx:=Dt h x;have KE:=Gb h x;rcases Abv hk with⟨id,off,e,hk⟩|⟨c,off,e,hk⟩
 ·rw[e] at hx KE;obtain⟨b,ob,hβ,D7⟩:=hx;refine⟨_,hk,Cr (Dh _ D7) ⟨b,ob,hβ,by rw[Ft,Mu]⟩ KE⟩
 ·rw[e] at hx;obtain⟨ad,D7,h1,h2,h3,h4⟩:=hx;exact⟨_,hk,Cr (Dh _ D7) ⟨ad,by rw[add_add],h1,h2,h3,h4⟩ (by intro i hi;cases hi)⟩
theorem GX(h:Dl N w0 X0 Y β s a w){x:Operand}(ho:o.op=.nilCheck x){K:PV->Option R}(hk:Vj (Cm s.tm x) 0 K=some r):∃v,K v=some r/\Ff P a w o Y β s v [] []:=by refine Yj h hk fun ad D7=>?_;unfold execOp;rw[ho];simp[D7,Addr.add]
theorem Z0{t:TypeId}{f:Nat}{q:Nat × TypeId}(h:Sf P t f=some q):∃fs g,P.underlying t=some (.struct fs)/\fs[f]?=some g/\q=(g.offset,g.type):=by
 unfold Sf at h;split at h
 ·rename_i fs e;cases hg:fs[f]? with
  |none=>rw[hg] at h;cases h
  |some g=>rw[hg] at h;simp at h;exact⟨fs,g,e,hg,h.symm⟩
 ·cases h
theorem EZ(h:Dl N w0 X0 Y β s a w){t:TypeId}{x:Operand}{f:Nat}(ho:o.op=.fieldAddr t x f){K:PV->Option R}(hk:(Dk (Sf P t f) fun q=>A6 (Nat.ble 1 (Bj P q.2)) (Vj (Cm s.tm x) q.1 K))=some r):∃v,K v=some r/\Ff P a w o Y β s v [] []:=by
 obtain⟨q,hq,hk⟩:=Cz hk;obtain⟨hs,hk⟩:=Aq hk;obtain⟨fs,g,hu,hg,rfl⟩:=Z0 hq;have hs:1<=Bj P g.type:=Rc hs;have Oa:=Aie (P:=P) (t:=g.type) rfl (by omega);refine Yj h hk fun ad D7=>?_;unfold execOp;rw[ho];have Er:¬Bj P g.type=0:=by omega
 simp[Instr.fieldAt,run_underlying hu,hg,Instr.sureAddr,D7,fieldPlace,Lw Oa,Er]
end
open Go.RowKit
section
variable {R:Type}{r:R}{P:Program}{N:Nat}{w0:World}{X0:Jb}{Y:Nat->Prop}{β β':Bt}{s:St}{a:Act}{w w':World}{o:Oper}{A:Nat->Prop}
theorem IX(h:Dl N w0 X0 Y β s a w){t:TypeId}{cs:Al}{vs:List Value}{off:Nat}{K:PV->Option R}{x:Operand}(hx:Cm s.tm x=.agg cs)(hv:Bo (Cn w (D2 s.hp β Y) β) cs vs)(hk:A6 (J3 P t) (P8 (Jj P t) cs off fun c=>mkV (Cp P t) c K)=some r)(Dh:∀val,(part t ⟨vs⟩ off).run P w=.ok val w->(execOp a.eval o).run P w=.ok (.value val) w):∃v,K v=some r/\Ff P a w o Y β s v [] []:=by
 obtain⟨hok,hk⟩:=Aq hk;obtain⟨⟨d,hd⟩,hl,hi⟩:=Rx hok;obtain⟨qs,hk,hql,CH,hq⟩:=Ui hk;have KE:=Gb h x;rw[hx] at KE
 have Dv:∀(j:Nat) q,qs[j]?=some q->∃v,vs[off+j]?=some v/\Cn w (D2 s.hp β Y) β q v:=by
  intro j q hj;obtain⟨p,hp,_,_,CI⟩:=hq j q hj;obtain⟨v,Qo,hc⟩:=hv.get hp;exact⟨v,Qo,(CI _ _ _ _ hc).1⟩
 have Xd:∀q∈qs,∀i∈Aw q,s.hp i≠none:=by
  intro q hqm i hi;obtain⟨j,hj⟩:=List.mem_iff_getElem?.1 hqm;obtain⟨p,hp,_,hpr,_⟩:=hq j q hj;exact KE i (List.mem_flatMap.2 ⟨p,List.mem_of_getElem? hp,hpr i hi⟩)
 rcases PG hk with⟨G4,F3⟩|⟨G4,q,rfl,F3⟩
 ·have BU:Bj P t=0\/off+Bj P t<=vs.length:=by
   rcases Nat.eq_zero_or_pos (Bj P t) with h0|h0
   ·exact .inl h0
   ·obtain⟨v,Qo,_⟩:=Dv (Bj P t-1) _ (List.getElem?_eq_getElem (by omega))
    have:off+(Bj P t-1)<vs.length:=by
     rcases Ht (off+(Bj P t-1)) vs.length with h|h
     ·exact h
     ·rw[List.getElem?_eq_none h] at Qo;cases Qo
    exact .inr (by omega)
  refine⟨_,F3,Cr (Dh (.agg ⟨(vs.drop off).take (Bj P t)⟩) ?_) ⟨(vs.drop off).take (Bj P t),rfl,?_⟩ fun i hi=>?_⟩
  ·simp only[part,Sem.run_bind,Od hd,G4,Result.andThen_ok,if_true,Lw hi];simp[List.extract_eq_take_drop]
  ·refine Bo.of_at ?_ fun i c u hc hu=>?_
   ·simp only[List.length_take,List.length_drop];omega
   ·obtain⟨v,Qo,DL⟩:=Dv i c hc
    have Cx:i<Bj P t:=by
     rcases Ht i qs.length with h|h
     ·omega
     ·rw[List.getElem?_eq_none h] at hc;cases hc
    rw[List.getElem?_take_of_lt Cx,List.getElem?_drop,Qo] at hu;cases hu;exact DL
  ·obtain⟨q,hqm,hi⟩:=List.mem_flatMap.1 (show i∈qs.flatMap Aw from hi);exact Xd q hqm i hi
 ·obtain⟨v,Qo,DL⟩:=Dv 0 q rfl;have hn:=CH q (by simp);refine⟨_,F3,Cr (Dh v ?_) ((Qf hn.2).2 ((Zt hn.1).2 DL)) fun i hi=>?_⟩
  ·simp only[part,Sem.run_bind,Od hd,G4,Result.andThen_ok];rw[KT] at Qo;simp[Qo]
  ·rw[XM hn.1 hn.2] at hi;exact Xd q (by simp) i hi
theorem UI(h:Dl N w0 X0 Y β s a w){t:TypeId}{x:Operand}{f:Nat}(ho:o.op=.field t x f){K:PV->Option R}(hk:(Dk (Sf P t f) fun q=>A6 (J3 P q.2)<|Fo (Cm s.tm x) fun cs=>P8 (Jj P q.2) cs q.1 fun c=>mkV (Cp P q.2) c K)=some r):∃v,K v=some r/\Ff P a w o Y β s v [] []:=by
 obtain⟨q,hq,hk⟩:=Cz hk;obtain⟨hok,hk⟩:=Aq hk;obtain⟨cs,hx,hk⟩:=Iv hk;obtain⟨fs,g,hu,hg,rfl⟩:=Z0 hq;have hxv:=Dt h x;rw[hx] at hxv;obtain⟨vs,D7,hv⟩:=hxv;refine IX (t:=g.type) (off:=g.offset) h hx hv (by rw[show J3 P g.type=true from hok];exact hk) fun val hp=>?_
 unfold execOp;rw[ho];simp[Instr.field,run_underlying hu,hg,asAgg,D7,hp]
theorem KU(h:Dl N w0 X0 Y β s a w){x:Operand}{i:Nat}(ho:o.op=.extract x i){K:PV->Option R}(hk:(match Cm s.tm x with | .tup vs=>Dk vs[i]? K|_=>none)=some r):∃v,K v=some r/\Ff P a w o Y β s v [] []:=by
 have hx:=Dt h x;have KE:=Gb h x;split at hk
 ·rename_i ps e;rw[e] at hx KE;obtain⟨p,hp,hk⟩:=Cz hk;obtain⟨vs,D7,hv⟩:=hx;obtain⟨v,Qo,CI⟩:=hv.get hp
  have Aog:∀y,p ≠ .tup y:=by
   rintro y rfl
   have Azk:A3 _ _ (.tup y) v:=CI;cases Azk
  refine⟨p,hk,Cr (val:=v) ?_ ((Qf Aog).2 CI) fun id B1=>KE id ?_⟩
  ·unfold execOp;rw[ho];simp[Instr.extract,D7,Qo]
  ·refine List.mem_flatMap.2 ⟨p,List.mem_of_getElem? hp,?_⟩;cases p<;>first|exact B1|exact absurd rfl (Aog _)
 ·cases hk
theorem Hp{es:Nat}{p:PV}{z:Bool}{n:Nat}{c:Al}{v:Value}(hp:p=.lst z es n c\/(p=.sc (.slice none 0 0)/\z=true/\n=0/\c=[]))(hv:Fk w A β p v):
  (v=.slice none 0 0/\n=0/\c=[])\/(∃ad cap,v=.slice (some ad) n cap/\z=false/\n<=cap/\ad.spot=none/\ad.block<w.heap.size/\¬A ad.block/\WD w A ad c)\/∃ad cap,v=.slice (some ad) 0 cap/\z=false/\n=0/\c=[]:=by
 have Qo:Cn w A β p v:=by rcases hp with rfl|⟨rfl,_⟩<;>exact hv
 have ht:=Xr hp Qo;cases ht with
 |lnil=>exact .inl ⟨rfl,rfl,rfl⟩
 |lst _ _ _ ad cap f hs hb hA hn hc h1 hr=>exact .inr (.inl ⟨ad,cap,rfl,rfl,hn,hs,hb,hA,fun j q hj=>⟨f j,hc j q hj,h1 j q hj,hr j q hj⟩⟩)
 |lemp _ ad cap=>exact .inr (.inr ⟨ad,cap,rfl,rfl,rfl,rfl⟩)
theorem EY(h:Dl N w0 X0 Y β s a w){t:TypeId}{x i:Operand}(ho:o.op=.indexAddr t x i){K:PV->Option R}(hk:(El (Cm s.tm i) fun _ n=>Ln P t (Cm s.tm x) n K)=some r):∃v,K v=some r/\Ff P a w o Y β s v [] []:=by
 obtain⟨ik,n,hi,hk⟩:=Ef hk;have hai:=Cv h hi;have hx:=Dt h x;have KE:=Gb h x;unfold Ln at hk;split at hk
 ·rename_i len e hu;obtain⟨hz,hk⟩:=Aq hk;obtain⟨hb,hk⟩:=Aq hk;simp only[Fb,AM] at hb;obtain⟨inf,Rg⟩:=Option.isSome_iff_exists.1 hz;refine Yj h hk fun ad D7=>?_;unfold execOp;rw[ho];simp[Instr.indexAt,asIntOf,hai,D7,run_underlying hu,Instr.sureAddr,hb.1,hb.2,sizeOf,typeInfo,Rg,Bj]
 ·rename_i e hu;obtain⟨hz,hk⟩:=Aq hk;obtain⟨inf,Rg⟩:=Option.isSome_iff_exists.1 hz;have Oa:Bj P e=inf.size:=by simp[Bj,Rg]
  split at hk
  ·rename_i id es off n' e';rw[e'] at hx KE;obtain⟨Tr,hk⟩:=Aq hk;have Tr:=D9 Tr;subst Tr;obtain⟨hb,hk⟩:=Aq hk;simp only[Fb,AM] at hb;rcases hx with⟨_,_,rfl,_⟩|⟨b,ob,y,cap,hβ,D7,hy,_⟩
   ·omega
   ·have hy:y=ob+off:=by rcases hy with hy|⟨rfl,_⟩<;>omega
    subst hy;refine⟨_,hk,Cr (val:=.pointer (some ⟨b,ob+(off+n.toNat*Bj P e),none⟩)) ?_ ⟨b,ob,hβ,rfl⟩ KE⟩;unfold execOp;rw[ho];simp[Instr.indexAt,asIntOf,hai,D7,run_underlying hu,hb.1,hb.2,sizeOf,typeInfo,Rg,Oa,Ft,Mu]
  ·obtain⟨z,n',c,hk,hp⟩:=Gq hk;obtain⟨hb,hk⟩:=Aq hk;simp only[Fb,AM] at hb;rcases Hp hp hx with⟨_,rfl,_⟩|⟨ad,cap,D7,_,_,h1,h2,h3,h4⟩|⟨_,_,_,_,rfl,_⟩
   ·omega
   rotate_left
   ·omega
   ·refine⟨_,hk,Cr (val:=.pointer (some (ad.add (n.toNat*Bj P e)))) ?_ ⟨ad,rfl,h1,h2,h3,h4⟩ (by intro i hi;cases hi)⟩
    unfold execOp;rw[ho];simp[Instr.indexAt,asIntOf,hai,D7,run_underlying hu,hb.1,hb.2,sizeOf,typeInfo,Rg,Oa]
 ·cases hk
theorem UD(h:Dl N w0 X0 Y β s a w){t:TypeId}{x i:Operand}(ho:o.op=.index t x i){K:PV->Option R}(hk:(El (Cm s.tm i) fun _ n=>
   match P.underlying t with
   |some .string=>Ai (Cm s.tm x) fun s=>A6 (decide (0<=n)) (Dk (s.data.toList[n.toNat]?) fun b=>K (.sc (.int .u8 b.toNat)))
   |some (.array len e)=>Fo (Cm s.tm x) fun cs=>A6 (decide (0<=n)&&decide (n<len)&&J3 P e) (P8 (Jj P e) cs (n.toNat*Bj P e) fun c=>mkV (Cp P e) c K)
   |_=>none)=some r):∃v,K v=some r/\Ff P a w o Y β s v [] []:=by
 obtain⟨ik,n,hi,hk⟩:=Ef hk;have hai:=Cv h hi;split at hk
 ·rename_i hu;obtain⟨sb,hx,hk⟩:=Eg hk;have D7:=Cv h hx;obtain⟨h0,hk⟩:=Aq hk;obtain⟨b,hb,hk⟩:=Cz hk;have h0:=of_decide_eq_true h0;refine⟨_,hk,Db ?_⟩
  have Cx:n.toNat<sb.size:=by
   rcases Ht n.toNat sb.data.toList.length with h|h
   ·simpa using h
   ·rw[List.getElem?_eq_none h] at hb;cases hb
  have Jf:sb[n.toNat]=b:=by
   have:sb.data.toList[n.toNat]?=some sb[n.toNat]:=by
    rw[List.getElem?_eq_getElem (by simpa using Cx)];rfl
   rw[hb] at this;injection this with this;exact this.symm
  unfold execOp;rw[ho];simp[Instr.index,asIntOf,hai,D7,run_underlying hu,h0,Cx,Jf]
 ·rename_i len e hu;obtain⟨cs,hx,hk⟩:=Iv hk;obtain⟨hb,hk⟩:=Aq hk;simp only[Fb,AM] at hb;have hxv:=Dt h x;rw[hx] at hxv;obtain⟨vs,D7,hv⟩:=hxv;obtain⟨_,_,Oa⟩:=Rx hb.2;refine IX (t:=e) (off:=n.toNat*Bj P e) h hx hv (by rw[hb.2];exact hk) fun val hp=>?_
  unfold execOp;rw[ho];simp[Instr.index,asIntOf,hai,D7,run_underlying hu,hb.1.1,hb.1.2,Lw Oa,hp]
 ·cases hk
end
open Go.RowKit
section
variable {R:Type}{r:R}{P:Program}{N:Nat}{w0:World}{X0:Jb}{Y:Nat->Prop}{β β':Bt}{s:St}{a:Act}{w w':World}{o:Oper}{A:Nat->Prop}
theorem Et(h:Dl N w0 X0 Y β s a w){x:Option Operand}{dflt:Nat}{K:Nat->Option R}(hk:H7 (x.map (Cm s.tm)) dflt K=some r):
  ∃l,K l=some r/\((x=none/\l=dflt)\/∃y k,x=some y/\a.eval y=.int k (l:Int)):=by
 cases x with
 |none=>exact⟨dflt,hk,.inl ⟨rfl,rfl⟩⟩
 |some y=>
  obtain⟨k,i,hi,hk⟩:=Ef (show El (Cm s.tm y) _=some r from hk);obtain⟨h0,hk⟩:=Aq hk;have h0:=of_decide_eq_true h0;exact⟨i.toNat,hk,.inr ⟨y,k,rfl,by rw[Cv h hi,Int.toNat_of_nonneg h0]⟩⟩
theorem Jy{lo hi:Option Operand}{isS:Bool}{len cap l u:Nat}(hl:(lo=none/\l=0)\/∃y k,lo=some y/\a.eval y=.int k (l:Int))(hu:(hi=none/\u=len)\/∃y k,hi=some y/\a.eval y=.int k (u:Int))(h1:l<=u)(h2:u<=cap):
  (Instr.sliceBounds isS len cap (lo.map a.eval) (hi.map a.eval) none).run P w=.ok (l,u,cap) w:=by
 rcases hl with⟨rfl,rfl⟩|⟨y,k,rfl,hy⟩<;>rcases hu with⟨rfl,rfl⟩|⟨y',k',rfl,hy'⟩
 ·simp[Instr.sliceBounds]
 ·simp[Instr.sliceBounds,Instr.sliceBound,asIntOf,hy',h2]
 ·simp[Instr.sliceBounds,Instr.sliceBound,asIntOf,hy,h1]
 ·simp[Instr.sliceBounds,Instr.sliceBound,asIntOf,hy,hy',h1,h2]
theorem Dm{e:TypeId}(h:(P.info? e).isSome=true)(w:World):(sizeOf e).run P w=.ok (Bj P e) w:=by obtain⟨i,hi⟩:=Option.isSome_iff_exists.1 h;exact Lw (by simp[Bj,hi]) w
theorem GG{b j:Nat}{v:Value}(h:w.cell? ⟨b,j,none⟩=some v):j<bsz w b:=by
 unfold World.cell? at h;unfold bsz;split at h
 ·rename_i c e fz hb;simp only at hb;rw[hb];simp only[Option.isSome_none,Bool.false_eq_true,if_false] at h;rcases Ht j c.size with Cx|hge
  ·exact Cx
  ·rw[Array.getElem?_eq_none hge] at h;cases h
 ·cases h
theorem VS(h:Dl N w0 X0 Y β s a w){t:TypeId}{x:Operand}{lo hi:Option Operand}(ho:o.op=.slice t x lo hi none){K:PV->Option R}(hk:BG P (rd s.hp) t (Cm s.tm x) (lo.map (Cm s.tm)) (hi.map (Cm s.tm)) K=some r):∃v,K v=some r/\Ff P a w o Y β s v [] []:=by
 have hx:=Dt h x;have KE:=Gb h x;unfold BG at hk;split at hk
 ·rename_i hu;obtain⟨sb,KH,hk⟩:=Eg hk;have D7:=Cv h KH;obtain⟨l,hk,hl⟩:=Et h hk;obtain⟨u,hk,Kj⟩:=Et h hk;obtain⟨hb,hk⟩:=Aq hk;simp only[Fb,AM] at hb;refine⟨_,hk,Db ?_⟩;unfold execOp;rw[ho];simp[Instr.sliceAt,Instr.slice,run_underlying hu,D7,Jy hl Kj hb.1 hb.2]
 ·rename_i e hu;obtain⟨Rg,hk⟩:=Aq hk;split at hk
  ·rename_i id es off n e';rw[e'] at hx KE;obtain⟨Tr,hk⟩:=Aq hk;have Tr:=D9 Tr;subst Tr;obtain⟨l,hk,hl⟩:=Et h hk;obtain⟨u,hk,Kj⟩:=Et h hk;obtain⟨hb,hk⟩:=Aq hk;simp only[Fb,AM] at hb;rcases hx with⟨hβ,rfl,rfl,ad,D7⟩|⟨b,ob,y,cap,hβ,D7,hy,hn,Yf,Cx⟩
   ·have hu0:u=0:=by omega
    have hl0:l=0:=by omega
    subst hu0 hl0;refine⟨_,hk,Cr (val:=.slice ad 0 0) ?_ (.inl ⟨hβ,by simp,rfl,ad,rfl⟩) KE⟩;unfold execOp;rw[ho];cases ad<;>simp[Instr.sliceAt,Instr.slice,run_underlying hu,D7,Jy hl Kj (Cc 0) (Cc 0),Dm Rg]
   ·have Dh:(execOp a.eval o).run P w=.ok (.value (.slice (some (if cap=l then ⟨b,y,none⟩ else ⟨b,y+l*Bj P e,none⟩)) (u-l) (cap-l))) w:=by
     unfold execOp;rw[ho];have RK:=Jy (P:=P) (w:=w) (isS:=true) hl Kj hb.1 (Nat.le_trans hb.2 hn);simp[Instr.sliceAt,Instr.slice,run_underlying hu,D7,RK,Dm Rg,Ft];split<;>rfl
    refine⟨_,hk,Cr Dh (.inr ?_) KE⟩;by_cases hc:cap=l
    ·rw[Bq hc];refine⟨b,ob,y,cap-l,hβ,rfl,?_,by omega,⟨by rw[hc,Nat.sub_self];have:=Yf.1;omega,Yf.2⟩,Cx⟩
     by_cases h0:l*Bj P e=0
     ·rw[h0,KT];rcases hy with hy|⟨AR,Q3⟩
      ·exact .inl hy
      ·exact .inr ⟨by omega,Q3⟩
     ·exact .inr ⟨by omega,by omega⟩
    ·rw[Bg hc];refine⟨b,ob,y+l*Bj P e,cap-l,hβ,rfl,?_,by omega,?_,Cx⟩
     ·rcases hy with hy|⟨AR,Q3⟩
      ·exact .inl (by omega)
      ·exact .inr ⟨by omega,by omega⟩
     ·have:l*Bj P e+(cap-l)*Bj P e=cap*Bj P e:=by
       rw[<-Nat.add_mul]
       congr 1
       omega
      have:=Yf.1;exact⟨by omega,Yf.2⟩
  ·obtain⟨z,n,c,hk,hp⟩:=Gq hk;obtain⟨l,hk,hl⟩:=Et h hk;obtain⟨u,hk,Kj⟩:=Et h hk;obtain⟨hb,hk⟩:=Aq hk;simp only[Fb,AM] at hb;rcases Hp hp hx with⟨D7,rfl,rfl⟩|⟨ad,cap,D7,rfl,hn,h1,h2,h3,h4⟩|⟨ad,cap,D7,rfl,rfl,rfl⟩
   rotate_right
   ·have hu0:u=0:=by omega
    have hl0:l=0:=by omega
    subst hu0 hl0;refine⟨_,hk,Cr (val:=.slice (some (if cap=0 then ad else ad.add (0*Bj P e))) (0-0) (cap-0)) ?_ ?_ (by intro i hi;cases hi)⟩
    ·unfold execOp;rw[ho];have RK:=Jy (P:=P) (w:=w) (isS:=true) hl Kj (Cc 0) (Nat.zero_le cap);simp[Instr.sliceAt,Instr.slice,run_underlying hu,D7,RK,Dm Rg];split<;>rfl
    ·have:((([]:Al).drop (0*Bj P e)).take ((0-0)*Bj P e))=[]:=by simp
     rw[this];exact A3.lemp _ _ _
   ·have hu0:u=0:=by omega
    have hl0:l=0:=by omega
    subst hu0 hl0;refine⟨_,hk,Cr (val:=.slice none 0 0) ?_ ?_ (by intro i hi;cases hi)⟩
    ·unfold execOp;rw[ho];simp[Instr.sliceAt,Instr.slice,run_underlying hu,D7,Jy hl Kj (Cc 0) (Cc 0),Dm Rg]
    ·have:((([]:Al).drop (0*Bj P e)).take ((0-0)*Bj P e))=[]:=by simp
     rw[this];exact A3.lnil z _
   ·have Dh:(execOp a.eval o).run P w=.ok (.value (.slice (some (if cap=l then ad else ad.add (l*Bj P e))) (u-l) (cap-l))) w:=by
     unfold execOp;rw[ho];have RK:=Jy (P:=P) (w:=w) (isS:=true) hl Kj hb.1 (Nat.le_trans hb.2 hn);simp[Instr.sliceAt,Instr.slice,run_underlying hu,D7,RK,Dm Rg];split<;>rfl
    refine⟨_,hk,Cr Dh ?_ (by intro i hi;cases hi)⟩
    by_cases hc:cap=l
    ·rw[Bq hc];have:u-l=0:=by omega
     rw[this];simp only[Nat.zero_mul,List.take_zero];exact A3.lst _ _ [] ad _ (fun _=>undef) h1 h2 h3 (by omega) (by simp) (by simp) (by simp)
    ·rw[Bg hc]
     have Dv:∀(j:Nat) q,((c.drop (l*Bj P e)).take ((u-l)*Bj P e))[j]?=some q->c[l*Bj P e+j]?=some q:=by
      intro j q hq;rw[List.getElem?_take] at hq;split at hq
      ·rw[List.getElem?_drop] at hq;exact hq
      ·cases hq
     refine A3.lst _ _ _ (ad.add (l*Bj P e)) _ (fun j=>(w.cell? (ad.add (l*Bj P e+j))).getD undef) (Ait h1 _) (by rw[F6];exact h2) (by rw[F6];exact h3) (by omega) (fun j q hq=>?_) (fun j q hq=>?_) (fun j q hq=>?_)
     ·obtain⟨v,hv,_⟩:=h4 _ q (Dv j q hq);rw[add_add,hv];rfl
     ·obtain⟨v,hv,h5,_⟩:=h4 _ q (Dv j q hq);rw[hv];exact h5
     ·obtain⟨v,hv,_,ht⟩:=h4 _ q (Dv j q hq);rw[hv];exact ht
 ·rename_i n e hu;obtain⟨Rg,hk⟩:=Aq hk;split at hk
  ·rename_i id off e';rw[e'] at hx KE;obtain⟨c,hrc,hk⟩:=Cz hk;obtain⟨Do,hk⟩:=Aq hk;simp only[Fb,AM] at Do;have Tr:=D9 Do.2
   replace Do:=Do.1
   obtain⟨l,hk,hl⟩:=Et h hk;obtain⟨u,hk,Kj⟩:=Et h hk;obtain⟨hb,hk⟩:=Aq hk;simp only[Fb,AM] at hb;obtain⟨b,ob,hβ,D7⟩:=hx
   have KM:ob+off+n*Bj P e<=bsz w b:=by
    obtain⟨v,hv,_⟩:=GH h hrc hβ (j:=off+n*Bj P e-1) (List.getElem?_eq_getElem (by omega));have:=GG hv;omega
   have Cx:b<w.heap.size:=h.blt id b ob (KE id (by simp[Ch,C5,Aw])) hβ
   have Dh:(execOp a.eval o).run P w=.ok (.value (.slice (some (if n=l then ⟨b,ob+off,none⟩ else ⟨b,ob+off+l*Bj P e,none⟩)) (u-l) (n-l))) w:=by
    unfold execOp;rw[ho];have RK:=Jy (P:=P) (w:=w) (isS:=false) hl Kj hb.1 hb.2;simp[Instr.sliceAt,Instr.sureAddr,run_underlying hu,D7,RK,Dm Rg,Ft]
   refine⟨_,hk,Cr Dh (.inr ?_) KE⟩;by_cases hc:n=l
   ·rw[Bq hc];refine⟨b,ob,ob+off,n-l,hβ,rfl,?_,by omega,⟨by rw[hc,Nat.sub_self];omega,.inl Tr⟩,Cx⟩
    by_cases h0:l*Bj P e=0
    ·rw[h0,KT];exact .inl rfl
    ·exact .inr ⟨by omega,by omega⟩
   ·rw[Bg hc];refine⟨b,ob,ob+off+l*Bj P e,n-l,hβ,rfl,.inl (by omega),by omega,?_,Cx⟩
    have:l*Bj P e+(n-l)*Bj P e=n*Bj P e:=by
     rw[<-Nat.add_mul]
     congr 1
     omega
    exact⟨by omega,.inl Tr⟩
  ·cases hk
 ·cases hk
end
open Go.RowKit
section
variable {R:Type}{r:R}{P:Program}{N:Nat}{w0:World}{X0:Jb}{Y:Nat->Prop}{β β':Bt}{s:St}{a:Act}{w w':World}{o:Oper}{A:Nat->Prop}
theorem Ac4(h:Dl N w0 X0 Y β s a w){c:Call}(ho:o.op=.call c)(hc:c.callee=.builtin .len){K:PV->Option R}(hk:(Ac c.args.toList fun x _=>Ac c.argTypes.toList fun t _=>Ab2 P t (Cm s.tm x) fun n=>K (.sc (.int .i64 n)))=some r):∃v,K v=some r/\Ff P a w o Y β s v [] []:=by
 obtain⟨x,xs,KH,hk⟩:=Bh hk;obtain⟨t,ts,RG,hk⟩:=Bh hk;have hx:=Dt h x;have Ga:c.args=(x::xs).toArray:=by rw[<-KH]
 have EN:c.argTypes=(t::ts).toArray:=by rw[<-RG]
 have Dh:∀n:Nat,(Builtin.len_ c.argTypes o.type (c.args.map a.eval)).run P w=.ok (.int .i64 n) w->(execOp a.eval o).run P w=.ok (.value (.int .i64 n)) w:=by
  intro n hl;unfold execOp;rw[ho];simp only[resolve,hc,invoke,builtin,Sem.run_bind,Sem.run_pure,Result.andThen_ok,hl]
 unfold Ab2 at hk;split at hk
 ·rename_i hu;obtain⟨sb,A5m,hk⟩:=Eg hk;have D7:=Cv h A5m;refine⟨_,hk,Db (Dh _ ?_)⟩;simp[Builtin.len_,Ga,EN,run_underlying hu,D7,goInt]
 ·rename_i n e hu;refine⟨_,hk,Db (Dh _ ?_)⟩;simp[Builtin.len_,Ga,EN,run_underlying hu,goInt]
 ·rename_i e hu;split at hk
  ·rename_i id es off n e';rw[e'] at hx;obtain⟨_,hk⟩:=Aq hk;refine⟨_,hk,Db (Dh _ ?_)⟩;rcases hx with⟨_,_,rfl,ad,D7⟩|⟨b,ob,y,cap,_,D7,_⟩<;>simp[Builtin.len_,Ga,EN,run_underlying hu,D7,goInt]
  ·obtain⟨z,n,cc,hk,hp⟩:=Gq hk;refine⟨_,hk,Db (Dh _ ?_)⟩;rcases Hp hp hx with⟨D7,rfl,_⟩|⟨ad,cap,D7,_⟩|⟨ad,cap,D7,_,rfl,_⟩<;>simp[Builtin.len_,Ga,EN,run_underlying hu,D7,goInt]
 ·cases hk
theorem Abu(h:Dl N w0 X0 Y β s a w){c:Call}(ho:o.op=.call c)(hc:c.callee=.builtin .cap){K:PV->Option R}(hk:(Ac c.args.toList fun x _=>Ac c.argTypes.toList fun t _=>Acw P t (Cm s.tm x) fun n=>K (.sc (.int .i64 n)))=some r):∃v,K v=some r/\Ff P a w o Y β s v [] []:=by
 obtain⟨x,xs,KH,hk⟩:=Bh hk;obtain⟨t,ts,RG,hk⟩:=Bh hk;have hx:=Dt h x;have Ga:c.args=(x::xs).toArray:=by rw[<-KH]
 have EN:c.argTypes=(t::ts).toArray:=by rw[<-RG]
 have Dh:∀n:Nat,(Builtin.cap_ c.argTypes o.type (c.args.map a.eval)).run P w=.ok (.int .i64 n) w->(execOp a.eval o).run P w=.ok (.value (.int .i64 n)) w:=by
  intro n hl;unfold execOp;rw[ho];simp only[resolve,hc,invoke,builtin,Sem.run_bind,Sem.run_pure,Result.andThen_ok,hl]
 unfold Acw at hk;split at hk
 ·rename_i e hu;obtain⟨z,n,cc,hk,hp⟩:=Gq hk;obtain⟨hz,hk⟩:=Aq hk;refine⟨_,hk,Db (Dh _ ?_)⟩;rcases Hp hp hx with⟨D7,rfl,_⟩|⟨ad,cap,D7,HR,_⟩|⟨ad,cap,D7,HR,_,_⟩
  ·simp[Builtin.cap_,Ga,EN,run_underlying hu,D7,goInt]
  ·rw[hz] at HR;cases HR
  ·rw[hz] at HR;cases HR
 ·cases hk
theorem Ael(h:Dl N w0 X0 Y β s a w){c:Call}(ho:o.op=.call c)(hc:c.callee=.builtin .min){K:PV->Option R}(hk:(Ac c.args.toList fun x r=>Ac r fun y r'=>Af r' (An3 (Cm s.tm x) (Cm s.tm y) K))=some r):∃v,K v=some r/\Ff P a w o Y β s v [] []:=by
 obtain⟨x,xs,KH,hk⟩:=Bh hk;obtain⟨y,ys,rfl,hk⟩:=Bh hk;obtain⟨rfl,hk⟩:=Ej hk;obtain⟨k,n,hx,hk⟩:=Ef hk;obtain⟨m,hy,hk⟩:=Fm hk
 have Ga:c.args = #[x,y]:=by
  have:c.args=([x,y]:List Operand).toArray:=by rw[<-KH]
  exact this
 refine⟨_,hk,Db ?_⟩;unfold execOp;rw[ho];simp[resolve,hc,invoke,builtin,Ga,Builtin.min_,Builtin.min2,Cv h hx,Cv h hy]
theorem Adi(h:Dl N w0 X0 Y β s a w){c:Call}(ho:o.op=.call c)(hc:c.callee=.builtin .max){K:PV->Option R}(hk:(Ac c.args.toList fun x r=>Ac r fun y r'=>Af r' (Amy (Cm s.tm x) (Cm s.tm y) K))=some r):∃v,K v=some r/\Ff P a w o Y β s v [] []:=by
 obtain⟨x,xs,KH,hk⟩:=Bh hk;obtain⟨y,ys,rfl,hk⟩:=Bh hk;obtain⟨rfl,hk⟩:=Ej hk;obtain⟨k,n,hx,hk⟩:=Ef hk;obtain⟨m,hy,hk⟩:=Fm hk
 have Ga:c.args = #[x,y]:=by
  have:c.args=([x,y]:List Operand).toArray:=by rw[<-KH]
  exact this
 refine⟨_,hk,Db ?_⟩;unfold execOp;rw[ho];simp[resolve,hc,invoke,builtin,Ga,Builtin.max_,Builtin.max2,Cv h hx,Cv h hy]
theorem YW(h:Dl N w0 X0 Y β s a w){op:UnOp}{t:TypeId}{x:Operand}(ho:o.op=.unOp op t x){K:PV->Option R}(hk:unK op (Cm s.tm x) K=some r):
  ∃v,K v=some r/\Ff P a w o Y β s v [] []:=by
 unfold unK at hk;split at hk
 ·obtain⟨b,hb,hk⟩:=En hk;refine⟨_,hk,Db ?_⟩;unfold execOp;rw[ho];simp[Op.unary,Cv h hb]
 ·obtain⟨k,n,hb,hk⟩:=Ef hk;refine⟨_,hk,Db ?_⟩;unfold execOp;rw[ho];simp[Op.unary,Op.intArith,Cv h hb]
 ·obtain⟨k,n,hb,hk⟩:=Ef hk;refine⟨_,hk,Db ?_⟩;unfold execOp;rw[ho];simp[Op.unary,Op.intBits,Cv h hb,Au8]
 ·cases hk
theorem Acg{op:BinOp}{k:IntKind}{m n:Int}{t:TypeId}{x y:Operand}{K:PV->Option R}(hs1:op ≠ .shl)(FI:op ≠ .shr)(hk:IC op k m n K=some r):
  ∃v,K (.sc v)=some r/\(do eqGuard op t x y (.int k m) (.int k n);binOp op t (.int k m) (.int k n)).run P w=.ok v w:=by
 cases op<;>first
  |exact absurd rfl hs1
  |exact absurd rfl FI
  |(obtain⟨hb,hk⟩:=Aq hk;have hb:=of_decide_eq_true hb;exact⟨_,hk,by simp[eqGuard,binOp,Op.intDiv,hb]⟩)
  |exact⟨_,hk,by simp[eqGuard,binOp,-BitVec.toNat_and,-BitVec.toNat_or,-BitVec.toNat_xor,-gt_iff_lt,-ge_iff_le]<;>rfl⟩
theorem Aeb{op:BinOp}{m n:ByteArray}{t:TypeId}{x y:Operand}{K:PV->Option R}(hk:IK op m n K=some r):
  ∃v,K (.sc v)=some r/\(do eqGuard op t x y (.string m) (.string n);binOp op t (.string m) (.string n)).run P w=.ok v w:=by
 cases op<;>first
  |cases hk
  |(obtain⟨hb,hk⟩:=Aq hk;have hb:=of_decide_eq_true hb;exact⟨_,hk,by
    have Jf:¬(((m.size+n.size:Nat):Int)>IntKind.i64.max):=by
     have:IntKind.i64.max=9223372036854775807:=rfl;rw[this];omega
    simp only[eqGuard,binOp,Op.stringOp,Bg Jf];rfl⟩)
  |exact⟨_,hk,by simp only[eqGuard,binOp,Op.stringOp,ByteArray.toList_eq];rfl⟩
end
open Go.RowKit
section
variable {R:Type}{r:R}{P:Program}{N:Nat}{w0:World}{X0:Jb}{Y:Nat->Prop}{β β':Bt}{s:St}{a:Act}{w w':World}{o:Oper}{A:Nat->Prop}
theorem GL{t:TypeId}(hu:P.underlying t=some .bool)(x y:Bool):(Op.equal t (.bool x) (.bool y)).run P w=.ok (x==y) w:=by
 have h:∀d,(Op.equalIn (d+1) t (.bool x) (.bool y)).run P w=.ok (x==y) w:=fun d=>by simp[Op.equalIn,run_underlying hu]
 exact h 9999
theorem Wa{t e:TypeId}(hu:P.underlying t=some (.slice e))(x:Option Addr)(n c:Nat):(Op.equal t (.slice x n c) (.slice none 0 0)).run P w=.ok x.isNone w:=by
 have h:∀d,(Op.equalIn (d+1) t (.slice x n c) (.slice none 0 0)).run P w=.ok x.isNone w:=fun d=>by
  cases x<;>simp[Op.equalIn,run_underlying hu]
 exact h 9999
theorem AL{t k e:TypeId}(hu:P.underlying t=some (.map k e)):(Op.equal t (.map none) (.map none)).run P w=.ok true w:=by
 have h:∀d,(Op.equalIn (d+1) t (.map none) (.map none)).run P w=.ok true w:=fun d=>by
  simp[Op.equalIn,run_underlying hu]
 exact h 9999
theorem J0{t:TypeId}(d:Nat){v u:Value}(hv:(∃k m n,P.underlying t=some (.int k)/\v=.int k m/\u=.int k n)\/(∃m n,P.underlying t=some .bool/\v=.bool m/\u=.bool n)\/∃m n,P.underlying t=some .string/\v=.string m/\u=.string n){b:Bool}(hb:∀k m n,v=.int k m->u=.int k n->b=(m==n))(Jf:∀m n,v=.bool m->u=.bool n->b=(m==n))(A5v:∀m n,v=.string m->u=.string n->b=(m==n)):(Op.equalIn (d+1) t v u).run P w=.ok b w:=by
 rcases hv with⟨k,m,n,hu,rfl,rfl⟩|⟨m,n,hu,rfl,rfl⟩|⟨m,n,hu,rfl,rfl⟩
 ·rw[hb k m n rfl rfl];simp[Op.equalIn,run_underlying hu]
 ·rw[Jf m n rfl rfl];simp[Op.equalIn,run_underlying hu]
 ·rw[A5v m n rfl rfl];simp[Op.equalIn,run_underlying hu]
theorem S2{t:TypeId}{dsc:TypeDesc}(hu:P.underlying t=some dsc)(hd:Cp P t=false){xs:Array Value}{i:Nat}{v:Value}(hv:xs[i]?=some v):(part t xs i).run P w=.ok v w:=by simp only[part,Sem.run_bind,Od hu,hd,Result.andThen_ok];simp[hv]
theorem LL(k:IntKind)(n:Int)(K:Int->Option R):Eh k (.sc (.int k n)) K=K n:=by simp[Eh]
theorem SR(d : Nat): ∀ (fs : List Field) (i : Nat) (xs ys : Array Value) (ps qs : Al) (K : Bool -> Option R), SA P fs i = true -> Mi (fs.map (fty P)) ps qs K = some r ->
    (∀ (j : Nat) p, ps[j]? = some p -> ∃ v, xs[i + j]? = some v /\ Cn w A β p v) -> (∀ (j : Nat) p, qs[j]? = some p -> ∃ v, ys[i + j]? = some v /\ Cn w A β p v) ->
    ∃ b, K b = some r /\ (forIn fs ((none, ()) : Option Bool × Unit) fun (f : Field) (_ : Option Bool × Unit) =>
            if f.name = "_" then pure (ForInStep.yield ((none, ()) : Option Bool × Unit))
            else do
              let x <- part f.type xs f.offset
              let y <- part f.type ys f.offset
              let e <- Op.equalIn (d + 1) f.type x y
              if e = false then pure (ForInStep.done ((some false, ()) : Option Bool × Unit)) else pure (ForInStep.yield ((none, ()) : Option Bool × Unit)) : Sem (Option Bool × Unit)).run P w = .ok (if b then (none, ()) else (some false, ())) w
  | [], i, xs, ys, ps, qs, K, _, hk, _, _ => by
    cases ps with
    | nil => cases qs with
      | nil => exact⟨true, hk, by simp⟩
      | cons q qs => cases hk
    | cons p ps => cases hk
  | f :: fs, i, xs, ys, ps, qs, K, Xf, hk, hp, hq => by
    simp only[SA, Fb] at Xf
    obtain⟨⟨⟨Q3, Ajd⟩, hty⟩, Xi⟩ := Xf
    have Q3 := D9 Q3
    have IB : f.name ≠ "_" := by simpa using Ajd
    cases ps with
    | nil =>
      simp only[Xy] at hk
      cases As1 : fty P f <;> rw[As1] at hk <;> cases hk
    | cons p ps =>
      cases qs with
      | nil =>
        simp only[Xy] at hk
        cases As1 : fty P f <;> rw[As1] at hk <;> cases hk
      | cons q qs =>
        obtain⟨v, hv, CI⟩ := hp 0 p rfl
        obtain⟨u, hu, hqu⟩ := hq 0 q rfl
        rw[KT] at hv hu
        have main : ∃ b0 dsc, P.underlying f.type = some dsc /\ Cp P f.type = false /\ (Op.equalIn (d + 1) f.type v u).run P w = .ok b0 w /\ Mi (fs.map (fty P)) ps qs (fun r => K (b0 && r)) = some r := by
          simp only[Xy] at hk
          unfold fty at hk
          split at hk
          · rename_i k K8
            obtain⟨m, MV, E6⟩ := Fm (show Eh k p _ = some r from hk)
            obtain⟨n, KG, F3⟩ := Fm E6
            subst MV KG
            have Qo : v = .int k m := A3.val (w := w) (A := A) CI
            have Kj : u = .int k n := A3.val (w := w) (A := A) hqu
            subst Qo Kj
            refine⟨m == n, _, K8, by simp[Cp, K8], J0 d (.inl ⟨k, m, n, K8, rfl, rfl⟩) ?_ ?_ ?_, F3⟩
            · intro k' m' n' h1 h2; injection h1 with _ h1; injection h2 with _ h2; rw[h1, h2]
            · intro m' n' h1; cases h1
            · intro m' n' h1; cases h1
          · rename_i K8
            obtain⟨m, MV, E6⟩ := En (show Cb p _ = some r from hk)
            obtain⟨n, KG, F3⟩ := En E6
            subst MV KG
            have Qo : v = .bool m := A3.val (w := w) (A := A) CI
            have Kj : u = .bool n := A3.val (w := w) (A := A) hqu
            subst Qo Kj
            refine⟨m == n, _, K8, by simp[Cp, K8], J0 d (.inr (.inl ⟨m, n, K8, rfl, rfl⟩)) ?_ ?_ ?_, F3⟩
            · intro k' m' n' h1; cases h1
            · intro m' n' h1 h2; injection h1 with h1; injection h2 with h2; rw[h1, h2]
            · intro m' n' h1; cases h1
          · rename_i K8
            obtain⟨m, MV, E6⟩ := Eg (show Ai p _ = some r from hk)
            obtain⟨n, KG, F3⟩ := Eg E6
            subst MV KG
            have Qo : v = .string m := A3.val (w := w) (A := A) CI
            have Kj : u = .string n := A3.val (w := w) (A := A) hqu
            subst Qo Kj
            refine⟨m == n, _, K8, by simp[Cp, K8], J0 d (.inr (.inr ⟨m, n, K8, rfl, rfl⟩)) ?_ ?_ ?_, F3⟩
            · intro k' m' n' h1; cases h1
            · intro m' n' h1; cases h1
            · intro m' n' h1 h2; injection h1 with h1; injection h2 with h2; rw[h1, h2]
          · cases hk
        obtain⟨b0, dsc, K8, G4, he, hk⟩ := main
        obtain⟨b, hkb, Dh⟩ := SR d fs (i + 1) xs ys ps qs _ Xi hk (fun j p' hj => by have := hp (j + 1) p' hj; rwa [Mu, Nat.add_comm 1 j]) (fun j p' hj => by have := hq (j + 1) p' hj; rwa [Mu, Nat.add_comm 1 j])
        refine⟨b0 && b, hkb, ?_⟩
        have hpx : (part f.type xs f.offset).run P w = .ok v w := S2 K8 G4 (by rw[Q3]; exact hv)
        have hpy : (part f.type ys f.offset).run P w = .ok u w := S2 K8 G4 (by rw[Q3]; exact hu)
        cases b0
        · simp[List.forIn_cons, IB, hpx, hpy, he]
        · simp only[QD]
          rw[<- Dh]
          simp[List.forIn_cons, IB, hpx, hpy, he]
theorem ES(d:Nat){t:TypeId}{fs:Array Field}(hu:P.underlying t=some (.struct fs))(Hf:P.stoodInHeld t=false)(Xf:SA P fs.toList 0=true){xs ys:Al}{vx vy:List Value}(hvx:Bo (Cn w A β) xs vx)(hvy:Bo (Cn w A β) ys vy){K:Bool->Option R}(hk:Mi (fs.toList.map (fty P)) xs ys K=some r):
  ∃b,K b=some r/\(Op.equalIn (d+2) t (.agg ⟨vx⟩) (.agg ⟨vy⟩)).run P w=.ok b w:=by
 obtain⟨b,hkb,Dh⟩:=SR (P:=P) (w:=w) (A:=A) (β:=β) d fs.toList 0 ⟨vx⟩ ⟨vy⟩ xs ys K Xf hk (fun j p hj=>by
   obtain⟨v,hv,hc⟩:=hvx.get hj;exact⟨v,by simpa using hv,hc⟩) (fun j p hj=>by
   obtain⟨v,hv,hc⟩:=hvy.get hj;exact⟨v,by simpa using hv,hc⟩)
 refine⟨b,hkb,?_⟩;rw[Array.forIn_toList] at Dh;rw[Op.equalIn];simp[run_underlying hu,Hf];rw[Dh];cases b<;>simp
theorem AA:∀(ts1:List CT){ts2:List CT}{ps qs:Al}{K:Bool->Option R},Mi (ts1++ts2) ps qs K=some r ->
  Mi ts1 (ps.take ts1.length) (qs.take ts1.length) (fun b=>Mi ts2 (ps.drop ts1.length) (qs.drop ts1.length) fun r'=>K (b&&r'))=some r
 |[],ts2,ps,qs,K,h=>by
  simp only[Zzh,List.take_zero,SL,Mi,QD];exact h
 |t::ts1,ts2,ps,qs,K,h=>by
  rw[WM] at h;cases ps with
  |nil=>cases t<;>cases h
  |cons p ps=>
   cases qs with
   |nil=>cases t<;>cases h
   |cons q qs=>
    simp only[Ub,List.take_succ_cons,List.drop_succ_cons];cases t with
    |int k=>
     obtain⟨m,MV,h1⟩:=Fm (show Eh k p _=some r from h);obtain⟨n,KG,h2⟩:=Fm h1;subst MV KG;have:=AA ts1 h2;simp only[<-Bool.and_assoc] at this;exact (LL _ _ _).trans ((LL _ _ _).trans this)
    |bool=>
     obtain⟨m,MV,h1⟩:=En (show Cb p _=some r from h);obtain⟨n,KG,h2⟩:=En h1;subst MV KG;have:=AA ts1 h2;simp only[<-Bool.and_assoc] at this;exact this
    |str=>
     obtain⟨m,MV,h1⟩:=Eg (show Ai p _=some r from h);obtain⟨n,KG,h2⟩:=Eg h1;subst MV KG;have:=AA ts1 h2;simp only[<-Bool.and_assoc] at this;exact this
    |sl es=>cases h
    |any=>cases h
theorem TF:∀(ts:List CT){ps qs:Al}{K:Bool->Option R},Mi ts ps qs K=some r->ps.length=ts.length/\qs.length=ts.length
 |[],ps,qs,K,h=>by
  cases ps with
  |nil=>cases qs with
   |nil=>exact⟨rfl,rfl⟩
   |cons q qs=>cases h
  |cons p ps=>cases h
 |t::ts,ps,qs,K,h=>by
  cases ps with
  |nil=>cases t<;>cases h
  |cons p ps=>
   cases qs with
   |nil=>cases t<;>cases h
   |cons q qs=>
    have go:∃K',Mi ts ps qs K'=some r:=by
     cases t with
     |int k=>
      obtain⟨m,MV,h1⟩:=Fm (show Eh k p _=some r from h);obtain⟨n,KG,h2⟩:=Fm h1;exact⟨_,h2⟩
     |bool=>
      obtain⟨m,MV,h1⟩:=En (show Cb p _=some r from h);obtain⟨n,KG,h2⟩:=En h1;exact⟨_,h2⟩
     |str=>
      obtain⟨m,MV,h1⟩:=Eg (show Ai p _=some r from h);obtain⟨n,KG,h2⟩:=Eg h1;exact⟨_,h2⟩
     |sl es=>cases h
     |any=>cases h
    obtain⟨K',h'⟩:=go;have:=TF ts h';exact⟨by simp[this.1],by simp[this.2]⟩
theorem SZ{t:TypeId}{dsc:TypeDesc}(hu:P.underlying t=some dsc)(hd:Cp P t=true)(hi:(P.info? t).isSome=true)(xs:Array Value)(i:Nat):(part t xs i).run P w=.ok (.agg (xs.extract i (i+Bj P t))) w:=by simp only[part,Sem.run_bind,Od hu,hd,Result.andThen_ok,if_true,Dm hi];rfl
theorem MQ{xs:Array Value}{i n:Nat}{ps:Al}(hn:n<=ps.length)(hp:∀(j:Nat) p,ps[j]?=some p->∃v,xs[i+j]?=some v/\Cn w A β p v):Bo (Cn w A β) (ps.take n) (xs.extract i (i+n)).toList:=by
 rcases Nat.eq_zero_or_pos n with h0|h0
 ·subst h0;simp[Bo]
 have hl:n-1<ps.length:=by omega
 obtain⟨v,hv,_⟩:=hp (n-1) _ (List.getElem?_eq_getElem hl);have Oa:=(Array.getElem?_eq_some_iff.1 hv).1;refine Bo.of_at (by simp;omega) fun j a b ha hb=>?_
 rw[List.getElem?_take] at ha;split at ha
 ·rename_i hj;obtain⟨v,hv,hc⟩:=hp j a ha;rw[Array.getElem?_toList,Array.getElem?_extract] at hb;split at hb
  ·rw[hv] at hb;cases hb;exact hc
  ·cases hb
 ·cases ha
theorem EA{f:Field}{gs:Array Field}(hu:P.underlying f.type=some (.struct gs)):UG P f=gs.toList.map (fty P):=by unfold UG;rw[hu]
theorem WS{f:Field}(h:∀gs,P.underlying f.type≠some (.struct gs)):UG P f=[fty P f]:=by
 unfold UG;split
 ·rename_i gs hu;exact absurd hu (h gs)
 ·rfl
theorem Abp(d : Nat): ∀ (fs : List Field) (i : Nat) (xs ys : Array Value) (ps qs : Al) (K : Bool -> Option R), O6 P fs i = true -> Mi (Xq P fs) ps qs K = some r ->
    (∀ (j : Nat) p, ps[j]? = some p -> ∃ v, xs[i + j]? = some v /\ Cn w A β p v) -> (∀ (j : Nat) p, qs[j]? = some p -> ∃ v, ys[i + j]? = some v /\ Cn w A β p v) ->
    ∃ b, K b = some r /\ (forIn fs ((none, ()) : Option Bool × Unit) fun (f : Field) (_ : Option Bool × Unit) =>
            if f.name = "_" then pure (ForInStep.yield ((none, ()) : Option Bool × Unit))
            else do
              let x <- part f.type xs f.offset
              let y <- part f.type ys f.offset
              let e <- Op.equalIn (d + 2) f.type x y
              if e = false then pure (ForInStep.done ((some false, ()) : Option Bool × Unit)) else pure (ForInStep.yield ((none, ()) : Option Bool × Unit)) : Sem (Option Bool × Unit)).run P w = .ok (if b then (none, ()) else (some false, ())) w
  | [], i, xs, ys, ps, qs, K, _, hk, _, _ => by
    cases ps with
    | nil => cases qs with
      | nil => exact⟨true, hk, by simp⟩
      | cons q qs => cases hk
    | cons p ps => cases hk
  | f :: fs, i, xs, ys, ps, qs, K, Xf, hk, hp, hq => by
    simp only[O6, Fb] at Xf
    obtain⟨⟨Q3, Ajd⟩, hty⟩ := Xf
    have Q3 := D9 Q3
    have IB : f.name ≠ "_" := by simpa using Ajd
    have main : ∃ b0 v u n, (part f.type xs f.offset).run P w = .ok v w /\ (part f.type ys f.offset).run P w = .ok u w /\ (Op.equalIn (d + 2) f.type v u).run P w = .ok b0 w /\ O6 P fs (i + n) = true /\ Mi (Xq P fs) (ps.drop n) (qs.drop n) (fun r' => K (b0 && r')) = some r := by
      have hk := AA (UG P f) (show Mi (UG P f ++ Xq P fs) ps qs K = some r from hk)
      have Do := TF _ hk
      rw[List.length_take, List.length_take] at Do
      have plain : (∀ gs, P.underlying f.type ≠ some (.struct gs)) -> O6 P fs (i + 1) = true -> (match P.underlying f.type with | some (.int _) => true | some .bool => true | some .string => true | _ => false) = true ->
          ∃ b0 v u n, (part f.type xs f.offset).run P w = .ok v w /\ (part f.type ys f.offset).run P w = .ok u w /\ (Op.equalIn (d + 2) f.type v u).run P w = .ok b0 w /\ O6 P fs (i + n) = true /\ Mi (Xq P fs) (ps.drop n) (qs.drop n) (fun r' => K (b0 && r')) = some r := by
        intro hs Aqb Sl
        rw[WS hs] at hk Do
        simp only[List.length_singleton] at hk Do
        obtain⟨p, ps, rfl⟩ : ∃ p ps', ps = p :: ps' := by
          cases ps with
          | nil => simp at Do
          | cons p ps => exact⟨p, ps, rfl⟩
        obtain⟨q, qs, rfl⟩ : ∃ q qs', qs = q :: qs' := by
          cases qs with
          | nil => simp at Do
          | cons q qs => exact⟨q, qs, rfl⟩
        obtain⟨v, hv, CI⟩ := hp 0 p rfl
        obtain⟨u, hu, hqu⟩ := hq 0 q rfl
        rw[KT] at hv hu
        simp only[List.take_succ_cons, List.take_zero, List.drop_succ_cons, SL] at hk ⊢
        have one : ∃ b0 dsc, P.underlying f.type = some dsc /\ Cp P f.type = false /\ (Op.equalIn (d + 2) f.type v u).run P w = .ok b0 w /\ Mi (Xq P fs) ps qs (fun r' => K (b0 && r')) = some r := by
          unfold fty at hk
          split at hk
          · rename_i k K8
            obtain⟨m, MV, E6⟩ := Fm (show Eh k p _ = some r from hk)
            obtain⟨n, KG, F3⟩ := Fm E6
            subst MV KG
            have Qo : v = .int k m := A3.val (w := w) (A := A) CI
            have Kj : u = .int k n := A3.val (w := w) (A := A) hqu
            subst Qo Kj
            have e : ∀ b : Bool, (b && true) = b := Zzn
            simp only[Mi, e] at F3
            refine⟨m == n, _, K8, by simp[Cp, K8], J0 (d + 1) (.inl ⟨k, m, n, K8, rfl, rfl⟩) ?_ ?_ ?_, F3⟩
            · intro k' m' n' h1 h2; injection h1 with _ h1; injection h2 with _ h2; rw[h1, h2]
            · intro m' n' h1; cases h1
            · intro m' n' h1; cases h1
          · rename_i K8
            obtain⟨m, MV, E6⟩ := En (show Cb p _ = some r from hk)
            obtain⟨n, KG, F3⟩ := En E6
            subst MV KG
            have Qo : v = .bool m := A3.val (w := w) (A := A) CI
            have Kj : u = .bool n := A3.val (w := w) (A := A) hqu
            subst Qo Kj
            have e : ∀ b : Bool, (b && true) = b := Zzn
            simp only[Mi, e] at F3
            refine⟨m == n, _, K8, by simp[Cp, K8], J0 (d + 1) (.inr (.inl ⟨m, n, K8, rfl, rfl⟩)) ?_ ?_ ?_, F3⟩
            · intro k' m' n' h1; cases h1
            · intro m' n' h1 h2; injection h1 with h1; injection h2 with h2; rw[h1, h2]
            · intro m' n' h1; cases h1
          · rename_i K8
            obtain⟨m, MV, E6⟩ := Eg (show Ai p _ = some r from hk)
            obtain⟨n, KG, F3⟩ := Eg E6
            subst MV KG
            have Qo : v = .string m := A3.val (w := w) (A := A) CI
            have Kj : u = .string n := A3.val (w := w) (A := A) hqu
            subst Qo Kj
            have e : ∀ b : Bool, (b && true) = b := Zzn
            simp only[Mi, e] at F3
            refine⟨m == n, _, K8, by simp[Cp, K8], J0 (d + 1) (.inr (.inr ⟨m, n, K8, rfl, rfl⟩)) ?_ ?_ ?_, F3⟩
            · intro k' m' n' h1; cases h1
            · intro m' n' h1; cases h1
            · intro m' n' h1 h2; injection h1 with h1; injection h2 with h2; rw[h1, h2]
          · cases hk
        obtain⟨b0, dsc, K8, G4, he, hk⟩ := one
        exact⟨b0, v, u, 1, S2 K8 G4 (by rw[Q3]; exact hv), S2 K8 G4 (by rw[Q3]; exact hu), he, Aqb, by simpa using hk⟩
      split at hty
      · rename_i k K8
        exact plain (fun gs e => by rw[K8] at e; cases e) hty (by rw[K8])
      · rename_i K8
        exact plain (fun gs e => by rw[K8] at e; cases e) hty (by rw[K8])
      · rename_i K8
        exact plain (fun gs e => by rw[K8] at e; cases e) hty (by rw[K8])
      · rename_i gs K8
        simp only[Fb, Bool.not_eq_true'] at hty
        obtain⟨⟨⟨⟨hfp, Hf⟩, hi⟩, Oa⟩, Xi⟩ := hty
        have Oa := D9 Oa
        have Mz : (UG P f).length = gs.size := by rw[EA K8, List.length_map, Array.length_toList]
        rw[Mz] at hk Do
        rw[EA K8] at hk
        have hx := MQ (n := gs.size) (by omega) hp
        have hy := MQ (n := gs.size) (by omega) hq
        obtain⟨b0, hkb, he⟩ := ES d K8 Hf hfp hx hy hk
        have ha : Cp P f.type = true := by simp[Cp, K8]
        exact⟨b0, _, _, gs.size, by rw[SZ K8 ha hi, Q3, Oa], by rw[SZ K8 ha hi, Q3, Oa], he, Xi, hkb⟩
      · cases hty
    obtain⟨b0, v, u, n, hpx, hpy, he, Aqb, hk⟩ := main
    obtain⟨b, hkb, Dh⟩ := Abp d fs (i + n) xs ys (ps.drop n) (qs.drop n) _ Aqb hk (fun j p' hj => by rw[List.getElem?_drop] at hj; have := hp (n + j) p' hj; rwa [<- Mu] at this) (fun j p' hj => by rw[List.getElem?_drop] at hj; have := hq (n + j) p' hj; rwa [<- Mu] at this)
    refine⟨b0 && b, hkb, ?_⟩
    cases b0
    · simp[List.forIn_cons, IB, hpx, hpy, he]
    · simp only[QD]
      rw[<- Dh]
      simp[List.forIn_cons, IB, hpx, hpy, he]
theorem HK(d:Nat){t:TypeId}{fs:Array Field}(hu:P.underlying t=some (.struct fs))(Hf:P.stoodInHeld t=false)(Xf:O6 P fs.toList 0=true){xs ys:Al}{vx vy:List Value}(hvx:Bo (Cn w A β) xs vx)(hvy:Bo (Cn w A β) ys vy){K:Bool->Option R}(hk:Mi (Xq P fs.toList) xs ys K=some r):
  ∃b,K b=some r/\(Op.equalIn (d+3) t (.agg ⟨vx⟩) (.agg ⟨vy⟩)).run P w=.ok b w:=by
 obtain⟨b,hkb,Dh⟩:=Abp (P:=P) (w:=w) (A:=A) (β:=β) d fs.toList 0 ⟨vx⟩ ⟨vy⟩ xs ys K Xf hk (fun j p hj=>by
   obtain⟨v,hv,hc⟩:=hvx.get hj;exact⟨v,by simpa using hv,hc⟩) (fun j p hj=>by
   obtain⟨v,hv,hc⟩:=hvy.get hj;exact⟨v,by simpa using hv,hc⟩)
 refine⟨b,hkb,?_⟩;rw[Array.forIn_toList] at Dh;rw[Op.equalIn];simp[run_underlying hu,Hf];rw[Dh];cases b<;>simp
theorem MN(h:Dl N w0 X0 Y β s a w){t:TypeId}{fs:Array Field}{x y:Operand}{op:BinOp}(hop:op=.eql\/op=.neq)(hu:P.underlying t=some (.struct fs))(Xf:PY P t fs=true){xs ys:Al}(hx:Cm s.tm x=.agg xs)(hy:Cm s.tm y=.agg ys){K:Bool->Option R}(hk:Mi (Xq P fs.toList) xs ys K=some r):
  ∃b,K b=some r/\(do eqGuard op t x y (a.eval x) (a.eval y);binOp op t (a.eval x) (a.eval y)).run P w=.ok (.bool (if op=.eql then b else !b)) w:=by
 have hxv:=Dt h x;have hyv:=Dt h y;rw[hx] at hxv;rw[hy] at hyv;obtain⟨vx,D7,hvx⟩:=hxv;obtain⟨vy,hay,hvy⟩:=hyv;simp only[PY,Fb,Bool.not_eq_true'] at Xf;obtain⟨⟨Xf,Hf⟩,heg⟩:=Xf;obtain⟨b,hkb,heq⟩:=HK 9997 hu Hf Xf hvx hvy hk;have heq:(Op.equal t (.agg ⟨vx⟩) (.agg ⟨vy⟩)).run P w=.ok b w:=heq;refine⟨b,hkb,?_⟩;rw[D7,hay];rcases hop with rfl|rfl
 ·simp[eqGuard,binOp,heq,heg]
 ·simp[eqGuard,binOp,heq,heg]
theorem VV(h:Dl N w0 X0 Y β s a w){op:BinOp}{t ty:TypeId}{x y:Operand}(ho:o.op=.binOp op t x y ty){K:PV->Option R}(hk:Wi P op t (Cm s.tm x) (Cm s.tm y) K=some r):∃v,K v=some r/\Ff P a w o Y β s v [] []:=by
 have Dh:∀v,(do eqGuard op t x y (a.eval x) (a.eval y);binOp op t (a.eval x) (a.eval y)).run P w=.ok v w->(execOp a.eval o).run P w=.ok (.value v) w:=by
  intro v hv;unfold execOp;rw[ho];simp only[Sem.run_bind] at hv ⊢;rw[hv];rfl
 unfold Wi at hk;split at hk
 ·rename_i fs hu;split at hk
  ·obtain⟨Xf,hk⟩:=Aq hk;obtain⟨xs,hx,hk⟩:=Iv hk;obtain⟨ys,hy,hk⟩:=Iv hk;obtain⟨b,hk,hr⟩:=MN h (.inl rfl) hu Xf hx hy hk;exact⟨_,hk,Db (Dh _ (by rw[hr];rfl))⟩
  ·obtain⟨Xf,hk⟩:=Aq hk;obtain⟨xs,hx,hk⟩:=Iv hk;obtain⟨ys,hy,hk⟩:=Iv hk;obtain⟨b,hk,hr⟩:=MN h (.inr rfl) hu Xf hx hy hk;exact⟨_,hk,Db (Dh _ (by rw[hr];rfl))⟩
  ·cases hk
 ·unfold Ajy at hk;split at hk
  ·rename_i k hu;split at hk
   ·obtain⟨m,hx,hk⟩:=Fm hk;obtain⟨k2,n,hy,hk⟩:=Ef hk;obtain⟨hb,hk⟩:=Aq hk;have hb:=of_decide_eq_true hb;refine⟨_,hk,Db (Dh _ ?_)⟩;have:¬n<0:=by omega
    simp[eqGuard,binOp,Op.shift,Cv h hx,Cv h hy,this]
   ·obtain⟨m,hx,hk⟩:=Fm hk;obtain⟨k2,n,hy,hk⟩:=Ef hk;obtain⟨hb,hk⟩:=Aq hk;have hb:=of_decide_eq_true hb;refine⟨_,hk,Db (Dh _ ?_)⟩;have:¬n<0:=by omega
    simp[eqGuard,binOp,Op.shift,Cv h hx,Cv h hy,this]
   ·rename_i hs1 FI;obtain⟨m,hx,hk⟩:=Fm hk;obtain⟨n,hy,hk⟩:=Fm hk;obtain⟨v,hk,hr⟩:=Acg (P:=P) (w:=w) (t:=t) (x:=x) (y:=y) hs1 FI hk;exact⟨_,hk,Db (Dh _ (by rw[Cv h hx,Cv h hy];exact hr))⟩
  ·rename_i hu;obtain⟨m,hx,hk⟩:=Eg hk;obtain⟨n,hy,hk⟩:=Eg hk;obtain⟨v,hk,hr⟩:=Aeb (P:=P) (w:=w) (t:=t) (x:=x) (y:=y) hk;exact⟨_,hk,Db (Dh _ (by rw[Cv h hx,Cv h hy];exact hr))⟩
  ·rename_i hu;split at hk
   ·obtain⟨m,hx,hk⟩:=En hk;obtain⟨n,hy,hk⟩:=En hk;refine⟨_,hk,Db (Dh _ ?_)⟩;simp[eqGuard,binOp,Cv h hx,Cv h hy,GL hu]
   ·obtain⟨m,hx,hk⟩:=En hk;obtain⟨n,hy,hk⟩:=En hk;refine⟨_,hk,Db (Dh _ ?_)⟩;simp[eqGuard,binOp,Cv h hx,Cv h hy,GL hu]
   ·cases hk
  ·rename_i e hu;have hx:=Dt h x
   have nilQ:∀{e:Bool} {K':PV->Option R},GN e (Cm s.tm x) K'=some r->∃q ad n c,K' q=some r/\a.eval x=.slice ad n c/\(q=.sc (.bool (if ad.isNone then e else !e))\/q=.ub):=by
    intro e K' hq;unfold GN at hq;split at hq
    ·rename_i e';exact⟨_,none,0,0,hq,Cv h e',.inl rfl⟩
    ·rename_i z es n c e';rcases Hp (.inl e') hx with⟨D7,rfl,_⟩|⟨ad,cap,D7,rfl,_⟩|⟨ad,cap,D7,rfl,rfl,_⟩
     ·rcases N3 hq with⟨_,hq⟩|⟨_,hq⟩
      ·exact⟨_,none,0,0,hq,D7,.inl rfl⟩
      ·rcases N3 hq with⟨hb,_⟩|⟨_,hq⟩
       ·exact absurd (of_decide_eq_true hb) (by omega)
       ·exact⟨_,none,0,0,hq,D7,.inr rfl⟩
     ·rcases N3 hq with⟨hz,_⟩|⟨_,hq⟩
      ·cases hz
      ·rcases N3 hq with⟨_,hq⟩|⟨_,hq⟩
       ·exact⟨_,some ad,n,cap,hq,D7,.inl rfl⟩
       ·exact⟨_,some ad,n,cap,hq,D7,.inr rfl⟩
     ·rcases N3 hq with⟨hz,_⟩|⟨_,hq⟩
      ·cases hz
      ·rcases N3 hq with⟨hb,_⟩|⟨_,hq⟩
       ·exact absurd (of_decide_eq_true hb) (by omega)
       ·exact⟨_,some ad,0,cap,hq,D7,.inr rfl⟩
    ·rename_i id es off n e';rw[e'] at hx;rcases hx with⟨_,_,rfl,ad,D7⟩|⟨b,ob,y',cap,_,D7,_⟩
     ·rcases N3 hq with⟨hb,_⟩|⟨_,hq⟩
      ·exact absurd (of_decide_eq_true hb) (by omega)
      ·exact⟨_,ad,0,0,hq,D7,.inr rfl⟩
     ·rcases N3 hq with⟨_,hq⟩|⟨_,hq⟩
      ·exact⟨_,_,n,cap,hq,D7,.inl rfl⟩
      ·exact⟨_,_,n,cap,hq,D7,.inr rfl⟩
    ·cases hq
   split at hk
   ·rename_i hy;obtain⟨q,ad,n,c,hk,D7,hb⟩:=nilQ hk;rcases hb with rfl|rfl
    ·refine⟨_,hk,Db (Dh _ ?_)⟩;cases ad<;>simp[eqGuard,binOp,D7,Cv h hy,Wa hu]
    ·refine⟨_,hk,Cr (val:=.bool ad.isNone) (Dh _ ?_) (A3.ub _) (by intro i hi;cases hi)⟩
     simp[eqGuard,binOp,D7,Cv h hy,Wa hu]
   ·rename_i hy;obtain⟨q,ad,n,c,hk,D7,hb⟩:=nilQ hk;rcases hb with rfl|rfl
    ·refine⟨_,hk,Db (Dh _ ?_)⟩;cases ad<;>simp[eqGuard,binOp,D7,Cv h hy,Wa hu]
    ·refine⟨_,hk,Cr (val:=.bool !ad.isNone) (Dh _ ?_) (A3.ub _) (by intro i hi;cases hi)⟩
     simp[eqGuard,binOp,D7,Cv h hy,Wa hu]
   ·cases hk
  ·rename_i kt vt hu;split at hk
   ·rename_i hx hy;refine⟨_,hk,Db (Dh _ ?_)⟩;simp[eqGuard,binOp,Cv h hx,Cv h hy,AL hu]
   ·rename_i hx hy;refine⟨_,hk,Db (Dh _ ?_)⟩;simp[eqGuard,binOp,Cv h hx,Cv h hy,AL hu]
   ·cases hk
  ·cases hk
end
open Go.RowKit
section
variable {R:Type}{r:R}{P:Program}{N:Nat}{w0:World}{X0:Jb}{Y:Nat->Prop}{β β':Bt}{s:St}{a:Act}{w w':World}{o:Oper}{A:Nat->Prop}
theorem EC:∀{c:Al}{ns:Am},V1 c=some ns->c=ns.map (fun n=>.sc (.int .i32 n))
 |[],ns,h=>by simp[V1] at h;subst h;rfl
 |p::c,ns,h=>by
  unfold V1 at h;split at h
  ·rename_i e;cases e
  ·rename_i n r e;cases e;cases hr:V1 c with
   |none=>rw[hr] at h;cases h
   |some l'=>
    rw[hr] at h;simp at h;subst h;rw[EC hr];rfl
  ·cases h
theorem ED:∀{c:Al}{l:List UInt8},Ly c=some l->∃ns:Am,c=ns.map (fun n=>.sc (.int .u8 n))/\l=ns.map fun n=>n.toNat.toUInt8
 |[],l,h=>⟨[],rfl,by simp[Ly] at h;subst h;rfl⟩
 |p::c,l,h=>by
  unfold Ly at h;split at h
  ·rename_i e;cases e
  ·rename_i n r e;cases e;cases hr:Ly c with
   |none=>rw[hr] at h;cases h
   |some l'=>
    rw[hr] at h;simp at h;obtain⟨ns,rfl,rfl⟩:=ED hr;exact⟨n::ns,rfl,h.symm⟩
  ·cases h
theorem Tn:∀(ns:Am)(b:ByteArray),ns.foldl (fun r n=>r.push (UInt8.ofNat n.toNat)) b=⟨b.data++(ns.map fun n=>n.toNat.toUInt8).toArray⟩
 |[],b=>by simp
 |n::ns,b=>by
  simp only[List.foldl_cons];rw[Tn ns];simp[ByteArray.push]
theorem JJ(h:Dl N w0 X0 Y β s a w){es:Nat}{x:Operand}{K:Nat->Al->Option R}(hk:RV (Kq s.hp) es (Cm s.tm x) K=some r):
  ∃n c,K n c=some r/\(((∃ad,a.eval x=.slice ad 0 0)/\n=0/\c=[])\/∃ad cap,a.eval x=.slice (some ad) n cap/\n<=cap/\(c=[]\/ad.block<w.heap.size)/\WD w (D2 s.hp β Y) ad c):=by
 have hx:=Dt h x;have KE:=Gb h x;unfold RV at hk;split at hk
 ·rename_i id es' off n e;rw[e] at hx KE;cases hb:Nat.beq es' es
  ·rw[hb] at hk;cases hk
  ·rw[hb] at hk;obtain⟨c,hc,hk⟩:=Cz (show Dk _ _=some r from hk);obtain⟨hl,hk⟩:=Aq hk;have hl:=of_decide_eq_true hl;obtain⟨f,Aby⟩:=PA hc;refine⟨_,_,hk,?_⟩;rcases hx with⟨_,rfl,rfl,ad,D7⟩|⟨b,ob,y,cap,hβ,D7,hy,hn,_,Cx⟩
   ·exact .inl ⟨⟨ad,D7⟩,rfl,by simp⟩
   ·refine .inr ⟨_,cap,D7,hn,.inr Cx,fun j p hj=>?_⟩
    have Acl:0<n*es:=by
     rcases Nat.eq_zero_or_pos (n*es) with h0|h0
     ·rw[h0] at hj;simp at hj
     ·exact h0
    have AR:n≠0:=by rintro rfl;simp at Acl
    have hy:y=ob+off:=by rcases hy with hy|⟨h0,_⟩<;>omega
    subst hy;rw[List.getElem?_take] at hj;split at hj
    ·rw[List.getElem?_drop] at hj;rcases h.box id _ Aby with⟨h1,_⟩|⟨b',o',h1,h2,_⟩
     ·rw[hβ] at h1;cases h1
     ·rw[hβ] at h1;simp at h1;obtain⟨rfl,rfl⟩:=h1
      obtain⟨v,hv,h3,ht⟩:=h2 (off+j) p hj;rw[Ft] at hv;exact⟨v,by rw[Ft,Mu];exact hv,h3,ht⟩
    ·cases hj
 ·obtain⟨z,n,c,hk,hp⟩:=Gq hk;refine⟨n,c,hk,?_⟩;rcases Hp hp hx with h1|⟨ad,cap,D7,_,hn,h1,h2,_,h4⟩|⟨ad,cap,D7,_,rfl,rfl⟩
  ·exact .inl ⟨⟨none,h1.1⟩,h1.2⟩
  ·exact .inr ⟨ad,cap,D7,hn,.inr h2,h4⟩
  ·exact .inr ⟨ad,cap,D7,Nat.zero_le _,.inl rfl,fun j c hj=>by simp at hj⟩
theorem Ado(b:ByteArray)(j:Nat)(p:PV)(h:(Ro b)[j]?=some p):∃x,b.data[j]?=some x/\p=.sc (.int .u8 x.toNat):=by
 unfold Ro at h;rw[List.getElem?_map] at h;cases hx:b.data.toList[j]? with
 |none=>rw[hx] at h;cases h
 |some x=>
  rw[hx] at h;simp at h;exact⟨x,by simpa using hx,h.symm⟩
theorem ZC(h:Dl N w0 X0 Y β s a w){src dst:TypeId}{x:Operand}(ho:o.op=.convert src dst x){d:Nat}{K:PV->List (Nat × Cd)->Option R}(hk:GU P (Kq s.hp) d src dst (Cm s.tm x) K=some r):∃v nw,K v nw=some r/\Ff P a w o Y β s v [] nw:=by
 have Dh:∀v w',(convert src dst (a.eval x)).run P w=.ok v w'->(execOp a.eval o).run P w=.ok (.value v) w':=by
  intro v w' hv;unfold execOp;rw[ho];simp[hv]
 unfold GU at hk;split at hk
 ·rename_i k hu;obtain⟨hs,hk⟩:=Aq hk;obtain⟨k',n,hx,hk⟩:=Ef hk;exact⟨_,_,hk,Db (Dh _ _ (by rw[Cv h hx];obtain⟨ds,hds⟩:=Option.isSome_iff_exists.1 hs;cases ds<;>simp[convert,run_underlying hds,run_underlying hu,Conv.intToInt]))⟩
 ·rename_i hu;split at hk
  ·rename_i hs;obtain⟨b,hx,hk⟩:=Eg hk;exact⟨_,_,hk,Db (Dh _ _ (by rw[Cv h hx];simp[convert,run_underlying hs,run_underlying hu]))⟩
  ·rename_i e hs;split at hk
   ·rename_i he;obtain⟨n,c,hk,hc⟩:=JJ h hk;obtain⟨hl,hk⟩:=Aq hk;have hl:=of_decide_eq_true hl;obtain⟨l,hb,hk⟩:=Cz hk;obtain⟨ns,rfl,rfl⟩:=ED hb;refine⟨_,_,hk,Db (Dh _ _ ?_)⟩;rcases hc with⟨⟨ad,D7⟩,rfl,hn⟩|⟨ad,cap,D7,_,_,hrd⟩
    ·have:ns=[]:=by simpa using hn
     subst this;rw[D7,run_convert_bytes_string w src dst e ad 0 0 hs he hu];cases ad<;>rfl
    ·rw[D7,run_convert_bytes_string w src dst e _ _ _ hs he hu]
     have hld:(loadCells ad n).run P w=.ok (ns.map (Value.int .u8)).toArray w:=by
      have:=run_loadCells_list (P:=P) w ad (ns.map (Value.int .u8)) (fun j v hj=>by
       rw[List.getElem?_map] at hj;cases hn:ns[j]? with
       |none=>rw[hn] at hj;cases hj
       |some m=>
        rw[hn] at hj;simp at hj;subst hj;obtain⟨v,hv,_,ht⟩:=hrd j (.sc (.int .u8 m)) (by rw[List.getElem?_map,hn];rfl)
        rw[ht.val] at hv;exact hv)
      simp only[List.length_map] at this hl;rw[hl] at this;exact this
     rw[run_bytesToString w ad n cap ns hld,Tn];simp
   ·rename_i he;obtain⟨n,c,hk,hc⟩:=JJ h hk;obtain⟨hl,hk⟩:=Aq hk;have hl:=of_decide_eq_true hl;obtain⟨ns,hb,F3⟩:=Cz hk;have EV:=EC hb;clear hk;subst EV;refine⟨_,_,F3,Db (Dh _ _ ?_)⟩;rcases hc with⟨⟨ad,D7⟩,AU,hn⟩|⟨ad,cap,D7,_,_,hrd⟩
    ·have:ns=[]:=by simpa using hn
     subst this;rw[D7,run_convert_runes_string w src dst e ad _ _ hs he hu];cases ad with
     |none=>rfl
     |some p=>
      have AR:n=0:=by simpa using AU
      subst AR;exact run_runesToString w p 0 0 [] (by simpa using run_loadCells_list (P:=P) w p [] (by simp))
    ·rw[D7,run_convert_runes_string w src dst e _ _ _ hs he hu]
     have hld:(loadCells ad n).run P w=.ok (ns.map (Value.int .i32)).toArray w:=by
      have:=run_loadCells_list (P:=P) w ad (ns.map (Value.int .i32)) (fun j v hj=>by
       rw[List.getElem?_map] at hj;cases hn:ns[j]? with
       |none=>rw[hn] at hj;cases hj
       |some m=>
        rw[hn] at hj;simp at hj;subst hj;obtain⟨v,hv,_,ht⟩:=hrd j (.sc (.int .i32 m)) (by rw[List.getElem?_map,hn];rfl)
        rw[ht.val] at hv;exact hv)
      simp only[List.length_map] at this hl;rw[hl] at this;exact this
     exact run_runesToString w ad n cap ns hld
   ·cases hk
  ·cases hk
 ·rename_i e hu;split at hk
  ·rename_i he hs;obtain⟨b,hx,hk⟩:=Eg hk;obtain⟨Oa,hk⟩:=Aq hk;have hr:=run_bytes_of_string (P:=P) w src dst e b hs hu he;rw[<-Cv h hx] at hr
   have Yf:b.size<=grownCap w b.size 0 e:=by
    unfold grownCap;simp[Question.cut]
   have TE:(bytesRow b (grownCap w b.size 0 e)).size=grownCap w b.size 0 e:=by
    simp only[bytesRow,Array.size_append,Array.size_map,Array.size_replicate];have:b.data.size=b.size:=rfl;omega
   refine⟨_,_,hk,R8 (c:=bytesRow b (grownCap w b.size 0 e)) (e:=e) (by simp) (Dh _ _ hr) ?_ (fun j p hj=>?_) (.inr ⟨1,b.size,grownCap w b.size 0 e,rfl,rfl,Yf,by rw[TE];omega,.inl rfl⟩)⟩
   ·exact⟨rfl,rfl,rfl,fun i hi=>Below.heap_alloc w.drew _ i hi,by show (w.heap.push _).size=_;simp,_,by show (w.heap.push _)[w.heap.size]?=_;simp;rfl,.inr (Cc _)⟩
   ·obtain⟨y,hy,rfl⟩:=Ado b j p hj;refine⟨.int .u8 y.toNat,?_,rfl,A3.sc _⟩
    have Cx:j<b.data.size:=by
     rcases Ht j b.data.size with h|h
     ·exact h
     ·rw[Array.getElem?_eq_none h] at hy;cases hy
    simp only[bytesRow];rw[Array.getElem?_append_left (by simpa using Cx),Array.getElem?_map,hy];rfl
  ·cases hk
 ·cases hk
end
open Go.RowKit
section
variable {R:Type}{r:R}{P:Program}{N:Nat}{w0:World}{X0:Jb}{Y:Nat->Prop}{β β':Bt}{s:St}{a:Act}{w w':World}{o:Oper}{A:Nat->Prop}
theorem Zs:∀{n:Nat}{l:Al}{j:Nat}{c:PV},(Sw n l)[j]?=some c->j<n*l.length/\l[j % l.length]?=some c
 |0,l,j,c,h=>by simp[Sw] at h
 |n+1,l,j,c,h=>by
  have e:Sw (n+1) l=l++Sw n l:=by simp[Sw,List.replicate_succ]
  rw[e] at h;by_cases hj:j<l.length
  ·rw[List.getElem?_append_left hj] at h;refine⟨by rw[Nat.add_mul];omega,?_⟩
   rw[Nat.mod_eq_of_lt hj];exact h
  ·rw[List.getElem?_append_right (by omega)] at h;obtain⟨h1,h2⟩:=Zs h;refine⟨by rw[Nat.add_mul];omega,?_⟩
   rw[Nat.mod_eq_sub_mod (by omega)];exact h2
theorem TP(n:Nat)(l:Al):(Sw n l).length=n*l.length:=by
 induction n with
 |zero=>simp[Sw]
 |succ n ih=>
  have e:Sw (n+1) l=l++Sw n l:=by simp[Sw,List.replicate_succ]
  rw[e,LG,ih,Nat.add_mul];omega
theorem UX{z:Array Value}{n j:Nat}(hj:j<n){v:Value}(hv:z[j % z.size]?=some v):(madeCells z n)[j]?=some v:=by unfold madeCells;rw[Array.getElem?_map,Array.getElem?_range,Bq hj];simp only[Option.map_some];rw[getElem!_def,hv]
theorem XK(h:Dl N w0 X0 Y β s a w){t:TypeId}{x y:Operand}(ho:o.op=.makeSlice t x y){d:Nat}{K:PV->B8->List (Nat × Cd)->Option R}(hk:(match P.underlying t with
   |some (.slice e)=>El (Cm s.tm x) fun _ n=>El (Cm s.tm y) fun _ m=>
     A6 (decide (0<=n)&&decide (n<=m)&&decide (m*((P.info? e).map (·.bytes)).getD 0<=1099511627776)&&decide (m<=1099511627776))
      (Ic P e fun z=>K (.view d (Bj P e) 0 n.toNat) [] [(d,.ar false (Sw n.toNat z))])
   |_=>none)=some r):∃v fz nw,K v fz nw=some r/\Ff P a w o Y β s v fz nw:=by
 split at hk
 ·rename_i e hu;obtain⟨k1,n,hx,hk⟩:=Ef hk;obtain⟨k2,m,hy,hk⟩:=Ef hk;obtain⟨hb,hk⟩:=Aq hk;simp only[Fb,AM] at hb;obtain⟨⟨⟨h0,EW⟩,Vu⟩,hm⟩:=hb;obtain⟨z,cs,hk,hz,hct,hl,Oa,hc⟩:=Qq hk
  have hzc:∃i,P.info? e=some i/\i.zero=some z:=by
   unfold Q5 at hz;cases hi:P.info? e with
   |none=>rw[hi] at hz;cases hz
   |some i=>rw[hi] at hz;exact⟨i,rfl,hz⟩
  obtain⟨i,hi,hzi⟩:=hzc;have Aw4:Bj P e=i.size:=by simp[Bj,hi]
  simp only[hi,Option.map_some,Option.getD_some] at Vu;have hr:=run_make (P:=P) w t e i z hu hi hzi k1 k2 n m h0 EW (by rw[Int.mul_comm];omega) (by omega)
  have Dh:(execOp a.eval o).run P w=.ok (.value (.slice (some ⟨w.heap.size,0,none⟩) n.toNat m.toNat)) (w.alloc (.cells (madeCells z.cells (m.toNat*i.size)) e)):=by
   unfold execOp;rw[ho];simp[Cv h hx,Cv h hy,hr]
  have hzl:z.cells.size=Bj P e:=by
   have:z.cells.toList.length=z.cells.size:=by simp
   omega
  refine⟨_,_,_,hk,R8 (c:=madeCells z.cells (m.toNat*i.size)) (e:=e) (by simp) Dh (Hk.alloc w _ e) (fun j p hj=>?_) (.inr ⟨Bj P e,n.toNat,m.toNat,rfl,rfl,by omega,by rw[size_madeCells,Aw4];exact Cc _,.inr (Lh w _ e)⟩)⟩
  obtain⟨h1,h2⟩:=Zs hj;obtain⟨hT,u,Kj,OO,hv⟩:=hc _ p h2;refine⟨u,UX ?_ ?_,OO,hv _ _⟩
  ·have:n.toNat*cs.length<=m.toNat*i.size:=by
    rw[Oa,Aw4];exact Nat.mul_le_mul_right _ (by omega)
   omega
  ·rw[hzl,<-Oa]
   simpa using Kj
 ·cases hk
theorem Acs{p:PV}{v:Value}(hp:okP p=true)(hv:Fk w A β p v):Bo (Cn w A β) (cellsOf p) v.cells.toList:=by
 have one:v.oneCell'=true->Cn w A β p v->(∀x,p ≠ .agg x)->Bo (Cn w A β) (cellsOf p) v.cells.toList:=by
  intro h1 h2 h3;have:cellsOf p=[p]:=by cases p<;>first|rfl|exact absurd rfl (h3 _)
  rw[this,Oh h1];exact⟨h2,trivial⟩
 unfold okP at hp;split at hp
 ·obtain⟨vs,rfl,h2⟩:=hv;exact h2
 ·refine one ?_ hv (by simp);have Qo:A3 w A _ v:=hv;cases Qo<;>rfl
 ·refine one ?_ hv (by simp);rcases hv with⟨_,_,_,_,rfl⟩|⟨_,_,_,_,_,rfl,_⟩<;>rfl
 ·have:=CE hv;subst this;exact one rfl hv (by simp)
 ·have:=CE hv;subst this;exact one rfl hv (by simp)
 ·have:=CE hv;subst this;exact one rfl hv (by simp)
 ·have:=CE hv;subst this;exact one rfl hv (by simp)
 ·cases hp
theorem Aau:∀(vs:List Value)(k off:Nat)(cells:Array Value),off+k+vs.length<=cells.size ->
  ((vs.zipIdx k).foldl (fun cs (q:Value × Nat)=>cs.setIfInBounds (off+q.2) q.1) cells).toList=cells.toList.take (off+k)++vs++cells.toList.drop (off+k+vs.length)
 |[],k,off,cells,_=>by simp
 |v::vs,k,off,cells,h=>by
  simp only[List.zipIdx_cons,List.foldl_cons,Ub] at h ⊢;rw[Aau vs (k+1) off _ (by simp;omega)]
  have Cx:off+k<cells.toList.length:=by simp;omega
  simp only[Array.toList_setIfInBounds];rw[show off+(k+1)=off+k+1 from by omega,List.take_succ_eq_append_getElem (by simpa using Cx)];rw[List.getElem_set_self,List.take_set_of_le (Cc _),List.drop_set_of_lt (by omega)];simp only[Zzv,WM,Zzq];rw[show off+k+1+vs.length=off+k+(vs.length+1) from by omega]
theorem GT(h:Dl N w0 X0 Y β s a w){Ib:Nat->Option (Nat × Nat)}:∀{parts:List (Nat × Operand)} {pc:Al}{vc:Array Value}{K:Al->Option R},
  U9 Ib (parts.map fun q=>(q.1,Cm s.tm q.2)) pc K=some r->Bo (Cn w (D2 s.hp β Y) β) pc vc.toList->(∀c∈pc,∀id∈Aw c,s.hp id≠none) ->
  ∃pc' vc',K pc'=some r/\Instr.fill Ib vc (parts.map fun q=>(q.1,a.eval q.2))=some vc'/\Bo (Cn w (D2 s.hp β Y) β) pc' vc'.toList/\pc'.length=pc.length/\∀c∈pc',∀id∈Aw c,s.hp id≠none
 |[],pc,vc,K,hk,hv,hr=>⟨pc,vc,hk,rfl,hv,rfl,hr⟩
 |(i,x)::parts,pc,vc,K,hk,hv,hr=>by
  simp only[Xy] at hk;unfold U9 at hk;obtain⟨⟨off,size⟩,Sl,hk⟩:=Cz hk;obtain⟨hb,hk⟩:=Aq hk;simp only[Fb] at hb;obtain⟨⟨hok,Oa⟩,BU⟩:=hb;have Oa:(cellsOf (Cm s.tm x)).length=size:=D9 Oa;have BU:off+size<=pc.length:=Rc BU;have hxc:=Acs hok (Dt h x);have MW:=hxc.len;have hvl:=hv.len;have T8:vc.toList.length=vc.size:=by simp
  have EV:(a.eval x).cells.toList.length=(a.eval x).cells.size:=by simp
  have Aw0:=Aau (a.eval x).cells.toList 0 off vc (by omega);simp only[KT] at Aw0
  have Auw:((a.eval x).cells.zipIdx.foldl (fun cs (q:Value × Nat)=>cs.setIfInBounds (off+q.2) q.1) vc).toList=vc.toList.take off++(a.eval x).cells.toList++vc.toList.drop (off+(a.eval x).cells.toList.length):=by
   rw[<-Aw0,<-Array.foldl_toList];simp
  obtain⟨pc',vc',hk,hf,h2,hl,hr'⟩:=GT h (pc:=Cw pc (cellsOf (Cm s.tm x)) off) (vc:=(a.eval x).cells.zipIdx.foldl (fun cs (q:Value × Nat)=>cs.setIfInBounds (off+q.2) q.1) vc) hk (by
    rw[Auw,<-MW];exact (((hv.take off).app hxc).app (hv.drop _))) (by
    intro c hc id B1;unfold Cw at hc;rcases Bu.1 hc with hc|hc
    ·rcases Bu.1 hc with hc|hc
     ·exact hr c (List.mem_of_mem_take hc) id B1
     ·refine Gb h x id ?_;cases hp:Cm s.tm x with
      |agg cs=>rw[hp] at hc;exact List.mem_flatMap.2 ⟨c,hc,B1⟩
      |tup cs=>rw[hp] at hc;simp[cellsOf] at hc;subst hc;cases B1
      |_=>rw[hp] at hc;simp[cellsOf] at hc;subst hc;exact B1
    ·exact hr c (List.mem_of_mem_drop hc) id B1)
  refine⟨pc',vc',hk,?_,h2,?_,hr'⟩
  ·simp only[Xy,Instr.fill,Sl];rw[Bg (by simp;omega)]
   exact hf
  ·rw[hl];simp[Cw];omega
theorem VN{t:TypeId}{z:Value}{cs:Al}(hl:cs.length=z.cells.toList.length)(hc:∀(j:Nat) c,cs[j]?=some c->Xl c/\∃u,z.cells.toList[j]?=some u/\u.oneCell'=true/\∀(w:World)(A:Nat->Prop),A3 w A c u)(_ht:Q5 P t=some z):
  Bo (Cn w A β) cs z.cells.toList/\∀c∈cs,Aw c=[]:=by
 refine⟨Bo.of_at hl fun i c u hci hu=>?_,fun c VI=>?_⟩
 ·obtain⟨hT,u',Kj,_,hv⟩:=hc i c hci;rw[hu] at Kj;cases Kj;exact (Md hT).2 (hv _ _)
 ·obtain⟨j,hj⟩:=List.mem_iff_getElem?.1 VI;exact I1 (hc j c hj).1
theorem GV:∀{fs:List Field},(fs.all fun f=>HN P f.type)=true->fs.mapM (fun f=>(P.info? f.type).map fun i=>(f.offset,i.size))=some (fs.map fun f=>(f.offset,Bj P f.type))
 |[],_=>rfl
 |f::fs,h=>by
  simp only[List.all_cons,Fb] at h;obtain⟨i,hi⟩:=Option.isSome_iff_exists.1 h.1;simp[List.mapM_cons,hi,GV h.2,Bj]
theorem X4{p q:Nat->Option (Nat × Nat)}(h:∀i,p i=q i)(cells:Array Value)(parts:List (Nat × Value)):Instr.fill p cells parts=Instr.fill q cells parts:=by have:p=q:=funext h;rw[this]
theorem RY(h:Dl N w0 X0 Y β s a w){t:TypeId}{ps:Array (Nat × Operand)}(ho:o.op=.build t ps){K:PV->Option R}(hk:(A6 (R6 P t&&Cp P t)<|Ic P t fun z=>U9 (Sq P t) (ps.toList.map fun q=>(q.1,Cm s.tm q.2)) z fun cs=>P8 (Jj P t) cs 0 fun cs'=>K (.agg cs'))=some r):∃v,K v=some r/\Ff P a w o Y β s v [] []:=by
 obtain⟨Sl,hk⟩:=Aq hk;simp only[Fb] at Sl;obtain⟨Sl,G4⟩:=Sl;obtain⟨z,cs,hk,hz,hct,hl,Oa,hc⟩:=Qq hk;obtain⟨hzr,HR⟩:=VN (w:=w) (A:=D2 s.hp β Y) (β:=β) hl hc hz;obtain⟨pc',vc',hk,hf,h2,Lp,hr'⟩:=GT h hk hzr (fun c VI id B1=>by rw[HR c VI] at B1;cases B1)
 obtain⟨qs,hk,hql,CH,hq⟩:=Ui hk
 have Asz:P.built t (ps.toList.map fun q=>(q.1,a.eval q.2))=some vc':=by
  have hzi:∃i,P.info? t=some i/\i.zero=some z:=by
   unfold Q5 at hz;cases hi:P.info? t with
   |none=>rw[hi] at hz;cases hz
   |some i=>rw[hi] at hz;exact⟨i,rfl,hz⟩
  obtain⟨i,hi,hzi⟩:=hzi;unfold R6 at Sl;unfold Program.built;split at Sl
  ·rename_i fs hu
   have hf':Instr.fill (((fs.toList.map fun f=>(f.offset,Bj P f.type)).toArray)[·]?) z.cells (ps.toList.map fun q=>(q.1,a.eval q.2))=some vc':=by
    rw[<-hf];refine X4 (fun j=>?_) _ _;simp[Sq,hu]
   simp only[hi,hu,hzi,GV Sl];exact hf'
  ·rename_i n e hu;obtain⟨ie,hie⟩:=Option.isSome_iff_exists.1 Sl
   have hf':Instr.fill (fun j=>some (j*ie.size,ie.size)) z.cells (ps.toList.map fun q=>(q.1,a.eval q.2))=some vc':=by
    rw[<-hf];refine X4 (fun j=>?_) _ _;simp[Sq,hu,Bj,hie]
   simp only[hi,hu,hzi,hie];exact hf'
  ·rename_i e hu;simp[Cp,hu] at G4
  ·cases Sl
 refine⟨_,hk,Cr (val:=.agg vc') ?_ ⟨vc'.toList,rfl,?_⟩ ?_⟩
 ·unfold execOp;rw[ho];have:=run_build (P:=P) w t (ps.map fun q=>(q.1,a.eval q.2)) vc' (by simpa using Asz);simp[this]
 ·refine Bo.of_at (by have:=h2.len;omega) fun j c u hcj hu=>?_
  obtain⟨p,hp,_,_,CI⟩:=hq j c hcj;rw[Ob] at hp;exact (CI _ _ _ _ (h2.at_ hp hu)).1
 ·intro id B1;obtain⟨c,VI,B1⟩:=List.mem_flatMap.1 (show id∈qs.flatMap Aw from B1);obtain⟨j,hj⟩:=List.mem_iff_getElem?.1 VI;obtain⟨p,hp,_,hpr,_⟩:=hq j c hj;rw[Ob] at hp;exact hr' p (List.mem_of_getElem? hp) id (hpr id B1)
end
open Go.RowKit
section
variable {R:Type}{r:R}{P:Program}{N:Nat}{w0:World}{X0:Jb}{Y:Nat->Prop}{β β':Bt}{s:St}{a:Act}{w w':World}{o:Oper}{A:Nat->Prop}
theorem ZH(h:Dl N w0 X0 Y β s a w){fz:B8}(CY:∀id∈fz,∃f c,s.hp id=some (.ar f c)){id:Nat}(hm:id∈fz){f:Bool}{c:Al}(hb:s.hp id=some (.ar f c)){b ob:Nat}(hβ:β id=some (b,ob)):
  ¬D2 (Aj s.hp fz) β Y b/\WD w (D2 (Aj s.hp fz) β Y) ⟨b,ob,none⟩ c/\b<w.heap.size:=by
 have hf:=h.freeze CY;have he:Aj s.hp fz id=some (.ar true c):=by rw[Ci,Bq hm,hb];rfl
 rcases hf.box id _ he with⟨h1,_⟩|⟨b',o',h1,h2,_,h4⟩
 ·rw[hβ] at h1;cases h1
 ·rw[hβ] at h1;simp at h1;obtain⟨rfl,rfl⟩:=h1;exact⟨h4 rfl,h2,h.blt id b ob (by rw[hb];simp) hβ⟩
theorem Aeq(h:Dl N w0 X0 Y β s a w){fz:B8}(CY:∀id∈fz,∃f c,s.hp id=some (.ar f c)){id es off n:Nat}(hm:id∈fz){f:Bool}{c:Al}(hb:s.hp id=some (.ar f c)){v:Value}(hv:Cn w (D2 s.hp β Y) β (.view id es off n) v):A3 w (D2 (Aj s.hp fz) β Y) (.lst false es n ((c.drop off).take (n*es))) v:=by
 rcases hv with⟨_,rfl,rfl,ad,rfl⟩|⟨b,ob,y,cap,hβ,rfl,hy,hn,_,Cx⟩
 ·simp only[Nat.zero_mul,List.take_zero];cases ad with
  |none=>exact A3.lnil false es
  |some p=>exact A3.lemp es p 0
 ·obtain⟨h1,h2,_⟩:=ZH h CY hm hb hβ;by_cases AR:n*es=0
  ·rw[AR,List.take_zero];exact A3.lst es n [] ⟨b,y,none⟩ cap (fun _=>undef) rfl Cx h1 hn (by simp) (by simp) (by simp)
  ·have hy:y=ob+off:=by
    rcases hy with hy|⟨h0,_⟩
    ·exact hy
    ·rw[h0] at AR;simp at AR
   subst hy
   have Dv:∀(j:Nat) q,((c.drop off).take (n*es))[j]?=some q->c[off+j]?=some q:=by
    intro j q hq;rw[List.getElem?_take] at hq;split at hq
    ·rw[List.getElem?_drop] at hq;exact hq
    ·cases hq
   refine A3.lst es n _ ⟨b,ob+off,none⟩ cap (fun j=>(w.cell? ⟨b,ob+off+j,none⟩).getD undef) rfl Cx h1 hn (fun j q hq=>?_) (fun j q hq=>?_) (fun j q hq=>?_)
   ·obtain⟨v,hv,_⟩:=h2 _ q (Dv j q hq);rw[Ft,<-Mu] at hv;rw[Ft,hv];rfl
   ·obtain⟨v,hv,h3,_⟩:=h2 _ q (Dv j q hq);rw[Ft,<-Mu] at hv;rw[hv];exact h3
   ·obtain⟨v,hv,_,ht⟩:=h2 _ q (Dv j q hq);rw[Ft,<-Mu] at hv;rw[hv];exact ht
theorem A3.zf{A:Nat->Prop}{z:Bool}{es n:Nat}{c:Al}{v:Value}(h:A3 w A (.lst z es n c) v):A3 w A (.lst false es n c) v:=by
 cases h with
 |lnil=>exact .lnil _ _
 |lemp=>exact .lemp _ _ _
 |lst _ _ _ a cap f hs hb hA hn hc h1 hr=>exact .lst _ _ _ a cap f hs hb hA hn hc h1 hr
theorem HW(h:Dl N w0 X0 Y β s a w){t:CT}{p:PV}{K:PV->B8->Option R}(hk:P5 (Kq s.hp) t p K=some r):
  ∃c m,K c m=some r/\Xl c/\KQ p/\(∀id∈m,∃f cc,s.hp id=some (.ar f cc))/\∀fz:B8,(∀id∈m,id∈fz)->(∀id∈fz,∃f cc,s.hp id=some (.ar f cc))->∀v,Cn w (D2 s.hp β Y) β p v->A3 w (D2 (Aj s.hp fz) β Y) c v/\v.oneCell'=true:=by
 have tree:∀t',(CU t' p fun c=>K c [])=some r->∃c m,K c m=some r/\Xl c/\KQ p/\(∀id∈m,∃f cc,s.hp id=some (.ar f cc))/\∀fz:B8,(∀id∈m,id∈fz)->(∀id∈fz,∃f cc,s.hp id=some (.ar f cc))->∀v,Cn w (D2 s.hp β Y) β p v->A3 w (D2 (Aj s.hp fz) β Y) c v/\v.oneCell'=true:=by
  intro t' hk;obtain⟨c,hk,hT,GK,hv⟩:=N1 hk;refine⟨c,[],hk,hT,Sy GK,by simp,fun fz _ CY v CI=>?_⟩;obtain⟨h1,h2⟩:=hv _ _ _ _ CI;exact⟨h1.step (Cy.refl _ _) (fun b _ hb=>hb.imp Si id),h2⟩
 cases t with
 |sl es=>
  unfold P5 at hk;dsimp only at hk;split at hk
  ·rename_i id es' off n;cases hb:Nat.beq es' es
   ·rw[hb] at hk;cases hk
   ·rw[hb] at hk;have:=D9 hb;subst this;obtain⟨c,hc,hk⟩:=Cz (show Dk _ _=some r from hk);obtain⟨_,hk⟩:=Aq hk;obtain⟨f,My⟩:=PA hc;refine⟨_,[id],hk,trivial,trivial,?_,fun fz hm CY v hv=>⟨Aeq h CY (hm id (by simp)) My hv,?_⟩⟩
    ·intro i hi;simp at hi;subst hi;exact⟨f,c,My⟩
    ·rcases hv with⟨_,_,_,_,rfl⟩|⟨_,_,_,_,_,rfl,_⟩<;>rfl
  ·obtain⟨z,n,c,hk,hp⟩:=Gq hk;refine⟨_,[],hk,trivial,?_,by simp,fun fz _ CY v CI=>?_⟩
   ·rcases hp with rfl|⟨rfl,_⟩<;>trivial
   ·have ht:=Xr hp CI;refine⟨A3.zf (ht.step (Cy.refl _ _) (fun b _ hb=>hb.imp Si id)),?_⟩;cases ht<;>rfl
 |int k=>exact tree (.int k) hk
 |bool=>exact tree .bool hk
 |str=>exact tree .str hk
 |any=>exact tree .any hk
theorem Sc(h:Dl N w0 X0 Y β s a w):∀{ts:List CT}{ps:Al}{K:Al->B8->Option R},Pn (Kq s.hp) ts ps K=some r ->
  ∃cs m,K cs m=some r/\cs.length=ts.length/\ps.length=ts.length/\(∀c∈cs,Xl c)/\(∀p∈ps,KQ p)/\(∀id∈m,∃f cc,s.hp id=some (.ar f cc)) /\
   ∀fz:B8,(∀id∈m,id∈fz)->(∀id∈fz,∃f cc,s.hp id=some (.ar f cc))->∀vs,Bo (Cn w (D2 s.hp β Y) β) ps vs->Bo (A3 w (D2 (Aj s.hp fz) β Y)) cs vs/\∀v∈vs,v.oneCell'=true
 |[],[],K,hk=>⟨[],[],hk,rfl,rfl,by simp,by simp,by simp,fun fz _ _ vs hv=>by
   cases vs with
   |nil=>exact⟨trivial,by simp⟩
   |cons v vs=>exact hv.elim⟩
 |[],_::_,K,hk=>by cases hk
 |_::_,[],K,hk=>by cases hk
 |t::ts,p::ps,K,hk=>by
  unfold Pn at hk;obtain⟨c,m,hk,hT,hF,hm,hv⟩:=HW h hk;obtain⟨cs,ms,hk,hl,Lp,hTs,hFs,GE,T8⟩:=Sc h hk;refine⟨c::cs,m++ms,hk,by simp[hl],by simp[Lp],?_,?_,?_,fun fz hfm CY vs h2=>?_⟩
  ·intro x hx;rcases List.mem_cons.1 hx with rfl|hx
   ·exact hT
   ·exact hTs x hx
  ·intro x hx;rcases List.mem_cons.1 hx with rfl|hx
   ·exact hF
   ·exact hFs x hx
  ·intro x hx;rcases Bu.1 hx with hx|hx
   ·exact hm x hx
   ·exact GE x hx
  ·cases vs with
   |nil=>exact h2.elim
   |cons v vs=>
    obtain⟨h3,h4⟩:=hv fz (fun i hi=>hfm i (by simp[hi])) CY v h2.1;obtain⟨h5,h6⟩:=T8 fz (fun i hi=>hfm i (by simp[hi])) CY vs h2.2;refine⟨⟨h3,h5⟩,?_⟩;intro x hx;rcases List.mem_cons.1 hx with rfl|hx
    ·exact h4
    ·exact h6 x hx
theorem Ac7{R':PV->Value->Prop}{cs:Al}{z:Array Value}(h:Bo R' cs z.toList)(n:Nat):Bo R' (Sw n cs) (madeCells z (n*cs.length)).toList:=by
 have hzl:z.size=cs.length:=by have:=h.len;simp at this;exact this.symm
 refine Bo.of_at ?_ fun j c v hc hv=>?_
 ·rw[TP];simp[size_madeCells]
 ·obtain⟨h1,h2⟩:=Zs hc
  have Cx:j % cs.length<cs.length:=by
   rcases Ht (j % cs.length) cs.length with h|h
   ·exact h
   ·rw[List.getElem?_eq_none h] at h2;cases h2
  obtain⟨u,hu,hcu⟩:=h.get h2;have:(madeCells z (n*cs.length))[j]?=some u:=UX h1 (by rw[hzl];simpa using hu)
  have Qo:(madeCells z (n*cs.length))[j]?=some v:=by simpa using hv
  rw[this] at Qo;cases Qo;exact hcu
theorem LR{A':Nat->Prop}:∀{ps cs:Al}{vs:List Value},Bo (Cn w (D2 s.hp β Y) β) ps vs->Bo (A3 w A') cs vs->Bo (A3 w A') (SF true ps cs) vs
 |[],_,_,_,h=>h
 |_::_,[],_,_,h=>h
 |p::ps,c::cs,[],_,h=>h.elim
 |p::ps,c::cs,v::vs,hp,h=>by
  refine⟨?_,LR hp.2 h.2⟩;split
  ·have h1:A3 w (D2 s.hp β Y) (.lst true _ 0 []) v:=hp.1;cases h1;exact .lnil true _
  ·exact h.1
theorem CF(h:Dl N w0 X0 Y β s a w){nz:Bool}{t:TypeId}{n:Nat}{ps:Array (Nat × Operand)}(ho:o.op=.buildSlice t n ps){d:Nat}{K:PV->B8->List (Nat × Cd)->Option R}(hk:(match P.underlying t with
   |some (.slice e)=>A6 (R6 P t&&Nat.ble (n*Bj P e) 16777216) (Ic P e fun z=>U9 (Sq P t) (ps.toList.map fun q=>(q.1,Cm s.tm q.2)) (Sw n z) fun cs=>
     Pn (Kq s.hp) (List.replicate n (Jj P e)).flatten cs fun cs' m=>K (.view d (Bj P e) 0 n) m [(d,.ar false (bif nz then SF true cs cs' else cs'))])
   |_=>none)=some r):∃v fz nw,K v fz nw=some r/\Ff P a w o Y β s v fz nw:=by
 split at hk
 ·rename_i e hu;obtain⟨hb,hk⟩:=Aq hk;simp only[Fb] at hb;have BU:n*Bj P e<=16777216:=Rc hb.2;have Rg:(P.info? e).isSome=true:=by have:=hb.1;unfold R6 at this;rw[hu] at this;exact this
  obtain⟨z,cs,hk,hz,hct,hl,Oa,hc⟩:=Qq hk;obtain⟨hzr,HR⟩:=VN (w:=w) (A:=D2 s.hp β Y) (β:=β) hl hc hz;have A2q:=Ac7 hzr n
  obtain⟨pc',vc',hk,hf,h2,Lp,hr'⟩:=GT h hk A2q (fun c VI id B1=>by
   obtain⟨j,hj⟩:=List.mem_iff_getElem?.1 VI;obtain⟨_,hg⟩:=Zs hj;rw[HR c (List.mem_of_getElem? hg)] at B1;cases B1)
  obtain⟨qs,m,hk,hql,Sl,hqT,_,hm,hqv⟩:=Sc h hk;obtain⟨h3,h3'⟩:=hqv m (fun _ hi=>hi) hm _ h2
  have h3:Bo (A3 w (D2 (Aj s.hp m) β Y)) (bif nz then SF true pc' qs else qs) vc'.toList:=by
   cases nz
   ·exact h3
   ·exact LR h2 h3
  have hf':Instr.fill (fun i=>some (i*Bj P e,Bj P e)) (madeCells z.cells (n*cs.length)) (ps.toList.map fun q=>(q.1,a.eval q.2))=some vc':=by
   rw[<-hf];refine X4 (fun i=>?_) _ _;simp[Sq,hu]
  have hvl:vc'.size=n*Bj P e:=by
   have h4:=h2.len;rw[Lp,TP] at h4;simp at h4;rw[<-h4,Oa]
  have Dh:(execOp a.eval o).run P w=.ok (.value (.slice (some ⟨w.heap.size,0,none⟩) n n)) (w.alloc (.cells vc' e)):=by
   unfold execOp;rw[ho];have Aw1:¬(n*Bj P e>2 ^ 24):=by omega
   rw[Oa] at hf';by_cases AR:n*Bj P e=0
   ·simp only[Instr.buildSlice,Sem.run_bind,run_underlying hu,Result.andThen_ok,Dm Rg,Bg Aw1,AR];rw[AR] at hf';have e0:madeCells z.cells 0=(Array.range 0).map (fun _=>default):=by simp[madeCells]
    rw[e0] at hf';simp[hf',newRow]
   ·simp only[Instr.buildSlice,Sem.run_bind,run_underlying hu,Result.andThen_ok,Dm Rg,Bg Aw1,Bg AR,Xo hz];unfold madeCells at hf';simp[hf',newRow]
  refine⟨_,_,_,hk,R8 (c:=vc') (e:=e) hm Dh (Hk.alloc w vc' e) (fun j p hj=>?_) (.inr ⟨Bj P e,n,n,rfl,rfl,Cc _,by rw[hvl];exact Cc _,.inr (Lh w vc' e)⟩)⟩
  obtain⟨u,Kj,hp⟩:=h3.get hj;exact⟨u,by simpa using Kj,h3' u (List.mem_of_getElem? Kj),hp⟩
 ·cases hk
theorem QL(h:Dl N w0 X0 Y β s a w){t:TypeId}{x k:Operand}{ok:Bool}(ho:o.op=.lookup t x k ok){K:PV->Option R}(hk:(match P.underlying t with
   |some (.map kt vt)=>A6 (match P.underlying kt with|some .string=>true|_=>false) (
    match Cm s.tm x with
    |.sc (.map none)=>Ai (Cm s.tm k) fun _=>Dk (Q5 P vt) fun z=>cvK P vt z fun v=>A6 (match v with | .tup _=>false|_=>true) (K (bif ok then .tup [v,.sc (.bool false)] else v))
    |_=>none)
   |_=>none)=some r):∃v,K v=some r/\Ff P a w o Y β s v [] []:=by
 split at hk
 ·rename_i kt vt hu;obtain⟨hkt,hk⟩:=Aq hk
  have hkt:P.underlying kt=some .string:=by
   split at hkt
   ·assumption
   ·cases hkt
  split at hk
  ·rename_i hx;obtain⟨b,hkk,hk⟩:=Eg hk;obtain⟨z,hz,hk⟩:=Cz hk;obtain⟨v,hk,hr,hv⟩:=Abq hk;obtain⟨YP,hk⟩:=Aq hk
   have YP:∀cs,v ≠ .tup cs:=by
    rintro cs rfl
    cases YP
   have hzr:∀w:World,(zeroValue vt).run P w=.ok z w:=by
    intro w;unfold Q5 at hz;cases hi:P.info? vt with
    |none=>rw[hi] at hz;cases hz
    |some i=>
     rw[hi] at hz;simp[zeroValue,typeInfo,hi,show i.zero=some z from hz]
   have Dh:(execOp a.eval o).run P w=.ok (.value (if ok then .tuple #[z,.bool false] else z)) w:=by
    unfold execOp;rw[ho];have hck:∀c (n:Nat),(Instr.checkKey c (n+1) kt (.string b)).run P w=.ok () w:=fun c n=>by simp[Instr.checkKey,run_underlying hkt]
    have KI:∀c,(Instr.checkKey c 10000 kt (.string b)).run P w=.ok () w:=fun c=>hck c 9999;cases ok<;>simp[Instr.lookup,run_underlying hu,Cv h hx,Cv h hkk,KI,Instr.findKey,Instr.findNow,run_underlying hkt,hzr]
   refine⟨_,hk,Cr Dh ?_ ?_⟩
   ·cases ok
    ·exact hv _ _ _
    ·refine⟨[z,.bool false],rfl,(Qf YP).1 (hv _ _ _),?_,trivial⟩;exact A3.sc _
   ·cases ok
    ·intro id B1;simp only[cond_false] at B1;rw[hr] at B1;cases B1
    ·intro id B1;have:Ch (.tup [v,.sc (.bool false)])=C5 v++[]:=by simp[Ch,C5,Aw]
     simp only[cond_true] at B1;rw[this,List.append_nil] at B1;have e:C5 v=Ch v:=by cases v<;>first|rfl|exact absurd rfl (YP _)
     rw[e,hr] at B1;cases B1
  ·cases hk
 ·cases hk
end
end
end
end Go.Proofs.YtkopiepmdppifaaGreatDoor.Pv
