/-
  The proof of AccountShape, part 1.
-/
import Derived.Orders
import Derived.LoopN
import Derived.Below
import Derived.Laws.Cover4
import Derived.Lib.ValidU
import Derived.Lib.Bytealg
import Derived.IntWalk
import Derived.WalkKit
import Derived.WalkLawsBesides
import Derived.Laws.IdiomStrings
import Derived.Laws.MakeOwn
import Derived.Laws.Tables
set_option linter.unusedSimpArgs false
set_option linter.unusedVariables false
namespace Go.Proofs.Ytcgfahlefkfghaa.Pv
section
inductive PV where
 |sc (v:Value)
 |lst (z:Bool) (es n:Nat) (cells:List PV)
 |own (es n:Nat) (cells:List PV)
 |view (id es off n:Nat)
 |ptr (id off:Nat)
 |iptr (cells:List PV) (off:Nat)
 |pbox (cells:List PV)
 |agg (cells:List PV)
 |tup (vs:List PV)
 |top
 |ub
inductive A3 where
 |st (cells:List PV)
 |ar (fz:Bool) (cells:List PV)
 |mv
structure St where
 tm:Nat->PV
 hp:Nat->Option A3
structure Bb where
 vals:List PV
 outs:List (List PV)
structure Fy where
 shr:FuncId->Bool
 mvd:FuncId->Nat->Bool
 lnd:FuncId->Nat->Bool
 kz:FuncId->Bool
 ext:FuncId->Option (List PV->Option Bb)
 nz:Nat->Bool
def Fy.core (C:Fy):Fy:={ C with ext:=fun _=>none }
def Bu {α:Type}(f:Nat->α)(i:Nat)(v:α):Nat->α:=fun j=>bif Nat.beq j i then v else f j
def rd (hp:Nat->Option A3)(id:Nat):Option (List PV):=
 match hp id with
 |some (.st c)=>some c
 |some (.ar _ c)=>some c
 |_=>none
def Hf (hp:Nat->Option A3)(id:Nat):Option (List PV):=
 match hp id with
 |some (.ar _ c)=>some c
 |_=>none
inductive CT where
 |int (k:IntKind)
 |bool
 |str
 |sl (es:Nat)
 |any
def At (P:Program)(t:TypeId):Nat:=((P.info? t).map (·.size)).getD 0
def Bc (P:Program)(t:TypeId):Bool:=
 match P.underlying t with
 |some (.struct _)=>true
 |some (.array _ _)=>true
 |_=>false
def Alj (P:Program):Nat->TypeId->List CT
 |0,_=>[]
 |d+1,t=>
  match P.underlying t with
  |some (.int k)=>[.int k]
  |some .bool=>[.bool]
  |some .string=>[.str]
  |some (.slice e)=>[.sl (At P e)]
  |some (.struct fs)=>fs.toList.flatMap fun f=>Alj P d f.type
  |some (.array n e)=>(List.replicate n (Alj P d e)).flatten
  |_=>[.any]
abbrev Gc (P:Program)(t:TypeId):List CT:=Alj P 9 t
def G3 (P:Program)(t:TypeId):Bool:=(P.underlying t).isSome&&Nat.beq (Gc P t).length (At P t)
abbrev QY (k:IntKind)(a b:Int):Int:=k.wrap (BitVec.ofInt k.bits a &&& BitVec.ofInt k.bits b).toNat
abbrev Xj (k:IntKind)(a b:Int):Int:=k.wrap (BitVec.ofInt k.bits a ||| BitVec.ofInt k.bits b).toNat
abbrev C6 (k:IntKind)(a b:Int):Int:=k.wrap (BitVec.ofInt k.bits a ^^^ BitVec.ofInt k.bits b).toNat
abbrev Adj (k:IntKind)(a b:Int):Int:=k.wrap (BitVec.ofInt k.bits a &&& ~~~BitVec.ofInt k.bits b).toNat
abbrev Ho (k:IntKind)(a b:Int):Int:=k.wrap (a*2 ^ (min b.toNat k.bits))
abbrev AU (k:IntKind)(a b:Int):Int:=a.fdiv (2 ^ (min b.toNat k.bits))
abbrev Am9 (k:IntKind)(n:Int):Int:=k.wrap (BitVec.ofInt k.bits (if k.signed then -1 else k.max) ^^^ BitVec.ofInt k.bits n).toNat
section
variable {R:Type}
def Ai (k:IntKind)(p:PV)(K:Int->Option R):Option R:=
 match p with
 |.sc (.int k' n)=>if k'=k then K n else none
 |_=>none
def A5 (p:PV)(K:Bool->Option R):Option R:=
 match p with
 |.sc (.bool b)=>K b
 |_=>none
def En (p:PV)(K:ByteArray->Option R):Option R:=
 match p with
 |.sc (.string s)=>K s
 |_=>none
def Eu (es:Nat)(p:PV)(K:Bool->Nat->List PV->Option R):Option R:=
 match p with
 |.lst z es' n c=>bif Nat.beq es' es then K z n c else none
 |.sc (.slice none 0 0)=>K true 0 []
 |_=>none
def fsK (es:Nat)(p:PV)(K:PV->Option R):Option R:=
 match p with
 |.view id es' off n=>bif Nat.beq es' es then K (.view id es off n) else none
 |p=>Eu es p fun z n c=>K (.lst z es n c)
def Oc (es:Nat)(p:PV)(K:Nat->List PV->Option R):Option R:=
 match p with
 |.own es' n c=>bif Nat.beq es' es then K n c else none
 |_=>none
def Au (b:Bool)(K:Option R):Option R:=bif b then K else none
abbrev Aa {α:Type}(x:α)(K:α->Option R):Option R:=K x
def JB (b:Bool)(x y:Option R):Option R:=bif b then x else y
abbrev Av8 (x:Nat)(K:Nat->Option R):Option R:=K x
def Af8 (x:List (List Nat)) (K:List (List Nat)->Option R):Option R:=K x
def Cg (b:Bool)(x y:Option R):Option R:=bif b then x else y
def C7 {α:Type}(o:Option α)(K:α->Option R):Option R:=
 match o with
 |some a=>K a
 |none=>none
def Ab {α:Type}(l:List α)(K:α->List α->Option R):Option R:=
 match l with
 |a::r=>K a r
 |[]=>none
def Ae {α:Type}(l:List α)(K:Option R):Option R:=
 match l with
 |[]=>K
 |_::_=>none
def Fo (p:PV)(K:List PV->Option R):Option R:=
 match p with
 |.agg c=>K c
 |_=>none
def Qv (p:PV)(K:List PV->Option R):Option R:=
 match p with
 |.pbox c=>K c
 |_=>none
def Ap (r:Option Bb)(K:List PV->List (List PV)->Option R):Option R:=
 match r with
 |some ⟨v,o⟩=>K v o
 |none=>none
def VH (p:PV)(K:Value->Option R):Option R:=
 match p with
 |.sc (.func f a b)=>K (.func f a b)
 |.sc (.map none)=>K (.map none)
 |_=>none
def fvK (p:PV)(K:FuncId->Option R):Option R:=
 match p with
 |.sc (.func (.func f) a b)=>bif a.isEmpty&&b.isEmpty then K f else none
 |_=>none
def Ug (t:CT)(p:PV)(K:PV->Option R):Option R:=
 match t with
 |.int k=>Ai k p fun n=>K (.sc (.int k n))
 |.bool=>A5 p fun b=>K (.sc (.bool b))
 |.str=>En p fun s=>K (.sc (.string s))
 |.sl es=>Eu es p fun z n c=>K (.lst z es n c)
 |.any=>VH p fun v=>K (.sc v)
def fcK (t:CT)(p:PV)(K:PV->Option R):Option R:=
 match t with
 |.sl es=>fsK es p K
 |t=>Ug t p K
def N8:List CT->List PV->Nat->(List PV->Option R)->Option R
 |[],_,_,K=>K []
 |t::ts,cells,off,K=>Ug t (cells.getD off .top) fun c=>N8 ts cells (off+1) fun r=>K (c::r)
def K4:List CT->List PV->Nat->(List PV->Option R)->Option R
 |[],_,_,K=>K []
 |t::ts,cells,off,K=>fcK t (cells.getD off .top) fun c=>K4 ts cells (off+1) fun r=>K (c::r)
def PC (agg:Bool)(cells:List PV)(K:PV->Option R):Option R:=
 bif agg then K (.agg cells) else Ab cells fun c r=>Ae r (K c)
def cellsOf:PV->List PV
 |.agg c=>c
 |p=>[p]
def cvK (P:Program)(t:TypeId)(v:Value)(K:PV->Option R):Option R:=
 match v with
 |.agg cs=>Au (Nat.beq cs.toList.length (Gc P t).length) (N8 (Gc P t) (cs.toList.map .sc) 0 fun c=>K (.agg c))
 |.slice none 0 0=>
  match P.underlying t with
  |some (.slice e)=>K (.lst true (At P e) 0 [])
  |_=>none
 |v=>K (.sc v)
end
def Bf (tm:Nat->PV):Operand->PV
 |.tmp t=>tm t
 |.const (.agg cs)=>.agg (cs.toList.map .sc)
 |.const v=>.sc v
 |.func f=>.sc (.func (.func f) #[] #[])
 |.global g=>.sc (.pointer (some ⟨g,0,none⟩))
section
variable {R:Type}
def Cp (p:PV)(K:IntKind->Int->Option R):Option R:=
 match p with
 |.sc (.int k n)=>K k n
 |_=>none
def HZ (rdf:Nat->Option (List PV)) (es:Nat)(p:PV)(K:Nat->List PV->Option R):Option R:=
 match p with
 |.view id es' off n=>bif Nat.beq es' es then C7 (rdf id) fun c=>Au (decide (off+n*es<=c.length)) (K n ((c.drop off).take (n*es))) else none
 |p=>Eu es p fun _ n c=>K n c
def Kz (rdf:Nat->Option (List PV)) (t:CT)(p:PV)(K:PV->List Nat->Option R):Option R:=
 match t with
 |.sl es=>
  match p with
  |.view id es' off n=>bif Nat.beq es' es then C7 (rdf id) fun c=>Au (decide (off+n*es<=c.length)) (K (.lst false es n ((c.drop off).take (n*es))) [id]) else none
  |p=>Eu es p fun _ n c=>K (.lst false es n c) []
 |t=>Ug t p fun c=>K c []
def Kb (rdf:Nat->Option (List PV)):List CT->List PV->(List PV->List Nat->Option R)->Option R
 |[],[],K=>K [] []
 |t::ts,p::ps,K=>Kz rdf t p fun c m=>Kb rdf ts ps fun cs ms=>K (c::cs) (m++ms)
 |_,_,_=>none
def HU (k:Bool):List PV->List PV->List PV
  |p::ps,c::cs=>
    (match k,p with
     |true,.lst true es 0 []=>.lst true es 0 []
     |_,_=>c)::HU k ps cs
  |_,cs=>cs
def LX (P:Program)(rdf:Nat->Option (List PV)) (t:TypeId)(p:PV)(K:PV->List Nat->Option R):Option R:=
 bif Bc P t then Fo p fun ps=>Kb rdf (Gc P t) ps fun cs m=>K (.agg cs) m
 else Kb rdf (Gc P t) [p] fun cs m=>Ab cs fun c r=>Ae r (K c m)
def Ya (P:Program)(rdf:Nat->Option (List PV)):List TypeId->List PV->(List PV->List Nat->Option R)->Option R
 |[],[],K=>K [] []
 |t::ts,p::ps,K=>LX P rdf t p fun v m=>Ya P rdf ts ps fun vs ms=>K (v::vs) (m++ms)
 |_,_,_=>none
def ZC (shr:Bool)(id:Nat)(t:CT)(p:PV)(K:PV->List (Nat × A3)->Option R):Option R:=
 match t with
 |.sl es=>bif shr then Eu es p fun _ n c=>K (.lst false es n c) [] else Oc es p fun n c=>K (.view id es 0 n) [(id,.ar false c)]
 |t=>Ug t p fun c=>K c []
def Mf (shr:Bool)(N:Nat):Nat->List CT->List PV->(List PV->List (Nat × A3)->Option R)->Option R
 |_,[],ps,K=>Ae ps (K [] [])
 |id,t::ts,ps,K=>Ab ps fun p ps=>ZC shr id t p fun c b=>Mf shr N (id+N) ts ps fun cs bs=>K (c::cs) (b++bs)
def S2 (P:Program)(t:TypeId):Option TypeId:=
 match P.underlying t with
 |some (.pointer e)=>some e
 |_=>none
def HW (P:Program)(t:TypeId):Nat:=
 match S2 P t with
 |some e=>1+(Gc P e).length
 |none=>(Gc P t).length
def UR (P:Program)(shr:Bool)(N:Nat)(id:Nat)(t:TypeId)(p:PV)(K:PV->List (Nat × A3)->Option R):Option R:=
 match S2 P t with
 |some e=>Qv p fun ps=>Mf shr N (id+N) (Gc P e) ps fun cs bs=>K (.ptr id 0) ((id,.st cs)::bs)
 |none=>
 bif Bc P t then Fo p fun ps=>Mf shr N id (Gc P t) ps fun cs bs=>K (.agg cs) bs
 else Mf shr N id (Gc P t) [p] fun cs bs=>Ab cs fun c r=>Ae r (K c bs)
def Wc (P:Program)(shr:Bool)(N:Nat):Nat->List TypeId->List PV->(List PV->List (Nat × A3)->Option R)->Option R
 |_,[],ps,K=>Ae ps (K [] [])
 |id,t::ts,ps,K=>Ab ps fun p ps=>UR P shr N id t p fun v bs=>Wc P shr N (id+N*HW P t) ts ps fun vs bs'=>K (v::vs) (bs++bs')
def J8 (P:Program)(t:TypeId):List TypeId:=
 match P.underlying t with
 |some (.tuple ts)=>ts.toList
 |_=>[t]
def Kd (vs:List PV)(t:Bool):PV:=bif t then .tup vs else vs.headD .top
def Lb (P:Program)(t:TypeId):Bool:=
 match P.underlying t with
 |some (.tuple _)=>true
 |_=>false
def Acu (op:BinOp)(a b:Int)(K:Bool->Option R):Option R:=
 match op with
 |.eql=>K (a==b)
 |.neq=>K (a != b)
 |.lss=>K (decide (a<b))
 |.leq=>K (decide (a<=b))
 |.gtr=>K (decide (a>b))
 |.geq=>K (decide (a>=b))
 |_=>none
def Yn (op:BinOp)(k:IntKind)(a b:Int)(K:PV->Option R):Option R:=
 match op with
 |.add=>Aa ((k.wrap (a+b))) fun n=>K (.sc (.int k n))
 |.sub=>Aa ((k.wrap (a-b))) fun n=>K (.sc (.int k n))
 |.mul=>Aa ((k.wrap (a*b))) fun n=>K (.sc (.int k n))
 |.quo=>Au (decide (b≠0)) (Aa ((k.wrap (a.tdiv b))) fun n=>K (.sc (.int k n)))
 |.rem=>Au (decide (b≠0)) (Aa ((a.tmod b)) fun n=>K (.sc (.int k n)))
 |.and=>Aa (QY k a b) fun n=>K (.sc (.int k n))
 |.or=>Aa (Xj k a b) fun n=>K (.sc (.int k n))
 |.xor=>Aa (C6 k a b) fun n=>K (.sc (.int k n))
 |.andNot=>Aa (Adj k a b) fun n=>K (.sc (.int k n))
 |op=>Acu op a b fun r=>K (.sc (.bool r))
def Zv (op:BinOp)(x y:ByteArray)(K:PV->Option R):Option R:=
 match op with
 |.add=>Au (decide (x.size+y.size<=9223372036854775807)) (Aa (x++y) fun s=>K (.sc (.string s)))
 |.eql=>K (.sc (.bool (x.data.toList==y.data.toList)))
 |.neq=>K (.sc (.bool !(x.data.toList==y.data.toList)))
 |.lss=>K (.sc (.bool (Op.bytesLess x.data.toList y.data.toList)))
 |.leq=>K (.sc (.bool (Op.bytesLess x.data.toList y.data.toList||x.data.toList==y.data.toList)))
 |.gtr=>K (.sc (.bool !(Op.bytesLess x.data.toList y.data.toList||x.data.toList==y.data.toList)))
 |.geq=>K (.sc (.bool !(Op.bytesLess x.data.toList y.data.toList)))
 |_=>none
def Zh (e:Bool)(p:PV)(K:PV->Option R):Option R:=
 match p with
 |.sc (.slice none 0 0)=>K (.sc (.bool e))
 |.lst z _ n _=>Cg z (K (.sc (.bool e))) (Cg (decide (0<n)) (K (.sc (.bool !e))) (K .ub))
 |.view _ _ _ n=>Cg (decide (0<n)) (K (.sc (.bool !e))) (K .ub)
 |_=>none
def IP (P:Program):List Field->Nat->Bool
 |[],_=>true
 |f::r,i=>Nat.beq f.offset i&&(f.name != "_")&&(match P.underlying f.type with|some (.int _)=>true|some .bool=>true|some .string=>true|_=>false)&&IP P r (i+1)
def Ke (P:Program):List Field->Nat->Bool
  |[],_=>true
  |f::r,i=>Nat.beq f.offset i&&(f.name != "_") &&
    (match P.underlying f.type with
     |some (.int _)=>Ke P r (i+1)
     |some .bool=>Ke P r (i+1)
     |some .string=>Ke P r (i+1)
     |some (.struct gs)=>IP P gs.toList 0 && !P.stoodInHeld f.type&&(P.info? f.type).isSome&&Nat.beq (At P f.type) gs.size&&Ke P r (i+gs.size)
     |_=>false)
def EQ (P:Program)(t:TypeId)(fs:Array Field):Bool:=Ke P fs.toList 0 && !P.stoodInHeld t && !P.eqGuardType P.depth t
def fty (P:Program)(f:Field):CT:=
 match P.underlying f.type with
 |some (.int k)=>.int k
 |some .bool=>.bool
 |some .string=>.str
 |_=>.any
def IK (P:Program)(f:Field):List CT:=
 match P.underlying f.type with
 |some (.struct gs)=>gs.toList.map (fty P)
 |_=>[fty P f]
def Q0 (P:Program):List Field->List CT
 |[]=>[]
 |f::r=>IK P f++Q0 P r
def Io:List CT->List PV->List PV->(Bool->Option R)->Option R
 |[],[],[],K=>K true
 |.int k::ts,p::ps,q::qs,K=>Ai k p fun a=>Ai k q fun b=>Io ts ps qs fun r=>K ((a==b)&&r)
 |.bool::ts,p::ps,q::qs,K=>A5 p fun a=>A5 q fun b=>Io ts ps qs fun r=>K ((a==b)&&r)
 |.str::ts,p::ps,q::qs,K=>En p fun a=>En q fun b=>Io ts ps qs fun r=>K ((a==b)&&r)
 |_,_,_,_=>none
def YU (P:Program)(op:BinOp)(t:TypeId)(x y:PV)(K:PV->Option R):Option R:=
 match P.underlying t with
 |some (.int k)=>
  match op with
  |.shl=>Ai k x fun a=>Cp y fun _ b=>Au (decide (0<=b)) (Aa (Ho k a b) fun n=>K (.sc (.int k n)))
  |.shr=>Ai k x fun a=>Cp y fun _ b=>Au (decide (0<=b)) (Aa (AU k a b) fun n=>K (.sc (.int k n)))
  |op=>Ai k x fun a=>Ai k y fun b=>Yn op k a b K
 |some .string=>En x fun a=>En y fun b=>Zv op a b K
 |some .bool=>
  match op with
  |.eql=>A5 x fun a=>A5 y fun b=>K (.sc (.bool (a==b)))
  |.neq=>A5 x fun a=>A5 y fun b=>K (.sc (.bool !(a==b)))
  |_=>none
 |some (.slice _)=>
  match op,y with
  |.eql,.sc (.slice none 0 0)=>Zh true x K
  |.neq,.sc (.slice none 0 0)=>Zh false x K
  |_,_=>none
 |some (.map _ _)=>
  match op,x,y with
  |.eql,.sc (.map none),.sc (.map none)=>K (.sc (.bool true))
  |.neq,.sc (.map none),.sc (.map none)=>K (.sc (.bool false))
  |_,_,_=>none
 |_=>none
def Py (P:Program)(op:BinOp)(t:TypeId)(x y:PV)(K:PV->Option R):Option R:=
 match P.underlying t with
 |some (.struct fs)=>
  match op with
  |.eql=>Au (EQ P t fs) (Fo x fun xs=>Fo y fun ys=>Io (Q0 P fs.toList) xs ys fun b=>K (.sc (.bool b)))
  |.neq=>Au (EQ P t fs) (Fo x fun xs=>Fo y fun ys=>Io (Q0 P fs.toList) xs ys fun b=>K (.sc (.bool !b)))
  |_=>none
 |_=>YU P op t x y K
def unK (op:UnOp)(x:PV)(K:PV->Option R):Option R:=
 match op with
 |.not=>A5 x fun b=>K (.sc (.bool !b))
 |.neg=>Cp x fun k n=>Aa (k.wrap (0-n)) fun n=>K (.sc (.int k n))
 |.xor=>Cp x fun k n=>Aa (Am9 k n) fun n=>K (.sc (.int k n))
 |_=>none
def bytesOf:List PV->Option (List UInt8)
 |[]=>some []
 |.sc (.int .u8 n)::r=>(bytesOf r).map (n.toNat.toUInt8 :: ·)
 |_::_=>none
def Pq:List PV->Option (List Int)
 |[]=>some []
 |.sc (.int .i32 n)::r=>(Pq r).map (n :: ·)
 |_::_=>none
def Fd (s:ByteArray):List PV:=s.data.toList.map fun b=>.sc (.int .u8 b.toNat)
def Yt (P:Program)(rdf:Nat->Option (List PV)) (d:Nat)(src dst:TypeId)(x:PV)(K:PV->List (Nat × A3)->Option R):Option R:=
 match P.underlying dst with
 |some (.int k)=>Au (P.underlying src).isSome (Cp x fun _ n=>Aa (k.wrap n) fun n=>K (.sc (.int k n)) [])
 |some .string=>
  match P.underlying src with
  |some .string=>En x fun s=>K (.sc (.string s)) []
  |some (.slice e)=>
   match P.underlying e with
   |some (.int .u8)=>HZ rdf 1 x fun n c=>Au (decide (c.length=n)) (C7 (bytesOf c) fun b=>K (.sc (.string ⟨b.toArray⟩)) [])
   |some (.int .i32)=>HZ rdf 1 x fun n c=>Au (decide (c.length=n)) (C7 (Pq c) fun ns=>Aa (runesBytes ns) fun s=>K (.sc (.string s)) [])
   |_=>none
  |_=>none
 |some (.slice e)=>
  match P.underlying e,P.underlying src with
  |some (.int .u8),some .string=>En x fun s=>Au (decide (s.size<=1099511627776)) (K (.view d 1 0 s.size) [(d,.ar false (Fd s))])
  |_,_=>none
 |_=>none
def Fl (p:Option PV)(dflt:Nat)(K:Nat->Option R):Option R:=
 match p with
 |none=>K dflt
 |some p=>Cp p fun _ i=>Au (decide (0<=i)) (K i.toNat)
def Uq (P:Program)(rdf:Nat->Option (List PV)) (t:TypeId)(x:PV)(lo hi:Option PV)(K:PV->Option R):Option R:=
 match P.underlying t with
 |some .string=>En x fun s=>Fl lo 0 fun l=>Fl hi s.size fun h=>Au (decide (l<=h)&&decide (h<=s.size)) (Aa (s.extract l h) fun s=>K (.sc (.string s)))
 |some (.slice e)=>Au (P.info? e).isSome (
  match x with
  |.view id es off n=>Au (Nat.beq es (At P e)) (Fl lo 0 fun l=>Fl hi n fun h=>Au (decide (l<=h)&&decide (h<=n)) (Aa (off+l*es) fun o=>Aa (h-l) fun n=>K (.view id es o n)))
  |x=>Eu (At P e) x fun z n c=>Fl lo 0 fun l=>Fl hi n fun h=>Au (decide (l<=h)&&decide (h<=n)) (Aa (h-l) fun n=>Aa ((c.drop (l*At P e)).take (n*At P e)) fun c=>K (.lst z (At P e) n c)))
 |some (.array n e)=>Au (P.info? e).isSome (
  match x with
  |.ptr id off=>C7 (rdf id) fun c=>Au (decide (1<=n*At P e)&&decide (off+n*At P e<=c.length)&&Nat.beq (At P e) 1)<|Fl lo 0 fun l=>Fl hi n fun h=>Au (decide (l<=h)&&decide (h<=n)) (Aa (off+l*At P e) fun o=>Aa (h-l) fun n=>K (.view id (At P e) o n))
  |_=>none)
 |_=>none
def Pn (P:Program)(d:Nat)(t:TypeId)(x:PV)(lo hi mx:Option PV)(K:PV->List (Nat × A3)->Option R):Option R:=
 match P.underlying t with
 |some (.slice e)=>Au ((P.info? e).isSome&&hi.isSome) (
  match x with
  |.view _ es _ n=>Au (Nat.beq es (At P e)) (Fl lo 0 fun l=>Fl hi n fun h=>Fl mx n fun m=>Au (Nat.beq l m&&Nat.beq h m&&decide (m<=n)) (K (.view d (At P e) 0 0) [(d,.ar false [])]))
  |x=>Eu (At P e) x fun _ n _=>Fl lo 0 fun l=>Fl hi n fun h=>Fl mx n fun m=>Au (Nat.beq l m&&Nat.beq h m&&decide (m<=n)) (K (.view d (At P e) 0 0) [(d,.ar false [])]))
 |_=>none
def O3 (x:PV)(d:Nat)(K:PV->Option R):Option R:=
 match x with
 |.ptr id off=>K (.ptr id (off+d))
 |.iptr c off=>K (.iptr c (off+d))
 |_=>none
def Zf (P:Program)(e:TypeId):Bool:=(P.info? e).isSome
def Mj (P:Program)(t:TypeId)(f:Nat):Option (Nat × TypeId):=
 match P.underlying t with
 |some (.struct fs)=>(fs[f]?).map fun g=>(g.offset,g.type)
 |_=>none
def Ie (P:Program)(t:TypeId)(x:PV)(i:Int)(K:PV->Option R):Option R:=
 match P.underlying t with
 |some (.array n e)=>Au (Zf P e) (Au (decide (0<=i)&&decide (i<n)) (O3 x (i.toNat*At P e) K))
 |some (.slice e)=>Au (Zf P e) (
  match x with
  |.view id es off n=>Au (Nat.beq es (At P e)) (Au (decide (0<=i)&&decide (i<n)) (K (.ptr id (off+i.toNat*es))))
  |x=>Eu (At P e) x fun _ n c=>Au (decide (0<=i)&&decide (i<n)) (K (.iptr c (i.toNat*At P e))))
 |_=>none
def Q9 (P:Program)(rdf:Nat->Option (List PV)) (t:TypeId)(x:PV)(K:PV->Option R):Option R:=
 match x with
 |.ptr id off=>Au (G3 P t) (C7 (rdf id) fun c=>K4 (Gc P t) c off fun cs=>PC (Bc P t) cs K)
 |.iptr c off=>Au (G3 P t) (N8 (Gc P t) c off fun cs=>PC (Bc P t) cs K)
 |_=>none
def GJ:PV->PV
 |.lst _ es n c=>.lst false es n c
 |p=>p
def LQ:PV->PV
 |.agg cs=>.agg (cs.map GJ)
 |p=>GJ p
def R3 (nz:Bool)(P:Program)(rdf rdaf:Nat->Option (List PV)) (t:TypeId)(x:PV)(K:PV->Option R):Option R:=
 match x with
 |.ptr id off=>Au (G3 P t) (
  match rdaf id with
  |some c=>N8 (Gc P t) c off fun cs=>PC (Bc P t) cs fun v=>K (bif nz then v else LQ v)
  |none=>C7 (rdf id) fun c=>K4 (Gc P t) c off fun cs=>PC (Bc P t) cs K)
 |.iptr c off=>Au (G3 P t) (N8 (Gc P t) c off fun cs=>PC (Bc P t) cs fun v=>K (bif nz then v else LQ v))
 |_=>none
def Bd (cells new:List PV)(off:Nat):List PV:=cells.take off++new++cells.drop (off+new.length)
def okP:PV->Bool
 |.agg _=>true
 |.lst _ _ _ _=>true
 |.view _ _ _ _=>true
 |.sc (.int _ _)=>true
 |.sc (.bool _)=>true
 |.sc (.string _)=>true
 |.sc (.slice none 0 0)=>true
 |_=>false
def Pb (Fg:Nat->Option (Nat × Nat)):List (Nat × PV)->List PV->(List PV->Option R)->Option R
 |[],cells,K=>K cells
 |(i,p)::r,cells,K=>C7 (Fg i) fun q=>Au (okP p&&Nat.beq (cellsOf p).length q.2&&Nat.ble (q.1+q.2) cells.length) (Aa (Bd cells (cellsOf p) q.1) fun cells=>Pb Fg r cells K)
def M0 (P:Program)(t:TypeId)(i:Nat):Option (Nat × Nat):=
 match P.underlying t with
 |some (.struct fs)=>(fs[i]?).map fun f=>(f.offset,At P f.type)
 |some (.array _ e)=>some (i*At P e,At P e)
 |some (.slice e)=>some (i*At P e,At P e)
 |_=>none
def Md (P:Program)(t:TypeId):Bool:=
 match P.underlying t with
 |some (.struct fs)=>fs.toList.all fun f=>Zf P f.type
 |some (.array _ e)=>Zf P e
 |some (.slice e)=>Zf P e
 |_=>false
def Lt (P:Program)(t:TypeId):Option Value:=(P.info? t).bind (·.zero)
def Fu (P:Program)(t:TypeId)(K:List PV->Option R):Option R:=
 C7 (Lt P t) fun v=>Au (Nat.beq v.cells.toList.length (Gc P t).length&&G3 P t) (N8 (Gc P t) (v.cells.toList.map .sc) 0 K)
def M7 (P:Program)(t:TypeId):Bool:=
 match P.underlying t with
 |some (.array _ _)=>true
 |_=>false
def Aa7 (P:Program)(t:TypeId)(cells:List PV):A3:=bif M7 P t then .ar false cells else .st cells
def repl (n:Nat)(l:List PV):List PV:=(List.replicate n l).flatten
def Aem (a b:PV)(K:PV->Option R):Option R:=Cp a fun k x=>Ai k b fun y=>Aa (if y<x then y else x) fun n=>K (.sc (.int k n))
def Adk (a b:PV)(K:PV->Option R):Option R:=Cp a fun k x=>Ai k b fun y=>Aa (if x<y then y else x) fun n=>K (.sc (.int k n))
def RS (P:Program)(t:TypeId)(x:PV)(K:Nat->Option R):Option R:=
 match P.underlying t with
 |some .string=>En x fun s=>K s.size
 |some (.array n _)=>K n
 |some (.slice e)=>
  match x with
  |.view _ es _ n=>Au (Nat.beq es (At P e)) (K n)
  |x=>Eu (At P e) x fun _ n _=>K n
 |_=>none
end
abbrev Aj:=FuncId->List PV->Option Bb
section
variable {R:Type}
def Ha (P:Program)(ts:List TypeId):Bool:=ts.any fun t=>(S2 P t).isSome||(Gc P t).any fun c=>match c with | .sl _=>true|_=>false
def Vj (P:Program)(t:TypeId)(tm:Nat->PV)(x:Operand)(K:PV->Option R):Option R:=
 match x with
 |.const v=>cvK P t v K
 |x=>K (Bf tm x)
def FB (P:Program)(e:TypeId):Bool:=
 match P.info? e with
 |some i=>(match i.zero with|some z=>Nat.beq z.cells.size i.size|none=>false)
 |none=>false
def MD (P:Program)(rdaf:Nat->Option (List PV)) (es:Nat)(t:TypeId)(x:PV)(K:Nat->List PV->Option R):Option R:=
 match P.underlying t with
 |some .string=>Au (Nat.beq es 1) (En x fun b=>K b.size (Fd b))
 |some (.slice _)=>HZ rdaf es x K
 |_=>none
abbrev OD (P:Program)(s:St)(es:Nat)(t:TypeId)(x:PV)(K:Nat->List PV->Option R):Option R:=MD P (Hf s.hp) es t x K
def S6 (c:Call):Bool:=
 match c.args.toList with
 |.const (.slice none 0 0)::_=>true
 |_=>false
def Pu (P:Program)(rdaf:Nat->Option (List PV)) (d:Nat)(t tx:TypeId)(x:PV)(K:PV->List (Nat × A3)->Option R):Option R:=
 match P.underlying t with
 |some (.slice e)=>Au (FB P e) <|
  MD P rdaf (At P e) tx x fun m new=>
   Au (decide (new.length=m*At P e)&&decide (m*((P.info? e).map (·.bytes)).getD 0<=1099511627776)&&decide (m<=1099511627776)) (K (.view d (At P e) 0 m) [(d,.ar false new)])
 |_=>none
def Hd (k:Bool):List Operand->List PV->List PV
  |x::xs,p::ps=>
    (match x,p with
     |.const (.slice none 0 0),.lst z es 0 []=>.lst (k||z) es 0 []
     |_,p=>p)::Hd k xs ps
  |_,ps=>ps
def RR (P:Program)(t:TypeId)(x:PV)(K:Nat->Option R):Option R:=
 match P.underlying t with
 |some (.slice e)=>Eu (At P e) x fun z _ _=>Au z (K 0)
 |_=>none
def Zd (P:Program)(f:FuncId)(c:Call):List TypeId:=
 match P.funcs[f]? with
 |some fn=>fn.params.toList
 |none=>c.argTypes.toList
def Y5 (C:Fy)(P:Program)(N:Nat)(call:Aj)(tm:Nat->PV)(rdaf:Nat->Option (List PV)) (o:Oper)(c:Call)(f:FuncId)(K:PV->List Nat->List (Nat × A3)->Option R):Option R:=
 Ya P rdaf (Zd P f c) (c.args.toList.map (Bf tm)) fun vs m=>
  Ap (call f (Hd (C.kz f) c.args.toList vs)) fun rv ro=>Ae ro (Au (Nat.blt 0 N)<|Wc P (C.shr f) N (o.dst.getD 0) (J8 P o.type) rv fun ws bs=>
   Au (bif Lb P o.type then !Nat.beq ws.length 1 else Nat.beq ws.length 1)<|K (Kd ws (Lb P o.type)) (bif Ha P (J8 P o.type) then m else []) bs)
def X1 (C:Fy)(P:Program)(N:Nat)(call:Aj)(tm:Nat->PV)(rdf rdaf:Nat->Option (List PV)) (o:Oper)(K:PV->List Nat->List (Nat × A3)->Option R):Option R:=
  match o.op with
  |.move x=>Vj P o.type tm x fun p=>K p [] []
  |.assign x=>Vj P o.type tm x fun p=>K p [] []
  |.pick c a b=>A5 (Bf tm c) fun t=>Cg t (K (Bf tm a) [] []) (K (Bf tm b) [] [])
  |.alloc t=>C7 o.dst fun d=>Fu P t fun cs=>K (.ptr d 0) [] [(d,Aa7 P t cs)]
  |.box t x=>C7 o.dst fun d=>Au (G3 P t&&Nat.beq (cellsOf (Bf tm x)).length (Gc P t).length)
      (bif M7 P t then N8 (Gc P t) (cellsOf (Bf tm x)) 0 fun cs=>K (.ptr d 0) [] [(d,.ar false cs)]
       else K4 (Gc P t) (cellsOf (Bf tm x)) 0 fun cs=>K (.ptr d 0) [] [(d,.st cs)])
  |.build t ps=>Au (Md P t&&Bc P t)<|Fu P t fun z=>Pb (M0 P t) (ps.toList.map fun q=>(q.1,Bf tm q.2)) z fun cs=>K4 (Gc P t) cs 0 fun cs'=>K (.agg cs') [] []
  |.buildSlice t n ps=>C7 o.dst fun d=>
      match P.underlying t with
      |some (.slice e)=>Au (Md P t&&Nat.ble (n*At P e) 16777216) (Fu P e fun z=>Pb (M0 P t) (ps.toList.map fun q=>(q.1,Bf tm q.2)) (repl n z) fun cs=>
          Kb rdaf (List.replicate n (Gc P e)).flatten cs fun cs' m=>K (.view d (At P e) 0 n) m [(d,.ar false (bif C.nz N then HU true cs cs' else cs'))])
      |_=>none
  |.load t a=>R3 (C.nz N) P rdf rdaf t (Bf tm a) fun v=>K v [] []
  |.nilCheck x=>O3 (Bf tm x) 0 fun p=>K p [] []
  |.binOp op t x y _=>
      Py P op t (Bf tm x) (Bf tm y) fun v=>K v [] []
  |.unOp op _ x=>unK op (Bf tm x) fun v=>K v [] []
  |.convert src dst x=>Yt P rdaf (o.dst.getD 0) src dst (Bf tm x) fun v b=>C7 o.dst fun _=>K v [] b
  |.makeSlice t l c=>C7 o.dst fun d=>
      match P.underlying t with
      |some (.slice e)=>Cp (Bf tm l) fun _ n=>Cp (Bf tm c) fun _ m=>
          Au (decide (0<=n)&&decide (n<=m)&&decide (m*((P.info? e).map (·.bytes)).getD 0<=1099511627776)&&decide (m<=1099511627776))
            (Fu P e fun z=>K (.view d (At P e) 0 n.toNat) [] [(d,.ar false (repl n.toNat z))])
      |_=>none
  |.slice t x lo hi mx=>
      match mx with
      |none=>Uq P rdf t (Bf tm x) (lo.map (Bf tm)) (hi.map (Bf tm)) fun v=>K v [] []
      |some m=>C7 o.dst fun d=>Pn P d t (Bf tm x) (lo.map (Bf tm)) (hi.map (Bf tm)) (some (Bf tm m)) fun v nw=>K v [] nw
  |.fieldAddr t x f=>C7 (Mj P t f) fun q=>Au (Nat.ble 1 (At P q.2)) (O3 (Bf tm x) q.1 fun p=>K p [] [])
  |.field t x f=>C7 (Mj P t f) fun q=>Au (G3 P q.2)<|Fo (Bf tm x) fun cs=>K4 (Gc P q.2) cs q.1 fun c=>PC (Bc P q.2) c fun v=>K v [] []
  |.indexAddr t x i=>Cp (Bf tm i) fun _ n=>Ie P t (Bf tm x) n fun p=>K p [] []
  |.index t x i=>Cp (Bf tm i) fun _ n=>
      match P.underlying t with
      |some .string=>En (Bf tm x) fun s=>Au (decide (0<=n)) (C7 (s.data.toList[n.toNat]?) fun b=>K (.sc (.int .u8 b.toNat)) [] [])
      |some (.array len e)=>Fo (Bf tm x) fun cs=>Au (decide (0<=n)&&decide (n<len)&&G3 P e) (K4 (Gc P e) cs (n.toNat*At P e) fun c=>PC (Bc P e) c fun v=>K v [] [])
      |_=>none
  |.lookup t x k ok=>
      match P.underlying t with
      |some (.map kt vt)=>Au (match P.underlying kt with|some .string=>true|_=>false) (
        match Bf tm x with
        |.sc (.map none)=>En (Bf tm k) fun _=>C7 (Lt P vt) fun z=>cvK P vt z fun v=>Au (match v with | .tup _=>false|_=>true) (K (bif ok then .tup [v,.sc (.bool false)] else v) [] [])
        |_=>none)
      |_=>none
  |.extract x i=>
      match Bf tm x with
      |.tup vs=>C7 vs[i]? fun p=>K p [] []
      |_=>none
  |.call c=>
      match c.callee with
      |.builtin .len=>Ab c.args.toList fun x _=>Ab c.argTypes.toList fun t _=>RS P t (Bf tm x) fun n=>K (.sc (.int .i64 n)) [] []
      |.builtin .cap=>Ab c.args.toList fun x _=>Ab c.argTypes.toList fun t _=>RR P t (Bf tm x) fun n=>K (.sc (.int .i64 n)) [] []
      |.builtin .min=>Ab c.args.toList fun x r=>Ab r fun y r'=>Ae r' (Aem (Bf tm x) (Bf tm y) fun v=>K v [] [])
      |.builtin .max=>Ab c.args.toList fun x r=>Ab r fun y r'=>Ae r' (Adk (Bf tm x) (Bf tm y) fun v=>K v [] [])
      |.builtin .append=>Au (S6 c) (C7 o.dst fun d=>Ab c.args.toList fun _ r=>Ab r fun x r'=>Ae r' (Ab c.argTypes.toList fun t u=>Ab u fun tx _=>Pu P rdaf d t tx (Bf tm x) fun v nw=>K v [] nw))
      |.value (.func f)=>Y5 C P N call tm rdaf o c f K
      |.value (.tmp t)=>fvK (tm t) fun f=>Y5 C P N call tm rdaf o c f K
      |_=>none
  |_=>none
def Na (C:Fy)(P:Program)(o:Op):Bool:=
 match o with
 |.store .. =>true
 |.call c=>
  match c.callee with
  |.builtin .append=> !S6 c
  |.builtin .copy=>true
  |.builtin _=>false
  |.value (.func f)=>((Zd P f c).any fun t=>(S2 P t).isSome)||((Zd P f c).zipIdx.any fun q=>C.mvd f q.2||C.lnd f q.2)
  |_=>false
 |_=>false
def Pa (b:A3):A3:=
 match b with
 |.ar _ c=>.ar true c
 |b=>b
def Ac (hp:Nat->Option A3)(ids:List Nat):Nat->Option A3:=fun i=>bif ids.any (Nat.beq i) then (hp i).map Pa else hp i
def Al (hp:Nat->Option A3):List (Nat × A3)->Nat->Option A3
 |[]=>hp
 |(i,b)::r=>Al (Bu hp i (some b)) r
def A8 (hp:Nat->Option A3):List (Nat × A3)->Bool
 |[]=>true
 |(i,_)::r=>(hp i).isNone && !(r.any fun q=>Nat.beq q.1 i)&&A8 hp r
def A2 (tm:Nat->PV)(d:Option Tmp)(v:PV):Nat->PV:=
 match d with
 |some i=>Bu tm i v
 |none=>tm
def E6 (N:Nat)(d:Option Tmp):Bool:=
 match d with
 |some i=>Nat.blt i N
 |none=>true
def U9 (N:Nat)(s:St)(d:Option Tmp)(v:PV)(fz:List Nat)(nw:List (Nat × A3)) (K:St->Option R):Option R:=
 Au (E6 N d&&A8 s.hp nw) (K ⟨A2 s.tm d v,Al (Ac s.hp fz) nw⟩)
def Uh (P:Program)(s:St)(t:TypeId)(a x:PV)(K:St->Option R):Option R:=
 match a with
 |.ptr id off=>
  match s.hp id with
  |some (.st c)=>Au (G3 P t&&Nat.beq (cellsOf x).length (Gc P t).length&&decide (off+(Gc P t).length<=c.length)) (K4 (Gc P t) (cellsOf x) 0 fun cs=>Aa (Bd c cs off) fun c=>K ⟨s.tm,Bu s.hp id (some (.st c))⟩)
  |some (.ar false c)=>Au (G3 P t&&decide (off+(Gc P t).length<=c.length)) (Kb (Hf s.hp) (Gc P t) (cellsOf x) fun cs m=>Au (!m.any (Nat.beq id)) (Aa (Bd c cs off) fun c=>K ⟨s.tm,Bu (Ac s.hp m) id (some (.ar false c))⟩))
  |_=>none
 |_=>none
def Sb (P:Program)(t:TypeId):Bool:=
 match P.underlying t with
 |some (.int _)=>true
 |_=>false
def O5 (P:Program)(N:Nat)(s:St)(d:Nat)(e:TypeId)(b x:PV)(K:St->Option R):Option R:=
 Cp x fun _ n=>Eu (At P e) b fun z _ _=>
  Au (z&&Nat.blt d N&&(s.hp d).isNone&&decide (0<=n)&&decide (n.toNat*((P.info? e).map (·.bytes)).getD 0<=1099511627776)&&decide (n<=1099511627776))
   (K ⟨Bu s.tm d (.view d (At P e) 0 n.toNat),Bu s.hp d (some (.ar false []))⟩)
def La (P:Program)(N:Nat)(s:St)(d:Nat)(t tx:TypeId)(b x:PV)(K:St->Option R):Option R:=
 match P.underlying t with
 |some (.slice e)=>Au (FB P e) <|
  bif Sb P tx then O5 P N s d e b x K else
  OD P s (At P e) tx x fun m new=>
  match b with
  |.view id es off n=>
   match s.hp id with
   |some (.ar false c)=>
    Au (Nat.beq es (At P e)&&Nat.beq off 0&&Nat.blt d N&&(s.hp d).isNone&&decide (n*es<=c.length)&&decide (new.length=m*es)
     && decide ((n+m)*((P.info? e).map (·.bytes)).getD 0<=1099511627776)&&decide (n+m<=1099511627776))
     (Aa (n+m) fun n'=>Aa (c.take (n*es)++new) fun c=>K ⟨Bu s.tm d (.view d es 0 n'),Bu (Bu s.hp id (some .mv)) d (some (.ar false c))⟩)
   |_=>none
  |b=>Eu (At P e) b fun z _ _=>
    Au (z&&Nat.blt d N&&(s.hp d).isNone&&decide (new.length=m*At P e)&&decide (m*((P.info? e).map (·.bytes)).getD 0<=1099511627776)&&decide (m<=1099511627776))
     (K ⟨Bu s.tm d (.view d (At P e) 0 m),Bu s.hp d (some (.ar false new))⟩)
 |_=>none
def CU (P:Program)(N:Nat)(s:St)(d:Option Tmp)(t tx:TypeId)(b x:PV)(K:St->Option R):Option R:=
 match P.underlying t with
 |some (.slice e)=>Au (Zf P e&&E6 N d) <|
  OD P s (At P e) tx x fun m new=>
  match b with
  |.view id es off n=>
   match s.hp id with
   |some (.ar false c)=>Au (Nat.beq es (At P e)&&decide (off+n*es<=c.length)&&decide (new.length=m*es))
     (Aa (min m n) fun k=>Aa (Bd c (new.take (k*es)) off) fun c=>K ⟨A2 s.tm d (.sc (.int .i64 k)),Bu s.hp id (some (.ar false c))⟩)
   |_=>none
  |_=>none
 |_=>none
def SO (mv:Bool)(hp:Nat->Option A3)(t:CT)(p:PV)(K:PV->List Nat->List Nat->Option R):Option R:=
 match t with
 |.sl es=>
  bif mv then
   match p with
   |.view id es' off n=>
    match hp id with
    |some (.ar false c)=>
     bif Nat.beq es' es&&Nat.beq off 0 then Au (decide (n*es<=c.length)) (K (.own es n (c.take (n*es))) [] [id])
     else Kz (Hf hp) (.sl es) (.view id es' off n) fun c m=>K c m []
    |_=>Kz (Hf hp) (.sl es) (.view id es' off n) fun c m=>K c m []
   |p=>Eu es p fun z n c=>bif z then K (.own es 0 []) [] [] else K (.lst false es n c) [] []
  else Kz (Hf hp) (.sl es) p fun c m=>K c m []
 |t=>Ug t p fun c=>K c [] []
def Wb (mv:Bool)(hp:Nat->Option A3):List CT->List PV->(List PV->List Nat->List Nat->Option R)->Option R
 |[],[],K=>K [] [] []
 |t::ts,p::ps,K=>SO mv hp t p fun c m x=>Wb mv hp ts ps fun cs ms xs=>K (c::cs) (m++ms) (x++xs)
 |_,_,_=>none
inductive Fk where
 |var (id off:Nat) (cts:List CT) (ws:List PV)
 |row (id:Nat)
 |none
def Fk.ids:Fk->List Nat
 |.var id _ _ _=>[id]
 |.row id=>[id]
 |.none=>[]
def Aon (P:Program)(t:TypeId):Option TypeId:=
 match P.underlying t with
 |some (.slice e)=>some e
 |_=>none
def Abc (hp:Nat->Option A3)(es:Nat)(p:PV)(K:PV->List Fk->Option R):Option R:=
 match p with
 |.view id es' off n=>
  match hp id with
  |some (.ar false c)=>Au (Nat.beq es' es&&Nat.beq off 0) (K (.tup [.own es n c]) [.row id])
  |_=>none
 |p=>Eu es p fun z _ _=>Au z (K (.tup [.own es 0 []]) [.none])
def Us (C:Fy)(P:Program)(f:FuncId)(hp:Nat->Option A3)(i:Nat)(t:TypeId)(p:PV)(K:PV->List Nat->List Nat->List Fk->Option R):Option R:=
 match S2 P t with
 |some e=>
  match p with
  |.ptr id off=>
   match hp id with
   |some (.st c)=>Au (G3 P e&&decide (off+(Gc P e).length<=c.length)) (Wb (C.mvd f i) hp (Gc P e) ((c.drop off).take (Gc P e).length) fun cs m x=>K (.pbox cs) m x [.var id off (Gc P e) cs])
   |_=>none
  |_=>none
 |none=>
  bif C.lnd f i then C7 (Aon P t) fun e=>Abc hp (At P e) p fun v l=>K v [] [] l
  else bif Bc P t then Fo p fun ps=>Wb (C.mvd f i) hp (Gc P t) ps fun cs m x=>K (.agg cs) m x []
  else Wb (C.mvd f i) hp (Gc P t) [p] fun cs m x=>Ab cs fun c r=>Ae r (K c m x [])
def CS (C:Fy)(P:Program)(f:FuncId)(hp:Nat->Option A3):Nat->List TypeId->List PV->(List PV->List Nat->List Nat->List Fk->Option R)->Option R
 |_,[],[],K=>K [] [] [] []
 |i,t::ts,p::ps,K=>Us C P f hp i t p fun v m x l=>CS C P f hp (i+1) ts ps fun vs ms xs ls=>K (v::vs) (m++ms) (x++xs) (l++ls)
 |_,_,_,_=>none
def Pk (hp:Nat->Option A3)(ids:List Nat):Nat->Option A3:=fun i=>bif ids.any (Nat.beq i) then (hp i).map (fun _=>A3.mv) else hp i
def LF (N t:Nat):Nat:=N*(1000+t)
def IU (N:Nat)(hp:Nat->Option A3):Nat->Nat->Nat
 |0,t=>t
 |k+1,t=>bif (hp (LF N t)).isNone then t else IU N hp k (t+1)
def TK (N t:Nat)(ct:CT)(was p:PV)(K:Nat->PV->List (Nat × A3)->Option R):Option R:=
 match ct with
 |.sl es=>
  match was with
  |.own _ _ _=>Oc es p fun n c=>K (t+1) (.view (LF N t) es 0 n) [(LF N t,.ar false c)]
  |_=>Eu es p fun _ n c=>K t (.lst false es n c) []
 |ct=>Ug ct p fun c=>K t c []
def DE (N:Nat):Nat->List CT->List PV->List PV->(Nat->List PV->List (Nat × A3)->Option R)->Option R
 |t,[],[],ps,K=>Ae ps (K t [] [])
 |t,ct::cts,w::ws,ps,K=>Ab ps fun p ps=>TK N t ct w p fun t' c b=>DE N t' cts ws ps fun t'' cs bs=>K t'' (c::cs) (b++bs)
 |_,_,_,_,_=>none
def Rf (N:Nat):Nat->List Fk->List (List PV)->(Nat->Option A3)->((Nat->Option A3)->List (Nat × A3)->Option R)->Option R
 |_,[],ro,hp,K=>Ae ro (K hp [])
 |t,.var id off cts ws::l,ro,hp,K=>Ab ro fun cs ro=>DE N t cts ws cs fun t' cs' bs=>
   match hp id with
   |some (.st c)=>Aa (Bd c cs' off) fun c=>Rf N t' l ro (Bu hp id (some (.st c))) fun B4 bs'=>K B4 (bs++bs')
   |_=>none
 |t,.row id::l,ro,hp,K=>Ab ro fun cs ro=>Rf N t l ro (Bu hp id (some (.ar false cs))) K
 |t,.none::l,ro,hp,K=>Ab ro fun _ ro=>Rf N t l ro hp K
def C8:List Nat->Bool
 |[]=>true
 |a::r=> !(r.any (Nat.beq a))&&C8 r
def Uy (C:Fy)(P:Program)(N:Nat)(call:Aj)(s:St)(o:Oper)(f:FuncId)(c:Call)(K:St->Option R):Option R:=
 CS C P f s.hp 0 (Zd P f c) (c.args.toList.map (Bf s.tm)) fun vs m x l=>
  Au (C8 (l.flatMap Fk.ids++x)&&m.all (fun i=> !((l.flatMap Fk.ids++x).any (Nat.beq i)))&&Nat.blt 0 N&&E6 N o.dst) <|
  Ap (call f (Hd (C.kz f) c.args.toList vs)) fun rv ro=>
   Wc P (C.shr f) N (o.dst.getD N) (J8 P o.type) rv fun ws bs=>
    Au (bif Lb P o.type then !Nat.beq ws.length 1 else Nat.beq ws.length 1) <|
    Av8 (IU N s.hp 100 0) fun t0=>Rf N t0 l ro (Pk (Ac s.hp m) x) fun B4 bs'=>
     Au (A8 B4 (bs++bs')) (K ⟨A2 s.tm o.dst (Kd ws (Lb P o.type)),Al B4 (bs++bs')⟩)
def Qg (C:Fy)(P:Program)(N:Nat)(call:Aj)(s:St)(o:Oper)(K:St->Option R):Option R:=
 match o.op with
 |.store t a x=>Au (o.dst.isNone) (Uh P s t (Bf s.tm a) (Bf s.tm x) K)
 |.call c=>
  match c.callee with
  |.builtin .append=>C7 o.dst fun d=>Ab c.args.toList fun b r=>Ab r fun x r'=>Ae r' (Ab c.argTypes.toList fun t u=>Ab u fun tx _=>La P N s d t tx (Bf s.tm b) (Bf s.tm x) K)
  |.builtin .copy=>Ab c.args.toList fun b r=>Ab r fun x r'=>Ae r' (Ab c.argTypes.toList fun t u=>Ab u fun tx _=>CU P N s o.dst t tx (Bf s.tm b) (Bf s.tm x) K)
  |.value (.func f)=>Uy C P N call s o f c K
  |_=>none
 |_=>none
def JN (C:Fy)(P:Program)(N:Nat)(call:Aj)(o:Oper)(s:St)(K:St->Option R):Option R:=
 bif Na C P o.op then Qg C P N call s o K
 else X1 C P N call s.tm (rd s.hp) (Hf s.hp) o fun v fz nw=>U9 N s o.dst v fz nw K
def Cr (C:Fy)(P:Program)(N:Nat)(call:Aj)(ops:Array Oper)(o:Oper)(s:St)(K:St->Option R):Option R:=
 match o.guard with
 |none=>JN C P N call o s K
 |some (j,want)=>
  match (ops[j]?).bind (·.dst) with
  |none=>none
  |some d=>
   match s.tm d with
   |.sc (.bool b)=>
    Cg b (bif want then JN C P N call o ⟨Bu s.tm d (.sc (.bool true)),s.hp⟩ K else Au (E6 N o.dst) (K ⟨A2 (Bu s.tm d (.sc (.bool true))) o.dst (.sc undef),s.hp⟩))
     (bif want then Au (E6 N o.dst) (K ⟨A2 (Bu s.tm d (.sc (.bool false))) o.dst (.sc undef),s.hp⟩) else JN C P N call o ⟨Bu s.tm d (.sc (.bool false)),s.hp⟩ K)
   |.sc (.tuple _)=>Au (E6 N o.dst) (K ⟨A2 s.tm o.dst (.sc undef),s.hp⟩)
   |_=>none
def Kg (C:Fy)(P:Program)(N:Nat)(call:Aj)(ops:Array Oper):List Oper->St->(St->Option R)->Option R
 |[],s,K=>K s
 |o::r,s,K=>Cr C P N call ops o s fun s'=>Kg C P N call ops r s' K
noncomputable def V1 (x y:Option R):Option R:=open Classical in if x=y then x else none
noncomputable def MY (ops:Array Oper)(o:Oper)(s:St)(F:St->Option R):Option R:=
 match o.guard with
 |none=>F s
 |some (j,_)=>
  match (ops[j]?).bind (·.dst) with
  |none=>F s
  |some d=>
   match s.tm d with
   |.ub=>V1 (F ⟨Bu s.tm d (.sc (.bool true)),s.hp⟩) (F ⟨Bu s.tm d (.sc (.bool false)),s.hp⟩)
   |_=>F s
noncomputable def EO (C:Fy)(P:Program)(N:Nat)(call:Aj)(ops:Array Oper):List Oper->St->(St->Option R)->Option R
 |[],s,K=>K s
 |o::r,s,K=>MY ops o s fun s1=>Cr C P N call ops o s1 fun s'=>EO C P N call ops r s' K
end
def Abq (o:Oper):List Nat:=o.op.operands.toList.filterMap fun x=>match x with | .tmp t=>some t|_=>none
def C3 (ops:Array Oper)(o:Oper):List Nat:=
 Abq o++(match o.guard with|some (g,_)=>((ops[g]?).bind (·.dst)).toList|none=>[])
def F3 (P:Program)(o:Op):Bool:=
 match o with
 |.slice t .. =>match P.underlying t with|some (.array _ _)=>true|_=>false
 |.buildSlice t _ _=>match P.underlying t with|some (.slice e)=>Ha P [e]|_=>true
 |.convert _ dst _=>match P.underlying dst with|some .string=>true|_=>false
 |.alloc _ | .box .. | .makeSlice .. =>false
 |.move _ | .assign _ | .pick .. | .build .. | .binOp .. | .unOp .. | .fieldAddr .. | .field .. | .index .. | .indexAddr .. | .extract .. | .nilCheck _=>false
 |.call c=>match c.callee with | .builtin .len=>false | .builtin .min=>false | .builtin .max=>false|_=>true
 |_=>true
def Yj (C:Fy)(P:Program)(ops:Array Oper)(x y:Oper):Bool:=
 (match x.dst with|some d=>(C3 ops y).any (Nat.beq d)||(match y.dst with|some e=>Nat.beq d e|none=>false)|none=>false) ||
 (match y.dst with|some e=>(C3 ops x).any (Nat.beq e)|none=>false) ||
 (Na C P x.op&&F3 P y.op)||(Na C P y.op&&F3 P x.op)
def Gl (ops:List Oper):List Nat->List Nat
 |acc=>match ops with
  |[]=>acc
  |o::r=>Gl r (acc++[o.after.toList.foldl (fun s e=>bif Region.binds .any e then s ||| 2 ^ e.on ||| acc.getD e.on 0 else s) 0])
def Xh (C:Fy)(P:Program)(ops:Array Oper)(bs:List Nat):List Oper->Nat->Bool
 |[],_=>true
 |o::r,i=>(ops.toList.zipIdx.all fun q=> !Nat.blt q.2 i || !Yj C P ops q.1 o||(bs.getD i 0).testBit q.2)&&Xh C P ops bs r (i+1)
def DJ (C:Fy)(P:Program)(ops:Array Oper):Bool:=
 ops.toList.zipIdx.all (fun q=>q.1.after.toList.all fun e=> !Region.binds .any e||Nat.blt e.on q.2)&&Xh C P ops (Gl ops.toList []) ops.toList 0
def Ak:PV->List Nat
 |.view id _ _ _=>[id]
 |.ptr id _=>[id]
 |_=>[]
def Bn:PV->List Nat
 |.agg cs=>cs.flatMap Ak
 |p=>Ak p
def A9:PV->List Nat
 |.tup ps=>ps.flatMap Bn
 |p=>Bn p
def O0 (P:Program)(o:Op):Bool:=
 match o with
 |.load .. =>true
 |.convert _ dst _=>(match P.underlying dst with|some .string=>true|_=>false)
 |_=>false
def J9 (o:Op):Bool:=
 match o with
 |.call c=>(match c.callee with | .builtin .append=> !S6 c|_=>false)
 |_=>false
def Aaq (ops:Array Oper)(x y:Oper):Bool:=
 (match x.dst with|some d=>(C3 ops y).any (Nat.beq d)||(match y.dst with|some e=>Nat.beq d e|none=>false)|none=>false) ||
 (match y.dst with|some e=>(C3 ops x).any (Nat.beq e)|none=>false)
def Mz (C:Fy)(P:Program)(x y:Oper):Bool:=(Na C P x.op&&F3 P y.op)||(Na C P y.op&&F3 P x.op)
def Hr (C:Fy)(P:Program)(x y:Oper):Bool:=(Na C P x.op&&O0 P y.op)||(Na C P y.op&&O0 P x.op)||(J9 x.op&&J9 y.op)
def Abe (C:Fy)(P:Program)(ops:Array Oper)(x y:Oper):Bool:=Aaq ops x y||(Mz C P x y && !Hr C P x y)
def Tt (C:Fy)(P:Program)(ops:Array Oper)(bs:List Nat):List Oper->Nat->Bool
 |[],_=>true
 |o::r,i=>(ops.toList.zipIdx.all fun q=> !Nat.blt q.2 i || !Abe C P ops q.1 o||(bs.getD i 0).testBit q.2)&&Tt C P ops bs r (i+1)
def Y0 (C:Fy)(P:Program)(ops:Array Oper):Bool:=
 ops.toList.zipIdx.all (fun q=>q.1.after.toList.all fun e=> !Region.binds .any e||Nat.blt e.on q.2)&&Tt C P ops (Gl ops.toList []) ops.toList 0
def Jo (C:Fy)(P:Program)(s:St)(o:Oper):List Nat:=
 let l:=o.op.operands.toList.flatMap fun y=>A9 (Bf s.tm y)
 bif Na C P o.op && !J9 o.op then l++l.flatMap (fun i=>match s.hp i with|some (.st c)=>c.flatMap Ak|_=>[])
 else bif O0 P o.op||J9 o.op then l else []
def TN (a b:List Nat):Bool:=a.all fun i=> !b.any (Nat.beq i)
def R8 (C:Fy)(P:Program)(ops:Array Oper)(bs:List Nat)(i:Nat)(o:Oper):List Nat:=
 (ops.toList.zipIdx.filter fun q=>Hr C P q.1 o && !(Nat.blt q.2 i&&(bs.getD i 0).testBit q.2) && !(Nat.blt i q.2&&(bs.getD q.2 0).testBit i)).map (·.2)
def V3 (C:Fy)(P:Program)(ops:Array Oper)(bs:List Nat):List (List Nat):=ops.toList.zipIdx.map fun q=>R8 C P ops bs q.2 q.1
def Wp (C:Fy)(P:Program)(sm:List (List Nat)) (s:St)(i:Nat)(o:Oper):List Nat:=
 match sm.getD i [] with
 |[]=>[]
 |_::_=>Jo C P s o
def BC (C:Fy)(P:Program)(sm:List (List Nat)) (s:St)(i:Nat)(o:Oper)(q:Nat × Oper × List Nat):Bool:=
 !((sm.getD i []).any (Nat.beq q.1))||TN q.2.2 (Wp C P sm s i o)
def Ga {R:Type}(C:Fy)(P:Program)(N:Nat)(call:Aj)(ops:Array Oper)(sm:List (List Nat)):List (Nat × Oper × List Nat)->List Nat->St->(St->Option R)->Option R
 |_,[],s,K=>K s
 |dn,i::l,s,K=>C7 ops[i]? fun o=>Au (dn.all (BC C P sm s i o)&&(Wp C P sm s i o).all (fun k=>(s.hp k).isSome)) (Cr C P N call ops o s fun s'=>Ga C P N call ops sm ((i,o,Wp C P sm s i o)::dn) l s' K)
def ZA (m i:Nat):Nat:=m ||| 2 ^ i
def Auz (m i:Nat):Nat:=bif m.testBit i then m ^^^ 2 ^ i else m
def QO (ops:Array Oper):List Oper->Nat->Nat
 |[],m=>m
 |o::r,m=>
  let m1:=QO ops r m
  let m2:=match o.dst with|some d=>Auz m1 d|none=>m1
  (C3 ops o).foldl ZA m2
def K2:Code->Nat->(Nat->Nat)->Nat->Nat
 |.skip,ln,_,_=>ln
 |.region _ ops _,ln,_,_=>QO ops ops.toList ln
 |.seq a b,ln,lx,lr=>K2 a (K2 b ln lx lr) lx lr
 |.cond c a b,ln,lx,lr=>let m:=K2 a ln lx lr ||| K2 b ln lx lr;match c with | .tmp d=>ZA m d|_=>m
 |.block id c,ln,lx,lr=>K2 c ln (fun j=>bif Nat.beq j id then ln else lx j) lr
 |.loop c,_,lx,lr=>K2 c (K2 c 0 lx lr) lx lr
 |.exit id,_,lx,_=>lx id
 |.ret,_,_,lr=>lr
 |_,_,_,_=>0
def KV (ops:List Oper):List Nat:=(ops.filterMap fun o=>o.guard.map (·.1)).eraseDups
def Ir:Code->Nat
 |.region _ _ _=>1
 |.seq a b=>Ir a+Ir b
 |.cond _ a b=>Ir a+Ir b
 |.block _ c=>Ir c
 |.loop c=>Ir c
 |_=>0
def Ti:Code->Nat
 |.skip=>1
 |.region _ ops _=>2 ^ min 6 (KV ops.toList).length
 |.seq a b=>bif (Nat.ble 7 (Ti a)&&Nat.ble 6 (Ir b))||(Nat.ble 5 (Ti a)&&Nat.ble 9 (Ir b)) then Ti b else min 1000 (Ti a*Ti b)
 |.cond _ a b=>Ti a+Ti b
 |.block _ c=>Ti c
 |.loop _=>1
 |.exit _=>1
 |_=>0
def Agq (P:Program)(o:Oper):Bool:=
 match o.op with
 |.load t _=>M7 P t&&Nat.ble 8 (At P t)
 |.store t _ _=>M7 P t&&Nat.ble 8 (At P t)
 |_=>false
def HR (P:Program):Code->Bool
 |.region _ ops _=>ops.toList.any (Agq P)
 |.seq a _=>HR P a
 |_=>false
def OX (P:Program):Code->Bool
 |.region _ ops _=>ops.toList.any (Agq P)
 |.seq _ b=>OX P b
 |_=>false
def Adl (P:Program)(o:Oper):Bool:=
 match o.op with
 |.call _=> !M7 P o.type&&(Nat.beq (At P o.type) 8||Nat.ble 15 (At P o.type))
 |_=>false
def S9 (P:Program):Code->Bool
 |.region _ ops _=>ops.toList.any (Adl P)
 |.seq _ b=>S9 P b
 |.cond _ a b=>S9 P a||S9 P b
 |_=>false
def Am6:Code->Nat
 |.seq a b=>match b with
  |.ret=>(match a with | .region _ ops _=>(KV ops.toList).length|_=>0)
  |_=>Am6 b
 |_=>0
def ZK (x y:Code):Bool:=(Nat.beq (Ti x) 1&&Nat.beq (Am6 y) 11)||(Nat.beq (Ti x) 4&&Nat.beq (Ir x) 7&&(Nat.beq (Ir y) 3||Nat.beq (Ir y) 1))||(Nat.beq (Ti x) 9&&Nat.beq (Ir x) 5&&Nat.beq (Ir y) 5)
def Wx (a b:Code):Bool:=ZK a b||(match b with | .seq x y=>ZK x y|_=>false)
def Abz (P:Program)(a b:Code):Bool:=(Nat.ble 7 (Ti a)&&Nat.ble 6 (Ir b))||(Nat.ble 5 (Ti a)&&Nat.ble 9 (Ir b))||(Nat.beq (Ti a) 4&&Nat.beq (Ir a) 11&&Nat.beq (Ir b) 10)||Wx a b||HR P b||OX P a||S9 P a
def I8 (m:Nat):Nat->List Nat
 |0=>[]
 |n+1=>I8 m n++(bif m.testBit n then [n] else [])
def lk (l:List (Nat × PV)) (i:Nat):PV:=
 match l with
 |[]=>.top
 |(j,p)::r=>bif Nat.beq i j then p else lk r i
def Fw (l:List (Nat × A3)) (i:Nat):Option A3:=
 match l with
 |[]=>none
 |(j,b)::r=>bif Nat.beq i j then some b else Fw r i
def Qd (l:List (Nat × Nat)) (i:Nat):Option Nat:=
 match l with
 |[]=>none
 |(j,b)::r=>bif Nat.beq i j then some b else Qd r i
def Ww (N:Nat)(s:St)(i:Nat):St:=
 match s.tm i with
 |.lst true es 0 []=>
  bif (s.hp i).isNone then ⟨Bu s.tm i (.view i es 0 0),Bu s.hp i (some (.ar false []))⟩
  else bif (s.hp (i+N*3000)).isNone then ⟨Bu s.tm i (.view (i+N*3000) es 0 0),Bu s.hp (i+N*3000) (some (.ar false []))⟩
  else s
 |_=>s
def GI (N:Nat)(id:Nat)(s:St)(j:Nat):St:=
 match s.hp id with
 |some (.st c)=>
  match c[j]? with
  |some (.lst true es 0 [])=>bif (s.hp (id+N*(j+1))).isNone then ⟨s.tm,Bu (Bu s.hp id (some (.st (c.set j (.view (id+N*(j+1)) es 0 0))))) (id+N*(j+1)) (some (.ar false []))⟩ else s
  |_=>s
 |_=>s
def FZ (N:Nat)(s:St)(i:Nat):St:=
 match s.tm i with
 |.ptr id _=>
  match s.hp id with
  |some (.st c)=>(List.range c.length).foldl (GI N id) s
  |_=>s
 |_=>s
def BG (m:List (Nat × Nat)) (old new:Nat):List (Nat × Nat):=
 match Qd m old with
 |some _=>m
 |none=>m++[(old,new)]
def Nh (N new:Nat):List PV->Nat->List (Nat × Nat)->List (Nat × Nat)
 |[],_,m=>m
 |.view id _ _ _::r,j,m=>Nh N new r (j+1) (BG m id (new+N*(j+1)))
 |_::r,j,m=>Nh N new r (j+1) m
def Xg (N:Nat)(s:St)(m:List (Nat × Nat)) (i:Nat):List (Nat × Nat):=
 match s.tm i with
 |.view id _ _ _=>BG m id i
 |.ptr id _=>
  match Qd m id with
  |some _=>m
  |none=>
   match s.hp id with
   |some (.st c)=>Nh N i c 0 (BG m id i)
   |_=>BG m id i
 |.agg c=>Nh N i c 0 m
 |_=>m
def NN (m:List (Nat × Nat)):PV->PV
 |.view id es off n=>match Qd m id with|some j=>.view j es off n|none=>.top
 |.ptr id off=>match Qd m id with|some j=>.ptr j off|none=>.top
 |.sc v=>.sc v
 |.lst z es n c=>.lst z es n c
 |.iptr c off=>.iptr c off
 |_=>.top
def SD (m:List (Nat × Nat)):PV->PV
 |.agg c=>.agg (c.map (NN m))
 |p=>NN m p
def Aeu (m:List (Nat × Nat)):A3->A3
 |.st c=>.st (c.map (NN m))
 |b=>b
def Cj (N i:Nat):Nat:=i+N*2000
def KN (N:Nat)(hp:Nat->Option A3):Nat->List (Nat × Nat)
 |0=>[]
 |i+1=>bif (hp (Cj N i)).isSome then KN N hp i++[(Cj N i,Cj N i)] else KN N hp i
def Om (N:Nat)(hp:Nat->Option A3):Nat->List (Nat × Nat)->List (Nat × Nat)
 |0,m=>m
 |i+1,m=>
  match hp (Cj N i) with
  |some (.st c)=>Nh N (Cj N i) c 0 (Om N hp i m)
  |_=>Om N hp i m
def Awo (N:Nat)(hp:Nat->Option A3)(k:Nat):List (Nat × Nat):=Om N hp k (KN N hp k)
def Jj (m:List (Nat × Nat)) (hp:Nat->Option A3):List (Nat × Nat)->List (Nat × A3)
 |[]=>[]
 |(old,new)::r=>match hp old with
  |some b=>(new,Aeu m b)::Jj m hp r
  |none=>Jj m hp r
section
variable {R:Type}
def QG (N:Nat)(ls:List Nat)(q:Bool)(s:St)(K:St->Option R):Option R:=
 let s2:=bif q then s else ls.foldl (FZ N) (ls.foldl (Ww N) s)
 let m:=ls.foldl (Xg N s2) (Awo N s2.hp 8)
 Au (C8 (m.map (·.1))&&C8 (m.map (·.2))) (K ⟨lk (ls.map fun i=>(i,SD m (s2.tm i))),Fw (Jj m s2.hp m)⟩)
def Sx (N L:Nat)(s:St)(K:St->Option R):Option R:=QG N (I8 L N) false s K
def QL (N L:Nat)(s:St)(K:St->Option R):Option R:=QG N (I8 L N) true s K
def Aa3 (F:(St->Option R)->St->Option R) (nm:St->(St->Option R)->Option R):Nat->St->Option R
 |0,_=>none
 |n+1,s=>F (fun s'=>nm s' (Aa3 F nm n)) s
def Zs (n:Nat)(F:St->Option R)(s:St):Option R:=
 match n with
 |0=>none
 |_+1=>F s
noncomputable def ZV (s:St)(c:Operand)(kt kf:St->Option R):Option R:=
 match c with
 |.tmp d=>
  match s.tm d with
  |.sc (.bool b)=>Cg b (kt ⟨Bu s.tm d (.sc (.bool true)),s.hp⟩) (kf ⟨Bu s.tm d (.sc (.bool false)),s.hp⟩)
  |.ub=>V1 (kt s) (kf s)
  |_=>none
 |.const (.bool true)=>kt s
 |.const (.bool false)=>kf s
 |_=>none
noncomputable def Ly (C:Fy)(P:Program)(fu N:Nat)(call:Aj):Code->Nat->(Nat->Nat)->Nat->(St->Option R)->(Nat->St->Option R)->(St->Option R)->St->Option R
 |.skip,_,_,_,kn,_,_,s=>kn s
 |.region _ ops draw,_,_,_,kn,_,_,s=>JB (draw && !DJ C P ops) (Au (Y0 C P ops) (Af8 (V3 C P ops (Gl ops.toList [])) fun sm=>Ga C P N call ops sm [] (List.range ops.size) s kn)) (JB draw (Kg C P N call ops ops.toList s kn) (EO C P N call ops ops.toList s kn))
 |.seq a b,ln,lx,lr,kn,kx,kr,s=>Ly C P fu N call a (K2 b ln lx lr) lx lr (fun s'=>JB (Abz P a b) (JB (Wx a b) (QL N (K2 b ln lx lr) s' (Zs fu fun s''=>Ly C P fu N call b ln lx lr kn kx kr s'')) (Sx N (K2 b ln lx lr) s' (Zs fu fun s''=>Ly C P fu N call b ln lx lr kn kx kr s''))) (Ly C P fu N call b ln lx lr kn kx kr s')) kx kr s
 |.cond c a b,ln,lx,lr,kn,kx,kr,s=>ZV s c (Ly C P fu N call a ln lx lr kn kx kr) (Ly C P fu N call b ln lx lr kn kx kr)
 |.block id c,ln,lx,lr,kn,kx,kr,s=>Ly C P fu N call c ln (fun j=>bif Nat.beq j id then ln else lx j) lr kn (fun j s'=>bif Nat.beq j id then kn s' else kx j s') kr s
 |.loop c,ln,lx,lr,_,kx,kr,s=>
  Sx N (K2 (.loop c) ln lx lr) s (Aa3 (fun k s'=>Ly C P fu N call c (K2 (.loop c) ln lx lr) lx lr k kx kr s') (Sx N (K2 (.loop c) ln lx lr)) fu)
 |.exit id,_,_,_,_,kx,_,s=>kx id s
 |.ret,_,_,_,_,_,kr,s=>kr s
 |_,_,_,_,_,_,_,_=>none
def WU (id:Nat)(t:CT)(p:PV)(K:PV->List (Nat × A3)->Option R):Option R:=
 match t with
 |.sl es=>
  match p with
  |.own es' n c=>bif Nat.beq es' es then K (.view id es 0 n) [(id,.ar false c)] else none
  |p=>Eu es p fun z n c=>K (.lst z es n c) []
 |t=>Ug t p fun c=>K c []
def V5 (N:Nat):Nat->List CT->List PV->(List PV->List (Nat × A3)->Option R)->Option R
 |_,[],ps,K=>Ae ps (K [] [])
 |id,t::ts,ps,K=>Ab ps fun p ps=>WU id t p fun c b=>V5 N (id+N) ts ps fun cs bs=>K (c::cs) (b++bs)
def inK (P:Program)(N i:Nat)(t:TypeId)(p:PV)(K:PV->List (Nat × A3)->Option R):Option R:=
 match S2 P t with
 |some e=>Qv p fun ps=>Au (Nat.blt i 8) (V5 N (Cj N i+N) (Gc P e) ps fun cs bs=>K (.ptr (Cj N i) 0) ((Cj N i,.st cs)::bs))
 |none=>
  match p with
  |.tup ps=>C7 (Aon P t) fun e=>Au (Nat.blt i 8) (Ab ps fun q r=>Ae r (Oc (At P e) q fun n c=>K (.view (Cj N i) (At P e) 0 n) [(Cj N i,.ar false c)]))
  |p=>
   bif Bc P t then Fo p fun ps=>V5 N (i+N) (Gc P t) ps fun cs bs=>K (.agg cs) bs
   else V5 N (i+N) (Gc P t) [p] fun cs bs=>Ab cs fun c r=>Ae r (K c bs)
def WX (P:Program)(N:Nat):Nat->List TypeId->List PV->(List (Nat × PV)->List (Nat × A3)->Option R)->Option R
 |_,[],ps,K=>Ae ps (K [] [])
 |i,t::ts,ps,K=>Ab ps fun p ps=>inK P N i t p fun v bs=>WX P N (i+1) ts ps fun vs bs'=>K ((i,v)::vs) (bs++bs')
def Agj (hp:Nat->Option A3)(t:CT)(p:PV)(K:PV->List Nat->List Nat->Option R):Option R:=
  match t with
  |.sl es=>
    match p with
    |.view id es' off n=>bif Nat.beq es' es&&Nat.beq off 0 then
        (match hp id with
         |some (.ar false c)=>Au (decide (n*es<=c.length)) (K (.own es n (c.take (n*es))) [id] [])
         |_=>none) else none
    |p=>Eu es p fun z _ _=>Au z (K (.own es 0 []) [] [])
  |t=>Ug t p fun c=>K c [] []
def PG (shr:Bool)(hp:Nat->Option A3)(t:CT)(p:PV)(K:PV->List Nat->List Nat->Option R):Option R:=
 bif shr then Kz (Hf hp) t p fun c m=>K c [] m else Agj hp t p K
def Ul (shr:Bool)(hp:Nat->Option A3):List CT->List PV->(List PV->List Nat->List Nat->Option R)->Option R
 |[],[],K=>K [] [] []
 |t::ts,p::ps,K=>PG shr hp t p fun c m z=>Ul shr hp ts ps fun cs ms zs=>K (c::cs) (m++ms) (z++zs)
 |_,_,_=>none
def Abg (P:Program)(shr:Bool)(hp:Nat->Option A3)(t:TypeId)(p:PV)(K:PV->List Nat->List Nat->Option R):Option R:=
 match S2 P t with
 |some e=>
  match p with
  |.ptr id off=>
   match hp id with
   |some (.st c)=>Au (Nat.beq off 0) (Ul shr hp (Gc P e) c fun cs m z=>K (.pbox cs) (id::m) z)
   |_=>none
  |_=>none
 |none=>
  bif Bc P t then Fo p fun ps=>Ul shr hp (Gc P t) ps fun cs m z=>K (.agg cs) m z
  else Ul shr hp (Gc P t) [p] fun cs m z=>Ab cs fun c r=>Ae r (K c m z)
def Abf (P:Program)(s:St)(r:ResultVar)(K:PV->Option R):Option R:=
 match r with
 |.tmp t=>K (s.tm t)
 |.cell a t=>R3 false P (rd s.hp) (Hf s.hp) t (s.tm a) K
def EY (P:Program)(shr:Bool)(s:St):List ResultVar->List TypeId->(List PV->List Nat->List Nat->Option R)->Option R
 |[],[],K=>K [] [] []
 |r::rs,t::ts,K=>Abf P s r fun p=>Abg P shr s.hp t p fun v m z=>EY P shr s rs ts fun vs ms zs=>K (v::vs) (m++ms) (z++zs)
 |_,_,_=>none
def W9 (hp:Nat->Option A3):List CT->List PV->List PV->(List PV->List Nat->List Nat->Option R)->Option R
 |[],[],[],K=>K [] [] []
 |t::ts,w::ws,p::ps,K=>PG (match w with | .own _ _ _=>false|_=>true) hp t p fun c m z=>W9 hp ts ws ps fun cs ms zs=>K (c::cs) (m++ms) (z++zs)
 |_,_,_,_=>none
def Vg (P:Program)(N:Nat)(hp:Nat->Option A3):Nat->List TypeId->List PV->(List (List PV)->List Nat->List Nat->List Nat->Option R)->Option R
 |_,[],ps,K=>Ae ps (K [] [] [] [])
 |i,t::ts,ps,K=>Ab ps fun p ps=>
  match p with
  |.pbox ws=>C7 (S2 P t) fun e=>
    match hp (Cj N i) with
    |some (.st c)=>W9 hp (Gc P e) ws c fun cs m z=>Vg P N hp (i+1) ts ps fun r m' z' q=>K (cs::r) (m++m') (z++z') (Cj N i::q)
    |_=>none
  |.tup _=>
    match hp (Cj N i) with
    |some (.ar false c)=>Vg P N hp (i+1) ts ps fun r m' z' q=>K (c::r) m' z' (Cj N i::q)
    |_=>none
  |_=>Vg P N hp (i+1) ts ps K
def PR (rs:List ResultVar):Nat:=rs.foldl (fun m r=>match r with | .tmp t=>ZA m t | .cell a _=>ZA m a) 0
end
def Yu (P:Program):Nat->List TypeId->Nat->Nat
 |_,[],m=>m
 |i,t::ts,m=>Yu P (i+1) ts (match P.underlying t with|some (.pointer _)=>ZA m i|_=>m)
def UB (C:Fy)(P:Program)(f:FuncId)(fn:Func)(args:List PV)(s:St):Option Bb:=
 EY P (C.shr f) s fn.results.toList fn.resultTypes.toList fun vs m z=>Vg P fn.ntmps s.hp 0 fn.params.toList args fun os m' z' q=>
  Au (C8 ((m++m')++q)&&(z++z').all (fun i=> !(((m++m')++q).any (Nat.beq i)))) (some ⟨vs,os⟩)
noncomputable def Aki (C:Fy)(P:Program)(fu:Nat)(call:Aj)(f:FuncId)(fn:Func)(c:Code)(args:List PV):Option Bb:=
  WX P fn.ntmps 0 fn.params.toList args fun tms bs=>Au (Nat.ble args.length fn.ntmps&&A8 (fun _=>none) bs)
    (let lr:=Yu P 0 fn.params.toList (PR fn.results.toList)
     Ly C P fu fn.ntmps call c lr (fun _=>0) lr (UB C P f fn args) (fun _ _=>none) (UB C P f fn args) ⟨lk tms,Fw bs⟩)
noncomputable def Af (C:Fy)(P:Program)(fu:Nat):Nat->FuncId->List PV->Option Bb
 |0,_,_=>none
 |d+1,f,args=>
  match C.ext f with
  |some g=>g args
  |none=>
   match P.funcs[f]? with
   |none=>none
   |some fn=>match fn.body with
    |none=>none
    |some c=>Aki C.core P fu (Af C P fu d) f fn c args
inductive Dir where
 |l
 |r
 |i (m:Nat)
section
variable {R:Type}
noncomputable def Rh (C:Fy)(P:Program)(fu N:Nat)(call:Aj):List Dir->Code->Nat->(Nat->Nat)->Nat->(St->Option R)->(Nat->St->Option R)->(St->Option R)->Nat->St->Option R
 |[],.seq _ b,ln,lx,lr,kn,kx,kr,n,s=>Zs n (fun s''=>Ly C P fu N call b ln lx lr kn kx kr s'') s
 |[],.loop c,ln,lx,lr,_,kx,kr,n,s=>Aa3 (fun k s'=>Ly C P fu N call c (K2 (.loop c) ln lx lr) lx lr k kx kr s') (Sx N (K2 (.loop c) ln lx lr)) n s
 |.l::p,.seq a b,ln,lx,lr,kn,kx,kr,n,s=>Rh C P fu N call p a (K2 b ln lx lr) lx lr (fun s'=>JB (Abz P a b) (JB (Wx a b) (QL N (K2 b ln lx lr) s' (Zs fu fun s''=>Ly C P fu N call b ln lx lr kn kx kr s'')) (Sx N (K2 b ln lx lr) s' (Zs fu fun s''=>Ly C P fu N call b ln lx lr kn kx kr s''))) (Ly C P fu N call b ln lx lr kn kx kr s')) kx kr n s
 |.r::p,.seq _ b,ln,lx,lr,kn,kx,kr,n,s=>Rh C P fu N call p b ln lx lr kn kx kr n s
 |.l::p,.cond _ a _,ln,lx,lr,kn,kx,kr,n,s=>Rh C P fu N call p a ln lx lr kn kx kr n s
 |.r::p,.cond _ _ b,ln,lx,lr,kn,kx,kr,n,s=>Rh C P fu N call p b ln lx lr kn kx kr n s
 |.l::p,.block id c,ln,lx,lr,kn,kx,kr,n,s=>Rh C P fu N call p c ln (fun j=>bif Nat.beq j id then ln else lx j) lr kn (fun j s'=>bif Nat.beq j id then kn s' else kx j s') kr n s
 |.i m::p,.loop c,ln,lx,lr,_,kx,kr,n,s=>
  Rh C P fu N call p c (K2 (.loop c) ln lx lr) lx lr
   (fun s'=>Sx N (K2 (.loop c) ln lx lr) s' (Aa3 (fun k s'=>Ly C P fu N call c (K2 (.loop c) ln lx lr) lx lr k kx kr s') (Sx N (K2 (.loop c) ln lx lr)) m)) kx kr n s
 |_,_,_,_,_,_,_,_,_,_=>none
end
noncomputable def Cw (C:Fy)(P:Program)(fu:Nat)(call:Aj)(f:FuncId)(fn:Func)(c:Code)(args:List PV)(p:List Dir)(n:Nat)(s:St):Option Bb:=
 let lr:=Yu P 0 fn.params.toList (PR fn.results.toList)
 Rh C P fu fn.ntmps call p c lr (fun _=>0) lr (UB C P f fn args) (fun _ _=>none) (UB C P f fn args) n s
def Aff:List Nat:=[
 1000000]
def Ajy:List Nat:=[
 6,
 27,
 11,
 18,
 16,
 8,
 40,
 20,
 19,
 17,
 1000000]
def Ahx:List Nat:=[
 35,
 51,
 62,
 63,
 64,
 65,
 66,
 67,
 68,
 69,
 1000000]
def Acs:List Nat:=[
 46,
 1000000]
def Ako:List Nat:=[
 46,
 1000000]
def Oe (args:List PV):Option Bb:=
  match args with
  |[.lst _ 1 n c,.lst _ 1 m c']=>bif Nat.beq c.length n&&Nat.beq c'.length m then
      (match bytesOf c,bytesOf c' with
       |some a,some b=>some ⟨[.sc (.int .i64 (Lib.compareBytes a b))],[]⟩
       |_,_=>none) else none
  |_=>none
def Tk:List Nat:=[
 75,
 50,
 60,
 61,
 59,
 49,
 33,
 81,
 73,
 56,
 45,
 47,
 31,
 30,
 14,
 43,
 23,
 37,
 32,
 55,
 48,
 1000000]
def Avy:List Nat:=[
 88,
 1000000]
def CB:Fy:=⟨fun f=>Ajy.any (Nat.beq f),fun f i=>Nat.beq i 0&&Ako.any (Nat.beq f),fun f i=>(Nat.beq i 0&&Ahx.any (Nat.beq f))||(Nat.beq i 2&&Acs.any (Nat.beq f)),fun f=>Aff.any (Nat.beq f),fun _=>none,fun N=>Avy.any (Nat.beq N)⟩
def CX (xs:FuncId->Option (List PV->Option Bb)):Fy:={ CB with ext:=fun f=>bif Tk.any (Nat.beq f) then none else xs f }
def Bz (f:Func):Code:=match f.body with|some c=>c|none=>.skip
section
variable {R:Type} {r:Option R}
theorem B5 {k:IntKind}{p:PV}{K:Int->Option R}{n:Int}(h:p=.sc (.int k n)) (hk:K n=r):Ai k p K=r:=by
 subst h;unfold Ai;simp[hk]
theorem Aqx {p:PV}{K:IntKind->Int->Option R}{k:IntKind}{n:Int}(h:p=.sc (.int k n)) (hk:K k n=r):Cp p K=r:=by
 subst h;exact hk
theorem Br {p:PV}{K:Bool->Option R}{b:Bool}(h:p=.sc (.bool b)) (hk:K b=r):A5 p K=r:=by
 subst h;exact hk
theorem Ck {p:PV}{K:ByteArray->Option R}{s:ByteArray}(h:p=.sc (.string s)) (hk:K s=r):En p K=r:=by
 subst h;exact hk
theorem Du {es:Nat}{p:PV}{K:Bool->Nat->List PV->Option R}{z:Bool}{n:Nat}{c:List PV}(h:p=.lst z es n c)(hk:K z n c=r):Eu es p K=r:=by
 subst h;unfold Eu;simp[Nat.beq_refl,hk]
theorem Da {es:Nat}{p:PV}{K:Nat->List PV->Option R}{n:Nat}{c:List PV}(h:p=.own es n c)(hk:K n c=r):Oc es p K=r:=by
 subst h;unfold Oc;simp[Nat.beq_refl,hk]
theorem B8 {b:Bool}{K:Option R}(h:b=true)(hk:K=r):Au b K=r:=by
 subst h;exact hk
theorem B9 {b:Bool}{x y:Option R}(h:b=true)(hx:x=r):Cg b x y=r:=by
 subst h;exact hx
theorem B6 {b:Bool}{x y:Option R}(h:b=false)(hx:y=r):Cg b x y=r:=by
 subst h;exact hx
theorem Cn {α:Type}{o:Option α}{K:α->Option R}{a:α}(h:o=some a)(hk:K a=r):C7 o K=r:=by
 subst h;exact hk
theorem Bi {α:Type}{l:List α}{K:α->List α->Option R}{a:α}{t:List α}(h:l=a::t)(hk:K a t=r):Ab l K=r:=by
 subst h;exact hk
theorem B7 {α:Type}{l:List α}{K:Option R}(h:l=[]) (hk:K=r):Ae l K=r:=by
 subst h;exact hk
theorem Ch {p:PV}{K:List PV->Option R}{c:List PV}(h:p=.agg c)(hk:K c=r):Fo p K=r:=by
 subst h;exact hk
theorem Bw {p:PV}{K:List PV->Option R}{c:List PV}(h:p=.pbox c)(hk:K c=r):Qv p K=r:=by
 subst h;exact hk
theorem Bj {o:Option Bb}{K:List PV->List (List PV)->Option R} {v:List PV}{q:List (List PV)} (h:o=some ⟨v,q⟩)(hk:K v q=r):Ap o K=r:=by
 subst h;exact hk
end
theorem RY (a b:Int):(a==b)=decide (a=b):=by by_cases h:a=b<;>simp[h]
section
variable {R:Type}
theorem QT (v:List PV)(o:List (List PV)) (K:List PV->List (List PV)->Option R):Ap (some ⟨v,o⟩) K=K v o:=by exact id rfl
theorem YG {α:Type}(K:Option R):Ae ([]:List α) K=K:=by exact id rfl
theorem PD {α:Type}(a:α)(r:List α)(K:α->List α->Option R):Ab (a::r) K=K a r:=by exact id rfl
theorem QV (b:Bool)(K:Bool->Option R):A5 (.sc (.bool b)) K=K b:=by exact id rfl
theorem ZH (s:ByteArray)(K:ByteArray->Option R):En (.sc (.string s)) K=K s:=by exact id rfl
theorem FT (k:IntKind)(n:Int)(K:Int->Option R):Ai k (.sc (.int k n)) K=K n:=by unfold Ai;simp
theorem Abi (k:IntKind)(n:Int)(K:IntKind->Int->Option R):Cp (.sc (.int k n)) K=K k n:=by exact id rfl
theorem Age (z:Bool)(es n:Nat)(c:List PV)(K:Bool->Nat->List PV->Option R):Eu es (.lst z es n c) K=K z n c:=by unfold Eu;simp
theorem Agl (es n:Nat)(c:List PV)(K:Nat->List PV->Option R):Oc es (.own es n c) K=K n c:=by unfold Oc;simp
theorem Abh (c:List PV)(K:List PV->Option R):Fo (.agg c) K=K c:=by exact id rfl
theorem OS (c:List PV)(K:List PV->Option R):Qv (.pbox c) K=K c:=by exact id rfl
theorem Aal {α:Type}(a:α)(K:α->Option R):C7 (some a) K=K a:=by exact id rfl
theorem Ip {α:Type}(a:α)(K:α->Option R):Aa a K=K a:=by exact id rfl
theorem YW (K:Option R):Au true K=K:=by exact id rfl
theorem Xi (p:Prop) [Decidable p] (K:Option R)(h:p):Au (decide p) K=K:=by simp[Au,h]
theorem PW (b c:Bool)(K:Option R):Au (b&&c) K=Au b (Au c K):=by cases b<;>rfl
theorem ZS (x y:Option R):Cg true x y=x:=by exact id rfl
theorem Aaz (x y:Option R):Cg false x y=y:=by exact id rfl
theorem Y1 (p:Prop) [Decidable p] (x y:Option R)(h:p):Cg (decide p) x y=x:=by simp[Cg,h]
theorem Rg (p:Prop) [Decidable p] (x y:Option R)(h:¬p):Cg (decide p) x y=y:=by simp[Cg,h]
theorem Akp (p:Prop) [Decidable p] (x y:Option R):Cg (decide p) x y=if p then x else y:=by by_cases h:p<;>simp[Cg,h]
theorem OO (a b:Int)(x y:Option R):Cg (a==b) x y=if a=b then x else y:=by
 rw[RY,Akp]
theorem QP (x:Option R):V1 x x=x:=by unfold V1;simp
end
theorem wrap_i64 {x:Int}(h1: -9223372036854775808<=x)(h2:x<=9223372036854775807):IntKind.wrap .i64 x=x:=by
 have:=IntWalk.i64_in x (by omega)
 exact this
theorem Dq {x:Int}(h1:0<=x)(h2:x<=18446744073709551615):IntKind.wrap .u64 x=x:=by
 simp only[IntKind.wrap,IntKind.signed,IntKind.bits];simp;omega
theorem Yy (x:Int):0<=IntKind.wrap .u64 x∧IntKind.wrap .u64 x<=18446744073709551615:=by
 simp only[IntKind.wrap,IntKind.signed,IntKind.bits];simp;omega
theorem Fj {α:Type}{l r:List α}{x:α}{i:Nat}(h:l.drop i=x::r):i<l.length∧l[i]?=some x∧l.drop (i+1)=r:=by
 have h1:i<l.length:=by
  rcases Nat.lt_or_ge i l.length with h1|h1
  ·exact h1
  ·rw[List.drop_of_length_le h1] at h;cases h
 rw[List.drop_eq_getElem_cons h1] at h;injection h with h2 h3;exact⟨h1,by rw[List.getElem?_eq_getElem h1,h2],h3⟩
theorem drop_nil {α:Type}{l:List α}{i:Nat}(h:l.drop i=[]):l.length<=i:=by
 have:=congrArg List.length h;simp at this;omega
section
variable {α:Type} {f:α->List PV} {k:Nat}
theorem Y3 (hf:∀x,(f x).length=k):∀(l:List α),(l.flatMap f).length=l.length*k
 |[]=>by simp
 |x::l=>by simp[hf x,Y3 hf l,Nat.succ_mul];omega
theorem Sv (hf:∀x,(f x).length=k):∀(l:List α)(i:Nat),(l.flatMap f).drop (i*k)=(l.drop i).flatMap f
 |l,0=>by simp
 |[],i+1=>by simp
 |x::l,i+1=>by
  rw[List.flatMap_cons,Nat.succ_mul,Nat.add_comm,←List.drop_drop,List.drop_append_of_le_length (by rw[hf x];omega)]
  rw[show (f x).drop k=[] from List.drop_of_length_le (by rw[hf x];omega),List.nil_append]
  exact Sv hf l i
theorem Xc (hf:∀x,(f x).length=k):∀(l:List α)(i:Nat),(l.flatMap f).take (i*k)=(l.take i).flatMap f
 |l,0=>by simp
 |[],i+1=>by simp
 |x::l,i+1=>by
  rw[List.flatMap_cons,Nat.succ_mul,Nat.add_comm,List.take_succ_cons,List.flatMap_cons,←Xc hf l i];rw[show k+i*k=(f x).length+i*k by rw[hf x],List.take_length_add_append]
theorem CO (hf:∀x,(f x).length=k) {l:List α}{i:Nat}{x:α}(h:l[i]?=some x) {j:Nat}(hj:j<k):(l.flatMap f).getD (i*k+j) .top=(f x).getD j .top:=by
 have h1:((l.flatMap f).drop (i*k))[j]?=(l.flatMap f)[i*k+j]?:=List.getElem?_drop;rw[Sv hf] at h1
 have h2:i<l.length:=by
  rcases Nat.lt_or_ge i l.length with h1|h1
  ·exact h1
  ·rw[List.getElem?_eq_none h1] at h;cases h
 rw[List.drop_eq_getElem_cons h2,List.flatMap_cons] at h1;have h3:l[i]=x:=by rw[List.getElem?_eq_getElem h2] at h;injection h
 rw[h3,List.getElem?_append_left (by rw[hf x];exact hj)] at h1
 simp only[List.getD_eq_getElem?_getD,←h1]
theorem LY (hf:∀x,(f x).length=k) {p:PV}{j:Nat}(hj:j<k):∀{l:List α}{i:Nat}{x y:α},l[i]?=some x->f y=(f x).set j p->(l.flatMap f).set (i*k+j) p=(l.set i y).flatMap f
 |[],i,x,y,h,_=>by simp at h
 |a::l,0,x,y,h,hy=>by
  simp at h;subst h;rw[Nat.zero_mul,Nat.zero_add,List.flatMap_cons,List.set_cons_zero,List.flatMap_cons,hy,List.set_append_left _ _ (by rw[hf];exact hj)]
 |a::l,i+1,x,y,h,hy=>by
  simp at h;rw[List.flatMap_cons,List.set_cons_succ,List.flatMap_cons,List.set_append_right _ _ (by rw[hf,Nat.succ_mul];omega),hf]
  congr 1
  rw[show (i+1)*k+j-k=i*k+j by rw[Nat.succ_mul];omega]
  exact LY hf hj h hy
theorem Yl {c:List PV}{p:PV}{i:Nat}(h:i<c.length):Bd c [p] i=c.set i p:=by
 unfold Bd;rw[List.set_eq_take_append_cons_drop,if_pos h];simp
end
theorem I6 {α:Type}{l:List α}{i:Nat}{x:α}(h:l[i]?=some x):i<l.length:=by
 rcases Nat.lt_or_ge i l.length with h1|h1
 ·exact h1
 ·rw[List.getElem?_eq_none h1] at h;cases h
abbrev Aja (k:IntKind)(n:Int):List PV:=[.sc (.int k n)]
abbrev Aq (k:IntKind)(l:List Int):List PV:=l.flatMap (Aja k)
theorem Sw (k:IntKind)(n:Int):(Aja k n).length=1:=rfl
theorem ati {k:IntKind}{l:List Int}{i:Nat}{n:Int}(h:l[i]?=some n):(Aq k l).getD i .top=.sc (.int k n):=by
 have:=CO (Sw k) h (j:=0) (by omega)
 simpa using this
theorem A1 (k:IntKind)(l:List Int):(Aq k l).length=l.length:=by rw[Y3 (Sw k)];omega
theorem KZ (k:IntKind)(l:List Int)(n:Int):Aq k l++[.sc (.int k n)]=Aq k (l++[n]):=by simp
theorem tki (k:IntKind)(l:List Int):List.take l.length (Aq k l)=Aq k l:=List.take_of_length_le (by rw[A1];omega)
theorem Ep:type_of% @QT∧type_of% @YG∧type_of% @PD∧type_of% @QV∧type_of% @ZH∧type_of% @FT∧type_of% @Abi∧type_of% @Age∧type_of% @Agl∧type_of% @Abh∧type_of% @OS∧type_of% @Aal∧type_of% @Ip∧type_of% @YW∧type_of% @Xi∧type_of% @PW∧type_of% @ZS∧type_of% @Aaz∧type_of% @Y1∧type_of% @Rg∧type_of% @QP∧type_of% @Bool.not_true∧type_of% @Bool.not_false∧type_of% @Bool.false_eq_true∧type_of% @if_true.{1}∧type_of% @if_false.{1}∧type_of% @Bool.true_and∧type_of% @Bool.and_true∧type_of% @Bool.false_and∧type_of% @Bool.and_false∧type_of% @decide_true∧type_of% @decide_false:=
 ⟨@QT,@YG,@PD,@QV,@ZH,@FT,@Abi,@Age,@Agl,@Abh,@OS,@Aal,@Ip,@YW,@Xi,@PW,@ZS,@Aaz,@Y1,@Rg,@QP,@Bool.not_true,@Bool.not_false,@Bool.false_eq_true,@if_true.{1},@if_false.{1},@Bool.true_and,@Bool.and_true,@Bool.false_and,@Bool.and_false,@decide_true,@decide_false⟩
theorem gT:type_of% @Bool.and_eq_true∧type_of% @decide_eq_true_eq∧type_of% @beq_iff_eq.{0}∧type_of% @bne_iff_ne.{0}∧type_of% @ne_eq.{1}∧type_of% @Bool.not_eq_true'∧type_of% @true_and∧type_of% @and_true:=
 ⟨@Bool.and_eq_true,@decide_eq_true_eq,@beq_iff_eq.{0},@bne_iff_ne.{0},@ne_eq.{1},@Bool.not_eq_true',@true_and,@and_true⟩
theorem gF:type_of% @decide_eq_false_iff_not∧type_of% @beq_eq_false_iff_ne.{0}∧type_of% @bne_eq_false_iff_eq.{0}∧type_of% @ne_eq.{1}∧type_of% @Bool.not_eq_false':=
 ⟨@decide_eq_false_iff_not,@beq_eq_false_iff_ne.{0},@bne_eq_false_iff_eq.{0},@ne_eq.{1},@Bool.not_eq_false'⟩
end
section
open Go.RowKit
def Av {α β:Type}(R:α->β->Prop):List α->List β->Prop
 |[],[]=>True
 |a::zs,b::bs=>R a b∧Av R zs bs
 |_,_=>False
section
variable {α β γ:Type} {R S:α->β->Prop}
theorem Av.len:∀{zs:List α}{bs:List β},Av R zs bs->zs.length=bs.length
 |[],[],_=>rfl
 |_::_,_::_,h=>by simp[Av.len h.2]
 |[],_::_,h=>h.elim
 |_::_,[],h=>h.elim
theorem Av.at_:∀{zs:List α}{bs:List β},Av R zs bs->∀{i:Nat} {a b},zs[i]?=some a->bs[i]?=some b->R a b
 |[],[],_,i,a,b,h,_=>by simp at h
 |_::_,_::_,h,0,a,b,ha,hb=>by simp at ha hb;subst ha;subst hb;exact h.1
 |_::_,_::_,h,i+1,a,b,ha,hb=>by simp at ha hb;exact Av.at_ h.2 ha hb
 |[],_::_,h,_,_,_,_,_=>h.elim
 |_::_,[],h,_,_,_,_,_=>h.elim
theorem Av.of_at:∀{zs:List α}{bs:List β},zs.length=bs.length->(∀(i:Nat) a b,zs[i]?=some a->bs[i]?=some b->R a b)->Av R zs bs
 |[],[],_,_=>trivial
 |a::zs,b::bs,hl,h=>⟨h 0 a b rfl rfl,Av.of_at (by simpa using hl) fun i x y hx hy=>h (i+1) x y hx hy⟩
 |[],_::_,hl,_=>by simp at hl
 |_::_,[],hl,_=>by simp at hl
theorem Av.mono (hRS:∀a b,R a b->S a b):∀{zs:List α}{bs:List β},Av R zs bs->Av S zs bs
 |[],[],_=>trivial
 |_::_,_::_,h=>⟨hRS _ _ h.1,Av.mono hRS h.2⟩
 |[],_::_,h=>h.elim
 |_::_,[],h=>h.elim
theorem Av.mono_mem:∀{zs:List α}{bs:List β},(∀a∈zs,∀b,R a b->S a b)->Av R zs bs->Av S zs bs
 |[],[],_,_=>trivial
 |a::_,_::_,hRS,h=>⟨hRS a (by simp) _ h.1,Av.mono_mem (fun x hx=>hRS x (by simp[hx])) h.2⟩
 |[],_::_,_,h=>h.elim
 |_::_,[],_,h=>h.elim
theorem Av.app:∀{zs:List α}{bs:List β}{as':List α}{bs':List β},Av R zs bs->Av R as' bs'->Av R (zs++as') (bs++bs')
 |[],[],_,_,_,h'=>h'
 |_::_,_::_,_,_,h,h'=>⟨h.1,Av.app h.2 h'⟩
 |[],_::_,_,_,h,_=>h.elim
 |_::_,[],_,_,h,_=>h.elim
theorem Av.take:∀(n:Nat){zs:List α}{bs:List β},Av R zs bs->Av R (zs.take n) (bs.take n)
 |0,_,_,_=>by simp[Av]
 |_+1,[],[],_=>trivial
 |n+1,_::_,_::_,h=>⟨h.1,Av.take n h.2⟩
 |_+1,[],_::_,h=>h.elim
 |_+1,_::_,[],h=>h.elim
theorem Av.drop:∀(n:Nat){zs:List α}{bs:List β},Av R zs bs->Av R (zs.drop n) (bs.drop n)
 |0,_,_,h=>h
 |_+1,[],[],_=>trivial
 |n+1,_::_,_::_,h=>Av.drop n h.2
 |_+1,[],_::_,h=>h.elim
 |_+1,_::_,[],h=>h.elim
end
inductive An (w:World) (A:Nat->Prop):PV->Value->Prop where
 |sc (v:Value):An w A (.sc v) v
 |top (v:Value):An w A .top v
 |ub (b:Bool):An w A .ub (.bool b)
 |lnil (z:Bool) (es:Nat):An w A (.lst z es 0 []) (.slice none 0 0)
 |lemp (es:Nat) (a:Addr) (cap:Nat):An w A (.lst false es 0 []) (.slice (some a) 0 cap)
 |lst (es n:Nat) (cells:List PV) (a:Addr) (cap:Nat) (f:Nat->Value) (hs:a.spot=none) (hb:a.block<w.heap.size) (hA:¬A a.block) (hn:n<=cap)
   (hc:∀j c,cells[j]?=some c->w.cell? (a.add j)=some (f j)) (h1:∀j c,cells[j]?=some c->(f j).oneCell'=true) (hr:∀j c,cells[j]?=some c->An w A c (f j)):An w A (.lst false es n cells) (.slice (some a) n cap)
def bsz (w:World)(b:Nat):Nat:=
 match w.heap[b]? with
 |some (.cells c _ _)=>c.size
 |_=>0
def HF (w:World)(b:Nat):Bool:=w.frozen? ⟨b,bsz w b,none⟩
def Fit (w:World)(es b e:Nat):Prop:=e<=bsz w b∧(es=1∨HF w b=false)
def Gd (w w':World)(b:Nat):Prop:=bsz w b<=bsz w' b∧(HF w b=false->HF w' b=false)
theorem Gd.refl (w:World)(b:Nat):Gd w w b:=⟨Nat.le_refl _,id⟩
theorem Gd.same {w w':World}{b:Nat}(h:w'.heap[b]?=w.heap[b]?):Gd w w' b:=by
 have e:bsz w' b=bsz w b:=by unfold bsz;rw[h]
 refine⟨by rw[e];exact Nat.le_refl _,fun q=>?_⟩
 unfold HF at q ⊢;rw[e];unfold World.frozen? at q ⊢;simp only[h];exact q
theorem Gd.trans {w w' w'':World}{b:Nat}(h:Gd w w' b)(h':Gd w' w'' b):Gd w w'' b:=⟨Nat.le_trans h.1 h'.1,fun q=>h'.2 (h.2 q)⟩
theorem Fit.step {w w':World}{es b e:Nat}(h:Fit w es b e)(hb:Gd w w' b):Fit w' es b e:=⟨Nat.le_trans h.1 hb.1,h.2.imp id hb.2⟩
def Se (w:World)(A:Nat->Prop)(a:Addr)(cells:List PV):Prop:=∀j c,cells[j]?=some c->∃v,w.cell? (a.add j)=some v∧v.oneCell'=true∧An w A c v
def Be (w:World)(A:Nat->Prop)(β:Nat->Option (Nat × Nat)) (p:PV)(v:Value):Prop:=
 match p with
 |.view id es off n=>(β id=none∧off=0∧n=0∧∃ad,v=.slice ad 0 0) ∨
   ∃b o x cap,β id=some (b,o)∧v=.slice (some ⟨b,x,none⟩) n cap∧(x=o+off∨(n=0∧off≠0))∧n<=cap∧Fit w es b (x+cap*es)∧b<w.heap.size
 |.ptr id off=>∃b o,β id=some (b,o)∧v=.pointer (some ⟨b,o+off,none⟩)
 |.iptr c off=>∃a:Addr,v=.pointer (some (a.add off))∧a.spot=none∧a.block<w.heap.size∧¬A a.block∧Se w A a c
 |p=>An w A p v
def F7 (w:World)(A:Nat->Prop)(β:Nat->Option (Nat × Nat)) (p:PV)(v:Value):Prop:=
 match p with
 |.agg cs=>∃vs,v=.agg ⟨vs⟩∧Av (Be w A β) cs vs
 |p=>Be w A β p v
def Di (w:World)(A:Nat->Prop)(β:Nat->Option (Nat × Nat)) (p:PV)(v:Value):Prop:=
 match p with
 |.tup ps=>∃vs,v=.tuple ⟨vs⟩∧Av (F7 w A β) ps vs
 |p=>F7 w A β p v
structure Bh (A:Nat->Prop) (w w':World):Prop where
 size:w.heap.size<=w'.heap.size
 keep:∀b,b<w.heap.size->¬A b->w'.heap[b]?=w.heap[b]?
 bs:∀b,b<w.heap.size->Gd w w' b
theorem D9 (a:Addr)(j:Nat):(a.add j).block=a.block:=by unfold Addr.add;split<;>rfl
theorem add_add (a:Addr)(i j:Nat):(a.add i).add j=a.add (i+j):=by
 unfold Addr.add;by_cases hi:i=0<;>by_cases hj:j=0<;>simp[hi,hj,Nat.add_assoc]
theorem Bq (b o j:Nat):(⟨b,o,none⟩:Addr).add j=⟨b,o+j,none⟩:=by
 unfold Addr.add;by_cases hj:j=0<;>simp[hj]
theorem Abb {a:Addr}(h:a.spot=none)(j:Nat):(a.add j).spot=none:=by unfold Addr.add;split<;>simp[h]
section
variable {w w':World} {A A':Nat->Prop} {β β':Nat->Option (Nat × Nat)}
theorem Bh.cell (h:Bh A w w'){a:Addr}(hb:a.block<w.heap.size)(hA:¬A a.block):w'.cell? a=w.cell? a:=
 World.cell?_of_block (h.keep a.block hb hA)
theorem An.step (h:Bh A w w')(hA:∀b,b<w.heap.size->A' b->A b){p:PV}{v:Value}(t:An w A p v):An w' A' p v:=by
 induction t with
 |sc v=>exact .sc v
 |top v=>exact .top v
 |ub b=>exact .ub b
 |lnil z es=>exact .lnil z es
 |lemp es a cap=>exact .lemp es a cap
 |lst es n cells a cap f hs hb Vd hn hc h1 hr ih=>
  refine .lst es n cells a cap f hs (Nat.lt_of_lt_of_le hb h.size) (fun x=>Vd (hA _ hb x)) hn (fun j c hj=>?_) h1 (fun j c hj=>ih j c hj)
  rw[h.cell (by rw[D9];exact hb) (by rw[D9];exact Vd)]
  exact hc j c hj
theorem Se.step (h:Bh A w w')(hA:∀b,b<w.heap.size->A' b->A b){a:Addr}(hb:a.block<w.heap.size)(hn:¬A a.block){cells:List PV}(t:Se w A a cells):Se w' A' a cells:=by
 intro j c hj;obtain⟨v,hv,h1,ht⟩:=t j c hj;exact⟨v,by rw[h.cell (by rw[D9];exact hb) (by rw[D9];exact hn)];exact hv,h1,ht.step h hA⟩
theorem Be.step (h:Bh A w w')(hA:∀b,b<w.heap.size->A' b->A b){p:PV}{v:Value}(hβ:∀id∈Ak p,β' id=β id)(t:Be w A β p v):Be w' A' β' p v:=by
 cases p with
 |view id es off n=>
  have e:=hβ id (by simp[Ak])
  rcases t with⟨h1,h2,h3,h4⟩|⟨b,o,x,cap,h1,h2,hx,h3,h4,h5⟩
  ·exact .inl ⟨by rw[e];exact h1,h2,h3,h4⟩
  ·exact .inr ⟨b,o,x,cap,by rw[e];exact h1,h2,hx,h3,h4.step (h.bs b h5),Nat.lt_of_lt_of_le h5 h.size⟩
 |ptr id off=>
  have e:=hβ id (by simp[Ak])
  obtain⟨b,o,h1,h2⟩:=t;exact⟨b,o,by rw[e];exact h1,h2⟩
 |iptr c off=>
  obtain⟨a,h1,h2,h3,h4,h5⟩:=t;exact⟨a,h1,h2,Nat.lt_of_lt_of_le h3 h.size,fun x=>h4 (hA _ h3 x),h5.step h hA h3 h4⟩
 |sc v=>exact An.step h hA t
 |lst z es n c=>exact An.step h hA t
 |own es n c=>exact An.step h hA t
 |pbox c=>exact An.step h hA t
 |agg c=>exact An.step h hA t
 |tup c=>exact An.step h hA t
 |top=>exact An.step h hA t
 |ub=>exact An.step h hA t
theorem F7.step (h:Bh A w w')(hA:∀b,b<w.heap.size->A' b->A b){p:PV}{v:Value}(hβ:∀id∈Bn p,β' id=β id)(t:F7 w A β p v):F7 w' A' β' p v:=by
 cases p with
 |agg cs=>
  obtain⟨vs,rfl,h2⟩:=t;exact⟨vs,rfl,h2.mono_mem fun c hc v hv=>hv.step h hA fun id hid=>hβ id (by simp only[Bn,List.mem_flatMap];exact⟨c,hc,hid⟩)⟩
 |sc x=>exact Be.step (p:=.sc x) h hA hβ t
 |lst x y z u=>exact Be.step (p:=.lst x y z u) h hA hβ t
 |own x y z=>exact Be.step (p:=.own x y z) h hA hβ t
 |view x y z u=>exact Be.step (p:=.view x y z u) h hA hβ t
 |ptr x y=>exact Be.step (p:=.ptr x y) h hA hβ t
 |iptr x y=>exact Be.step (p:=.iptr x y) h hA hβ t
 |pbox x=>exact Be.step (p:=.pbox x) h hA hβ t
 |tup x=>exact Be.step (p:=.tup x) h hA hβ t
 |top=>exact Be.step (p:=.top) h hA hβ t
 |ub=>exact Be.step (p:=.ub) h hA hβ t
theorem Di.step (h:Bh A w w')(hA:∀b,b<w.heap.size->A' b->A b){p:PV}{v:Value}(hβ:∀id∈A9 p,β' id=β id)(t:Di w A β p v):Di w' A' β' p v:=by
 cases p with
 |tup cs=>
  obtain⟨vs,rfl,h2⟩:=t;exact⟨vs,rfl,h2.mono_mem fun c hc v hv=>hv.step h hA fun id hid=>hβ id (by simp only[A9,List.mem_flatMap];exact⟨c,hc,hid⟩)⟩
 |sc x=>exact F7.step (p:=.sc x) h hA hβ t
 |lst x y z u=>exact F7.step (p:=.lst x y z u) h hA hβ t
 |own x y z=>exact F7.step (p:=.own x y z) h hA hβ t
 |view x y z u=>exact F7.step (p:=.view x y z u) h hA hβ t
 |ptr x y=>exact F7.step (p:=.ptr x y) h hA hβ t
 |iptr x y=>exact F7.step (p:=.iptr x y) h hA hβ t
 |pbox x=>exact F7.step (p:=.pbox x) h hA hβ t
 |top=>exact F7.step (p:=.top) h hA hβ t
 |ub=>exact F7.step (p:=.ub) h hA hβ t
 |agg x=>exact F7.step (p:=.agg x) h hA hβ t
theorem Bh.refl (A:Nat->Prop)(w:World):Bh A w w:=⟨Nat.le_refl _,fun _ _ _=>rfl,fun _ _=>Gd.refl _ _⟩
theorem Se.weak (hA:∀b,b<w.heap.size->A' b->A b){a:Addr}{cells:List PV}(t:Se w A a cells):Se w A' a cells:=by
 intro j c hj;obtain⟨v,hv,h1,ht⟩:=t j c hj;exact⟨v,hv,h1,ht.step (Bh.refl A w) hA⟩
theorem Bh.trans {w'':World}(h:Bh A w w')(h':Bh A' w' w'')(hA:∀b,b<w.heap.size->A' b->A b):Bh A w w'':=
  ⟨Nat.le_trans h.size h'.size,fun b hb hn=>(h'.keep b (Nat.lt_of_lt_of_le hb h.size) (fun x=>hn (hA b hb x))).trans (h.keep b hb hn),
   fun b hb=>(h.bs b hb).trans (h'.bs b (Nat.lt_of_lt_of_le hb h.size))⟩
theorem Bh.weaken (h:Bh A w w')(hA:∀b,b<w.heap.size->A b->A' b):Bh A' w w':=⟨h.size,fun b hb hn=>h.keep b hb (fun x=>hn (hA b hb x)),h.bs⟩
end
section
variable {R:Type} {r:R}
theorem Dh {k:IntKind}{p:PV}{K:Int->Option R}(h:Ai k p K=some r):∃n,p=.sc (.int k n)∧K n=some r:=by
 unfold Ai at h;split at h
 ·split at h
  ·rename_i hk;subst hk;exact⟨_,rfl,h⟩
  ·cases h
 ·cases h
theorem Ct {p:PV}{K:Bool->Option R}(h:A5 p K=some r):∃b,p=.sc (.bool b)∧K b=some r:=by
 unfold A5 at h;split at h
 ·exact⟨_,rfl,h⟩
 ·cases h
theorem Cm {p:PV}{K:ByteArray->Option R}(h:En p K=some r):∃b,p=.sc (.string b)∧K b=some r:=by
 unfold En at h;split at h
 ·exact⟨_,rfl,h⟩
 ·cases h
theorem Ci {p:PV}{K:IntKind->Int->Option R}(h:Cp p K=some r):∃k n,p=.sc (.int k n)∧K k n=some r:=by
 unfold Cp at h;split at h
 ·exact⟨_,_,rfl,h⟩
 ·cases h
theorem Ag {b:Bool}{K:Option R}(h:Au b K=some r):b=true∧K=some r:=by
 unfold Au at h;cases b
 ·cases h
 ·exact⟨rfl,h⟩
theorem Bm {α:Type}{o:Option α}{K:α->Option R}(h:C7 o K=some r):∃a,o=some a∧K a=some r:=by
 unfold C7 at h;split at h
 ·exact⟨_,rfl,h⟩
 ·cases h
theorem Ar {α:Type}{l:List α}{K:α->List α->Option R}(h:Ab l K=some r):∃a t,l=a::t∧K a t=some r:=by
 unfold Ab at h;split at h
 ·exact⟨_,_,rfl,h⟩
 ·cases h
theorem Cl {α:Type}{l:List α}{K:Option R}(h:Ae l K=some r):l=[]∧K=some r:=by
 unfold Ae at h;split at h
 ·exact⟨rfl,h⟩
 ·cases h
theorem F0 {p:PV}{K:List PV->Option R}(h:Fo p K=some r):∃c,p=.agg c∧K c=some r:=by
 unfold Fo at h;split at h
 ·exact⟨_,rfl,h⟩
 ·cases h
theorem DN {p:PV}{K:List PV->Option R}(h:Qv p K=some r):∃c,p=.pbox c∧K c=some r:=by
 unfold Qv at h;split at h
 ·exact⟨_,rfl,h⟩
 ·cases h
theorem QE {p:PV}{K:Value->Option R}(h:VH p K=some r):∃v,p=.sc v∧v.oneCell'=true∧K v=some r:=by
 unfold VH at h;split at h
 ·exact⟨_,rfl,rfl,h⟩
 ·exact⟨_,rfl,rfl,h⟩
 ·cases h
theorem Acr {p:PV}{K:FuncId->Option R}(h:fvK p K=some r):∃f,p=.sc (.func (.func f) #[] #[])∧K f=some r:=by
 unfold fvK at h;split at h
 ·rename_i f a b;cases hb:(a.isEmpty&&b.isEmpty)<;>rw[hb] at h
  ·cases h
  ·simp only[Bool.and_eq_true,Array.isEmpty_iff] at hb;rw[hb.1,hb.2];exact⟨f,rfl,h⟩
 ·cases h
theorem DD {o:Option Bb}{K:List PV->List (List PV)->Option R} (h:Ap o K=some r):∃v x,o=some ⟨v,x⟩∧K v x=some r:=by
 unfold Ap at h;split at h
 ·exact⟨_,_,rfl,h⟩
 ·cases h
theorem Ju {b:Bool}{x y:Option R}(h:Cg b x y=some r):(b=true∧x=some r)∨(b=false∧y=some r):=by
 unfold Cg at h;cases b
 ·exact .inr ⟨rfl,h⟩
 ·exact .inl ⟨rfl,h⟩
theorem Eg {es:Nat}{p:PV}{K:Bool->Nat->List PV->Option R}(h:Eu es p K=some r):
  ∃z n c,K z n c=some r∧(p=.lst z es n c∨(p=.sc (.slice none 0 0)∧z=true∧n=0∧c=[])):=by
 unfold Eu at h;split at h
 ·rename_i z es' n c;cases hb:Nat.beq es' es
  ·rw[hb] at h;cases h
  ·rw[hb] at h;have:=Nat.eq_of_beq_eq_true hb;subst this;exact⟨z,n,c,h,.inl rfl⟩
 ·exact⟨true,0,[],h,.inr ⟨rfl,rfl,rfl,rfl⟩⟩
 ·cases h
def Ku:PV->Prop
 |.sc _=>True
 |.lst _ _ _ _=>True
 |_=>False
def AV:PV->Prop
 |.sc _=>True
 |.lst _ _ _ _=>True
 |.view _ _ _ _=>True
 |_=>False
theorem Nv {c:PV}(h:Ku c):AV c:=by
 cases c<;>first|trivial|exact h.elim
theorem F5 {c:PV}(h:Ku c):Ak c=[]:=by
 cases c<;>first|rfl|exact h.elim
variable {w:World} {A:Nat->Prop} {β:Nat->Option (Nat × Nat)}
theorem It {c:PV}{v:Value}(h:Ku c):Be w A β c v↔An w A c v:=by
 cases c<;>first|exact Iff.rfl|exact h.elim
theorem S0 {c:PV}{v:Value}(h:∀cs,c ≠ .agg cs):F7 w A β c v↔Be w A β c v:=by
 cases c<;>first|exact Iff.rfl|exact absurd rfl (h _)
theorem Lm {c:PV}{v:Value}(h:∀cs,c ≠ .tup cs):Di w A β c v↔F7 w A β c v:=by
 cases c<;>first|exact Iff.rfl|exact absurd rfl (h _)
theorem Sz {c:PV}(h:Ku c)(cs:List PV):c ≠ .agg cs:=by rintro rfl;exact h
theorem OV {c:PV}(h:Ku c)(cs:List PV):c ≠ .tup cs:=by rintro rfl;exact h
theorem An.val {v u:Value}(h:An w A (.sc v) u):u=v:=by cases h;rfl
theorem Ru {es n:Nat}{z:Bool}{c:List PV}{p:PV}{v:Value}(h:p=.lst z es n c∨(p=.sc (.slice none 0 0)∧z=true∧n=0∧c=[])) (hv:Be w A β p v):An w A (.lst z es n c) v:=by
 rcases h with rfl|⟨rfl,rfl,rfl,rfl⟩
 ·exact hv
 ·have:=An.val (w:=w) (A:=A) hv;subst this;exact .lnil true es
theorem Jz {t:CT}{p:PV}{K:PV->Option R}(h:Ug t p K=some r):
  ∃c,K c=some r∧Ku c∧Ku p∧∀(w:World) (A:Nat->Prop) (β:Nat->Option (Nat × Nat)) (v:Value),Be w A β p v->An w A c v∧v.oneCell'=true:=by
 cases t with
 |int k=>obtain⟨n,rfl,h2⟩:=Dh h;exact⟨_,h2,trivial,trivial,fun w A β v hv=>⟨hv,by have:=An.val (w:=w) (A:=A) hv;subst this;rfl⟩⟩
 |bool=>obtain⟨n,rfl,h⟩:=Ct h;exact⟨_,h,trivial,trivial,fun w A β v hv=>⟨hv,by have:=An.val (w:=w) (A:=A) hv;subst this;rfl⟩⟩
 |str=>obtain⟨n,rfl,h⟩:=Cm h;exact⟨_,h,trivial,trivial,fun w A β v hv=>⟨hv,by have:=An.val (w:=w) (A:=A) hv;subst this;rfl⟩⟩
 |sl es=>
  obtain⟨z,n,c,h,hp⟩:=Eg h;refine⟨_,h,trivial,?_,fun w A β v hv=>⟨Ru hp hv,?_⟩⟩
  ·rcases hp with rfl|⟨rfl,_⟩<;>trivial
  ·have ht:=Ru hp hv;cases ht<;>rfl
 |any=>
  obtain⟨u,rfl,h1,h2⟩:=QE (show VH p (fun v=>K (.sc v))=some r from h)
  exact⟨_,h2,trivial,trivial,fun w A β v hv=>⟨hv,by have:=An.val (w:=w) (A:=A) hv;subst this;exact h1⟩⟩
theorem Afa {t:CT}{p:PV}{K:PV->Option R}(h:fcK t p K=some r):
  ∃c,K c=some r∧(Ku c∨c=p)∧AV p∧p ≠ .top∧(∀cs,c ≠ .agg cs)∧(∀cs,c ≠ .tup cs)∧(∀id,id∈Ak c->id∈Ak p)∧∀(w:World) (A:Nat->Prop) (β:Nat->Option (Nat × Nat)) (v:Value),Be w A β p v->Be w A β c v∧v.oneCell'=true:=by
 have tree:∀t',Ug t' p K=some r->∃c,K c=some r∧(Ku c∨c=p)∧AV p∧p ≠ .top∧(∀cs,c ≠ .agg cs)∧(∀cs,c ≠ .tup cs)∧(∀id,id∈Ak c->id∈Ak p)∧∀(w:World) (A:Nat->Prop) (β:Nat->Option (Nat × Nat)) (v:Value),Be w A β p v->Be w A β c v∧v.oneCell'=true:=by
  intro t' h;obtain⟨c,h,hc,hp,hv⟩:=Jz h;exact⟨c,h,.inl hc,Nv hp,by rintro rfl;exact hp,Sz hc,OV hc,by rw[F5 hc];simp,fun w A β v h=>⟨(It hc).2 (hv w A β v h).1,(hv w A β v h).2⟩⟩
 cases t with
 |sl es=>
  unfold fcK fsK at h;dsimp only at h;split at h
  ·rename_i id es' off n;cases hb:Nat.beq es' es
   ·rw[hb] at h;cases h
   ·rw[hb] at h;have:=Nat.eq_of_beq_eq_true hb;subst this;exact⟨_,h,.inr rfl,trivial,by simp,by simp,by simp,fun _ h=>h,fun _ _ _ _ h=>⟨h,by rcases h with⟨_,_,_,_,rfl⟩|⟨_,_,_,_,_,rfl,_⟩<;>rfl⟩⟩
  ·exact tree (.sl es) h
 |int k=>exact tree (.int k) h
 |bool=>exact tree (.bool) h
 |str=>exact tree (.str) h
 |any=>exact tree (.any) h
theorem Vx {cells:List PV}{i:Nat}{p:PV}(h:cells.getD i .top=p)(hp:p ≠ .top):cells[i]?=some p:=by
 rw[List.getD_eq_getElem?_getD] at h;cases hc:cells[i]? with
 |none=>rw[hc] at h;exact absurd h.symm hp
 |some q=>rw[hc] at h;simp at h;rw[h]
theorem O7:∀{ts:List CT}{cells:List PV}{off:Nat}{K:List PV->Option R},N8 ts cells off K=some r ->
  ∃cs,K cs=some r∧cs.length=ts.length∧∀j c,cs[j]?=some c->Ku c∧∃p,cells[off+j]?=some p∧Ku p ∧
   ∀(w:World) (A:Nat->Prop) (β:Nat->Option (Nat × Nat)) (v:Value),Be w A β p v->An w A c v∧v.oneCell'=true
 |[],_,_,_,h=>⟨[],h,rfl,fun j c hj=>by simp at hj⟩
 |t::ts,cells,off,K,h=>by
  unfold N8 at h;obtain⟨c,h,hc,hp,hv⟩:=Jz h;obtain⟨cs,h,hl,P0⟩:=O7 h;refine⟨c::cs,h,by simp[hl],fun j c' hj=>?_⟩
  cases j with
  |zero=>
   simp at hj;subst hj;refine⟨hc,cells.getD off .top,Vx rfl ?_,hp,hv⟩;intro e;rw[e] at hp;exact hp
  |succ j=>
   simp at hj;have:=P0 j c' hj
   rwa [Nat.add_right_comm,Nat.add_assoc] at this
theorem O4:∀{ts:List CT}{cells:List PV}{off:Nat}{K:List PV->Option R},K4 ts cells off K=some r ->
  ∃cs,K cs=some r∧cs.length=ts.length∧(∀c∈cs,(∀x,c ≠ .agg x)∧(∀x,c ≠ .tup x))∧∀j c,cs[j]?=some c->∃p,cells[off+j]?=some p∧AV p∧(∀id,id∈Ak c->id∈Ak p) ∧
   ∀(w:World) (A:Nat->Prop) (β:Nat->Option (Nat × Nat)) (v:Value),Be w A β p v->Be w A β c v∧v.oneCell'=true
 |[],_,_,_,h=>⟨[],h,rfl,by simp,fun j c hj=>by simp at hj⟩
 |t::ts,cells,off,K,h=>by
  unfold K4 at h;obtain⟨c,h,hc,hf,hp,ha,ht,hr,hv⟩:=Afa h;obtain⟨cs,h,hl,Uu,P0⟩:=O4 h;refine⟨c::cs,h,by simp[hl],?_,fun j c' hj=>?_⟩
  ·intro x hx;rcases List.mem_cons.1 hx with rfl|hx
   ·exact⟨ha,ht⟩
   ·exact Uu x hx
  ·cases j with
   |zero=>
    simp at hj;subst hj;exact⟨cells.getD off .top,Vx rfl hp,hf,hr,hv⟩
   |succ j=>
    simp at hj;have:=P0 j c' hj
    rwa [Nat.add_right_comm,Nat.add_assoc] at this
theorem FS {agg:Bool}{cells:List PV}{K:PV->Option R}(h:PC agg cells K=some r):
  (agg=true∧K (.agg cells)=some r)∨(agg=false∧∃c,cells=[c]∧K c=some r):=by
 unfold PC at h;cases agg
 ·obtain⟨c,t,rfl,h⟩:=Ar h;obtain⟨rfl,h⟩:=Cl h;exact .inr ⟨rfl,c,rfl,h⟩
 ·exact .inl ⟨rfl,h⟩
end
open Go.RowKit
def Cc (b:Option A3):Prop:=
 match b with
 |some (.st _)=>True
 |some (.ar false _)=>True
 |_=>False
abbrev Bt:=Nat->Option (Nat × Nat)
def GG (hp:Nat->Option A3)(β:Bt)(b:Nat):Prop:=∃id o,Cc (hp id)∧β id=some (b,o)
def Cd (hp:Nat->Option A3)(β:Bt)(Y:Nat->Prop)(b:Nat):Prop:=GG hp β b∨Y b
def Nx (w:World)(A:Nat->Prop)(β:Bt)(id:Nat)(bx:A3):Prop:=
 match bx with
 |.st cells=>∃b o,β id=some (b,o)∧(∀j c,cells[j]?=some c->∃v,w.cell? ⟨b,o+j,none⟩=some v∧Be w A β c v)∧∀j,j<cells.length->w.frozen? ⟨b,o+j,none⟩=false
 |.ar fz cells=>(β id=none∧cells=[])∨∃b o,β id=some (b,o)∧Se w A ⟨b,o,none⟩ cells∧(fz=false->∀j,o<=j->j<bsz w b->w.frozen? ⟨b,j,none⟩=false)∧(fz=true->¬A b)
 |.mv=>True
structure F9 where
 X:Nat->Prop
 L:Nat->Nat->Prop
 pn:Nat->Prop
 pt:Nat->Option (Nat × Nat)
 p8:∀i,pn i->i<8
def BR (bx:A3)(o j:Nat):Prop:=
 match bx with
 |.st c=>o<=j∧j<o+c.length
 |.ar _ _=>o<=j
 |.mv=>False
structure Fr (X0:F9) (w0 w:World):Prop where
 os:w.os=w0.os
 tape:w.tape=w0.tape
 output:w.output=w0.output
 step:Bh X0.X w0 w
 rng:∀b j,b<w0.heap.size->¬X0.L b j->w.cell? ⟨b,j,none⟩=w0.cell? ⟨b,j,none⟩∧w.frozen? ⟨b,j,none⟩=w0.frozen? ⟨b,j,none⟩
structure B3 (N:Nat) (w0:World) (X0:F9) (Y:Nat->Prop) (β:Bt) (s:St) (a:Act) (w:World):Prop where
 dfr:a.defers=[]
 tsz:a.tmps.size=N
 tmo:∀i,N<=i->s.tm i=.top
 tms:∀i,i<N->Di w (Cd s.hp β Y) β (s.tm i) (a.tmps.getD i undef)
 box:∀id b,s.hp id=some b->Nx w (Cd s.hp β Y) β id b
 inj:∀id id' b o o',Cc (s.hp id)->Cc (s.hp id')->β id=some (b,o)->β id'=some (b,o')->id=id'
 blt:∀id b o,s.hp id≠none->β id=some (b,o)->b<w.heap.size
 wfT:∀i,i<N->∀id∈A9 (s.tm i),s.hp id≠none
 wfB:∀id cells,s.hp id=some (.st cells)->∀c∈cells,∀id'∈Ak c,s.hp id'≠none
 ownd:∀b,GG s.hp β b->X0.X b∨w0.heap.size<=b
 rngB:∀id bx b o,s.hp id=some bx->Cc (some bx)->β id=some (b,o)->b<w0.heap.size->∀j,BR bx o j->X0.L b j
 pin:∀i,X0.pn i->s.hp (Cj N i)≠none∧β (Cj N i)=X0.pt i
 stp:∀id c b o,s.hp id=some (.st c)->β id=some (b,o)->b<w0.heap.size->∃i,id=Cj N i∧X0.pn i
 Yx:∀b,Y b->¬GG s.hp β b
 Ylt:∀b,Y b->b<w0.heap.size
 fr:Fr X0 w0 w
theorem Ca {b:Option A3}(h:Cc b):b≠none:=by rintro rfl;exact h
theorem Ah {α:Type}(f:Nat->α)(i:Nat)(v:α):Bu f i v i=v:=by simp[Bu,Nat.beq_refl]
theorem Ad {α:Type}(f:Nat->α){i j:Nat}(v:α)(h:j≠i):Bu f i v j=f j:=by
 have:Nat.beq j i=false:=by
  cases hb:Nat.beq j i
  ·rfl
  ·exact absurd (Nat.eq_of_beq_eq_true hb) h
 simp[Bu,this]
theorem R4 {α:Type}(f:Nat->α){i:Nat}{v:α}(h:f i=v):Bu f i v=f:=by
 funext j
 by_cases e:j=i
 ·subst e;rw[Ah];exact h.symm
 ·exact Ad f v e
theorem JX {α:Type}(f:Nat->α){i j:Nat}(u v:α)(h:i≠j):Bu (Bu f i u) j v=Bu (Bu f j v) i u:=by
 funext k
 by_cases e:k=j
 ·subst e;rw[Ah,Ad _ _ (Ne.symm h),Ah]
 ·rw[Ad _ _ e];by_cases e':k=i
  ·subst e';rw[Ah,Ah]
  ·rw[Ad _ _ e',Ad _ _ e',Ad _ _ e]
theorem AS {a:Act}{d:Nat}{v:Value}(h:d<a.tmps.size):(a.put (some d) v).tmps.getD d undef=v:=by
 simp[Act.put,h]
theorem Zn {a:Act}{d i:Nat}{v:Value}(h:i≠d):(a.put (some d) v).tmps.getD i undef=a.tmps.getD i undef:=by
 have h':d≠i:=fun e=>h e.symm
 simp[Act.put,Array.getElem?_setIfInBounds_ne h']
section
variable {N:Nat} {w0:World} {X0:F9} {Y:Nat->Prop} {β β':Bt} {s:St} {a:Act} {w w':World}
theorem S4 (d:Option Tmp)(v:Value):(a.put d v).tmps.size=a.tmps.size:=by cases d<;>simp[Act.put]
theorem Nt (d:Option Tmp)(v:Value):(a.put d v).defers=a.defers:=by cases d<;>rfl
theorem Me {d:Option Tmp}(h:E6 N d=true){i:Nat}(e:d=some i):i<N:=by
 subst e;exact Nat.lt_of_succ_le (Nat.le_of_ble_eq_true h)
theorem Lf {Q:Nat->PV->Value->Prop}{tm:Nat->PV}{d:Option Tmp}{v:PV}{val:Value}(hN:a.tmps.size=N)(hd:E6 N d=true)
  (h:∀i,i<N->Q i (tm i) (a.tmps.getD i undef)) (hv:∀i,Q i v val):∀i,i<N->Q i (A2 tm d v i) ((a.put d val).tmps.getD i undef):=by
 intro i hi;cases d with
 |none=>exact h i hi
 |some d=>
  have hlt:=Me hd rfl;by_cases e:i=d
  ·subst e;show Q i (Bu tm i v i) _;rw[Ah,AS (by omega)]
   exact hv i
  ·show Q i (Bu tm d v i) _;rw[Ad _ _ e,Zn e];exact h i hi
theorem FU {tm:Nat->PV}{d:Option Tmp}{v:PV}(hd:E6 N d=true)(h:∀i,N<=i->tm i=.top):∀i,N<=i->A2 tm d v i=.top:=by
 intro i hi;cases d with
 |none=>exact h i hi
 |some d=>
  have:=Me hd rfl;show Bu tm d v i=_;rw[Ad _ _ (by omega)]
  exact h i hi
theorem B3.put (h:B3 N w0 X0 Y β s a w){d:Option Tmp}{v:PV}{val:Value}(hd:E6 N d=true)(hv:Di w (Cd s.hp β Y) β v val) (hr:∀id∈A9 v,s.hp id≠none):
  B3 N w0 X0 Y β ⟨A2 s.tm d v,s.hp⟩ (a.put d val) w where
 dfr:=by rw[Nt];exact h.dfr
 tsz:=by rw[S4];exact h.tsz
 tmo:=FU hd h.tmo
 tms:=Lf (Q:=fun _ p u=>Di w (Cd s.hp β Y) β p u) h.tsz hd h.tms (fun _=>hv)
 box:=h.box
 inj:=h.inj
 blt:=h.blt
 wfT:=by
  have:=Lf (Q:=fun _ p _=>∀id∈A9 p,s.hp id≠none) (val:=val) h.tsz hd h.wfT (fun _=>hr)
  exact this
 wfB:=h.wfB
 ownd:=h.ownd
 rngB:=h.rngB
 pin:=h.pin
 stp:=h.stp
 Yx:=h.Yx
 Ylt:=h.Ylt
 fr:=h.fr
theorem Ba (hp:Nat->Option A3)(ids:List Nat)(i:Nat):Ac hp ids i=if i∈ids then (hp i).map Pa else hp i:=by
 unfold Ac;by_cases hi:i∈ids
 ·have:ids.any (Nat.beq i)=true:=List.any_eq_true.2 ⟨i,hi,Nat.beq_refl i⟩;rw[this,if_pos hi];rfl
 ·have:ids.any (Nat.beq i)=false:=by
   cases hb:ids.any (Nat.beq i)
   ·rfl
   ·obtain⟨j,hj,e⟩:=List.any_eq_true.1 hb;exact absurd (Nat.eq_of_beq_eq_true e ▸ hj) hi
  rw[this,if_neg hi];rfl
theorem C5 {hp:Nat->Option A3}{ids:List Nat}{i:Nat}:Ac hp ids i=none↔hp i=none:=by
 rw[Ba];split<;>simp
theorem K9 {hp:Nat->Option A3}{ids:List Nat}{i:Nat}(h:Cc (Ac hp ids i)):Cc (hp i):=by
 rw[Ba] at h;split at h
 ·cases hb:hp i with
  |none=>rw[hb] at h;exact h
  |some b=>cases b with
   |st c=>trivial
   |ar fz c=>rw[hb] at h;exact h.elim
   |mv=>rw[hb] at h;exact h
 ·exact h
theorem Gx {hp:Nat->Option A3}{ids:List Nat}{i:Nat}{bx:A3}(h:Ac hp ids i=some bx)(hl:Cc (some bx)):hp i=some bx:=by
 rw[Ba] at h;split at h
 ·cases hb:hp i with
  |none=>rw[hb] at h;cases h
  |some b=>
   rw[hb] at h;cases b with
   |st c=>exact h
   |ar fz c=>simp only[Option.map_some,Pa,Option.some.injEq] at h;subst h;exact hl.elim
   |mv=>simp only[Option.map_some,Pa,Option.some.injEq] at h;subst h;exact hl.elim
 ·exact h
theorem L8 {hp:Nat->Option A3}{ids:List Nat}{b:Nat}(h:GG (Ac hp ids) β b):GG hp β b:=by
 obtain⟨id,o,hl,hb⟩:=h;exact⟨id,o,K9 hl,hb⟩
theorem Nx.step' {A A':Nat->Prop}{id:Nat}{bx:A3}(hA:∀b,A' b->A b)(h:Nx w A β id bx):Nx w A' β id bx:=by
 have hs:=Bh.refl A w;cases bx with
 |st c=>
  obtain⟨b,o,h1,h2,h3⟩:=h;exact⟨b,o,h1,fun j c hj=>let ⟨v,hv,hc⟩:=h2 j c hj;⟨v,hv,hc.step hs (fun b _=>hA b) (fun _ _=>rfl)⟩,h3⟩
 |ar fz c=>
  rcases h with h|⟨b,o,h1,h2,h3,h4⟩
  ·exact .inl h
  ·exact .inr ⟨b,o,h1,h2.weak (fun b _=>hA b),h3,fun e x=>h4 e (hA b x)⟩
 |mv=>trivial
theorem B3.freeze (h:B3 N w0 X0 Y β s a w){fz:List Nat}(N1:∀id∈fz,∃f c,s.hp id=some (.ar f c)):B3 N w0 X0 Y β ⟨s.tm,Ac s.hp fz⟩ a w:=by
 have hA:∀b,Cd (Ac s.hp fz) β Y b->Cd s.hp β Y b:=fun b hb=>hb.imp L8 id
 refine⟨h.dfr,h.tsz,h.tmo,fun i hi=>(h.tms i hi).step (Bh.refl _ _) (fun b _=>hA b) (fun _ _=>rfl),fun id b hb=>?_,fun id id' b o o' h1 h2=>h.inj id id' b o o' (K9 h1) (K9 h2),
  fun id b o hn=>h.blt id b o (fun e=>hn (C5.2 e)),fun i hi id hid e=>h.wfT i hi id hid (C5.1 e),fun id cells hc c IE id' hid e=>?_,fun b hb=>h.ownd b (L8 hb),
  fun id bx b o hb hl=>h.rngB id bx b o (Gx hb hl) hl,fun i hi=>⟨fun e=>(h.pin i hi).1 (C5.1 e),(h.pin i hi).2⟩,fun id c b o hc=>h.stp id c b o (Gx hc trivial),fun b hb x=>h.Yx b hb (L8 x),h.Ylt,h.fr⟩
 ·simp only at hb;rw[Ba] at hb;split at hb
  ·rename_i hm;obtain⟨f,c,hc⟩:=N1 id hm;rw[hc] at hb;simp only[Option.map_some,Pa,Option.some.injEq] at hb;subst hb;have Jc:=h.box id _ hc;rcases Jc with Jc|⟨b,o,h1,h2,h3,h4⟩
   ·exact .inl Jc
   ·refine .inr ⟨b,o,h1,h2.weak (fun b _=>hA b),(fun e=>by cases e),fun _ hb=>?_⟩
    rcases hb with⟨id',o',hl,hb⟩|hY
    ·have YS:=K9 hl;cases f with
     |true=>exact h4 rfl (.inl ⟨id',o',YS,hb⟩)
     |false=>
      have e:=h.inj id' id b o' o YS (by rw[hc];trivial) hb h1
      subst e;simp only at hl;rw[Ba,if_pos hm,hc] at hl;exact hl
    ·cases f with
     |true=>exact h4 rfl (.inr hY)
     |false=>exact h.Yx b hY ⟨id,o,by rw[hc];trivial,h1⟩
  ·exact (h.box id b hb).step' hA
 ·simp only at hc;rw[Ba] at hc;refine h.wfB id cells ?_ c IE id' hid (C5.1 e);split at hc
  ·rename_i hm;obtain⟨f,c,Nf⟩:=N1 id hm;rw[Nf] at hc;cases hc
  ·exact hc
theorem Az:∀{nw:List (Nat × A3)} {hp:Nat->Option A3},A8 hp nw=true ->
  (∀id bx,(id,bx)∈nw->hp id=none)∧(∀id bx bx',(id,bx)∈nw->(id,bx')∈nw->bx=bx')
 |[],_,_=>⟨by simp,by simp⟩
 |(i,b)::r,hp,h=>by
  simp only[A8,Bool.and_eq_true,Option.isNone_iff_eq_none,Bool.not_eq_true'] at h;obtain⟨⟨h1,h2⟩,h3⟩:=h;obtain⟨h4,h5⟩:=Az h3
  have Gh:∀bx,(i,bx) ∉ r:=by
   intro bx hm;have:r.any (fun q=>Nat.beq q.1 i)=true:=List.any_eq_true.2 ⟨_,hm,Nat.beq_refl i⟩
   rw[this] at h2;cases h2
  refine⟨fun id bx hm=>?_,fun id bx bx' hm Jv=>?_⟩
  ·rcases List.mem_cons.1 hm with e|hm
   ·cases e;exact h1
   ·exact h4 id bx hm
  ·rcases List.mem_cons.1 hm with e|hm
   ·cases e;rcases List.mem_cons.1 Jv with e|Jv
    ·cases e;rfl
    ·exact absurd Jv (Gh _)
   ·rcases List.mem_cons.1 Jv with e|Jv
    ·cases e;exact absurd hm (Gh _)
    ·exact h5 id bx bx' hm Jv
theorem Df:∀{nw:List (Nat × A3)} {hp:Nat->Option A3},(∀id bx bx',(id,bx)∈nw->(id,bx')∈nw->bx=bx') ->
  (∀id bx,(id,bx)∈nw->Al hp nw id=some bx)∧(∀id,(∀bx,(id,bx) ∉ nw)->Al hp nw id=hp id)
 |[],_,_=>⟨by simp,fun _ _=>rfl⟩
 |(i,b)::r,hp,h=>by
  obtain⟨h1,h2⟩:=Df (nw:=r) (hp:=Bu hp i (some b)) (fun id bx bx' hm Jv=>h id bx bx' (by simp[hm]) (by simp[Jv]))
  refine⟨fun id bx hm=>?_,fun id hn=>?_⟩
  ·by_cases hr:∃bx',(id,bx')∈r
   ·obtain⟨bx',hr⟩:=hr;have:=h id bx bx' hm (by simp[hr])
    subst this;exact h1 id bx hr
   ·rcases List.mem_cons.1 hm with e|hm
    ·cases e;show Al (Bu hp i (some b)) r i=_;rw[h2 i (fun bx' hb=>hr ⟨bx',hb⟩),Ah]
    ·exact absurd ⟨bx,hm⟩ hr
  ·show Al (Bu hp i (some b)) r id=_;rw[h2 id (fun bx hb=>hn bx (by simp[hb])),Ad]
   rintro rfl
   exact hn b (by simp)
structure BH (Y:Nat->Prop) (β:Bt) (s:St) (w:World) (v:PV) (nw:List (Nat × A3)) (val:Value) (w':World) (β':Bt):Prop where
 os:w'.os=w.os
 tape:w'.tape=w.tape
 output:w'.output=w.output
 ext:Bh (fun _=>False) w w'
 old:∀id,s.hp id≠none->β' id=β id
 nlive:∀id bx,(id,bx)∈nw->Cc (some bx)
 nbox:∀id bx,(id,bx)∈nw->Nx w' (Cd (Al s.hp nw) β' Y) β' id bx
 nblk:∀id bx b o,(id,bx)∈nw->β' id=some (b,o)->w.heap.size<=b∧b<w'.heap.size
 ninj:∀id bx id' bx' b o o',(id,bx)∈nw->(id',bx')∈nw->β' id=some (b,o)->β' id'=some (b,o')->id=id'
 nwf:∀id cells,(id,.st cells)∈nw->∀c∈cells,∀id'∈Ak c,s.hp id'≠none∨∃bx,(id',bx)∈nw
 val:Di w' (Cd (Al s.hp nw) β' Y) β' v val
 vwf:∀id∈A9 v,s.hp id≠none∨∃bx,(id,bx)∈nw
theorem B3.stepR (h:B3 N w0 X0 Y β s a w){d:Option Tmp}{v:PV}{nw:List (Nat × A3)} {val:Value}(hd:E6 N d=true)(L0:A8 s.hp nw=true)
  (st:BH Y β s w v nw val w' β'):B3 N w0 X0 Y β' ⟨A2 s.tm d v,Al s.hp nw⟩ (a.put d val) w':=by
 obtain⟨ha1,ha2⟩:=Az L0;obtain⟨hg1,hg2⟩:=Df (hp:=s.hp) ha2
 have F2:∀id,(∃bx,(id,bx)∈nw)∨Al s.hp nw id=s.hp id:=fun id=>by
  by_cases hx:∃bx,(id,bx)∈nw
  ·exact .inl hx
  ·exact .inr (hg2 id fun bx hb=>hx ⟨bx,hb⟩)
 have Ams:∀id,s.hp id≠none->Al s.hp nw id=s.hp id:=fun id hn=>by
  rcases F2 id with⟨bx,hx⟩|e
  ·exact absurd (ha1 id bx hx) hn
  ·exact e
 have hnn:∀id,(s.hp id≠none∨∃bx,(id,bx)∈nw)->Al s.hp nw id≠none:=by
  rintro id (hn|⟨bx,hx⟩)
  ·rw[Ams id hn];exact hn
  ·rw[hg1 id bx hx];simp
 have Agw:∀b,b<w.heap.size->GG (Al s.hp nw) β' b->GG s.hp β b:=by
  rintro b hb ⟨id,o,hl,hβ⟩
  rcases F2 id with⟨bx,hx⟩|e
  ·have:=(st.nblk id bx b o hx hβ).1;omega
  ·rw[e] at hl;exact⟨id,o,hl,by rw[←st.old id (Ca hl)];exact hβ⟩
 have PL:∀b,b<w.heap.size->Cd (Al s.hp nw) β' Y b->Cd s.hp β Y b:=fun b hb hA=>hA.imp (Agw b hb) id
 have YD:Bh (Cd s.hp β Y) w w':=st.ext.weaken (fun _ _ x=>x.elim)
 refine⟨by rw[Nt];exact h.dfr,by rw[S4];exact h.tsz,FU hd h.tmo,?_,?_,?_,?_,?_,?_,?_,?_,?_,?_,?_,h.Ylt,?_⟩
 ·refine Lf (Q:=fun _ p u=>Di w' (Cd (Al s.hp nw) β' Y) β' p u) h.tsz hd (fun i hi=>?_) (fun _=>st.val)
  exact (h.tms i hi).step YD PL fun id hid=>st.old id (h.wfT i hi id hid)
 ·intro id b hb;simp only at hb;rcases F2 id with⟨bx,hx⟩|e
  ·rw[hg1 id bx hx] at hb;cases hb;exact st.nbox id _ hx
  ·rw[e] at hb;have hβ:=st.old id (by rw[hb];simp)
   have Jc:=h.box id b hb;have hlt:=h.blt id;have Gh:s.hp id≠none:=by rw[hb];simp
   cases b with
   |st c=>
    obtain⟨b,o,h1,h2,h3⟩:=Jc;have F8:=hlt b o Gh h1;have Rm:=st.ext.keep b F8 (fun x=>x)
    refine⟨b,o,by rw[hβ];exact h1,fun j c hj=>?_,fun j hj=>?_⟩
    ·obtain⟨v,hv,hc⟩:=h2 j c hj;refine⟨v,by rw[World.cell?_of_block (w:=w) Rm];exact hv,hc.step YD PL fun id' hid=>st.old id' ?_⟩
     exact h.wfB id _ hb c (List.mem_of_getElem? hj) id' hid
    ·rw[World.frozen?_of_block (w:=w) Rm];exact h3 j hj
   |ar fz c=>
    rcases Jc with⟨h1,h2⟩|⟨b,o,h1,h2,h3,h4⟩
    ·exact .inl ⟨by rw[hβ];exact h1,h2⟩
    ·have F8:=hlt b o Gh h1;have Rm:=st.ext.keep b F8 (fun x=>x)
     have We:bsz w' b=bsz w b:=by unfold bsz;rw[Rm]
     refine .inr ⟨b,o,by rw[hβ];exact h1,fun j c hj=>?_,fun e j hj Kw=>?_,fun e x=>h4 e (PL b F8 x)⟩
     ·obtain⟨v,hv,h5,hc⟩:=h2 j c hj;exact⟨v,by rw[World.cell?_of_block (w:=w) (by rw[D9];exact Rm)];exact hv,h5,hc.step YD PL⟩
     ·rw[World.frozen?_of_block (w:=w) Rm];exact h3 e j hj (by rw[←We];exact Kw)
   |mv=>trivial
 ·intro id id' b o o' hl Hm hb F8;simp only at hl Hm;rcases F2 id with⟨bx,hx⟩|e
  ·rcases F2 id' with⟨bx',Qp⟩|e'
   ·exact st.ninj id bx id' bx' b o o' hx Qp hb F8
   ·rw[e'] at Hm;have h1:=(st.nblk id bx b o hx hb).1;have h2:=h.blt id' b o' (Ca Hm) (by rw[←st.old id' (Ca Hm)];exact F8)
    omega
  ·rw[e] at hl;rcases F2 id' with⟨bx',Qp⟩|e'
   ·have h1:=(st.nblk id' bx' b o' Qp F8).1;have h2:=h.blt id b o (Ca hl) (by rw[←st.old id (Ca hl)];exact hb)
    omega
   ·rw[e'] at Hm;exact h.inj id id' b o o' hl Hm (by rw[←st.old id (Ca hl)];exact hb) (by rw[←st.old id' (Ca Hm)];exact F8)
 ·intro id b o hn hb;simp only at hn;rcases F2 id with⟨bx,hx⟩|e
  ·exact (st.nblk id bx b o hx hb).2
  ·rw[e] at hn;exact Nat.lt_of_lt_of_le (h.blt id b o hn (by rw[←st.old id hn];exact hb)) st.ext.size
 ·have:=Lf (Q:=fun _ p _=>∀id∈A9 p,Al s.hp nw id≠none) (val:=val) (d:=d) (v:=v) h.tsz hd (fun i hi id hid=>hnn id (.inl (h.wfT i hi id hid))) (fun _ id hid=>hnn id (st.vwf id hid))
  exact this
 ·intro id cells hc c IE id' hid;simp only at hc;rcases F2 id with⟨bx,hx⟩|e
  ·rw[hg1 id bx hx] at hc;cases hc;exact hnn id' (st.nwf id _ hx c IE id' hid)
  ·rw[e] at hc;exact hnn id' (.inl (h.wfB id cells hc c IE id' hid))
 ·rintro b ⟨id,o,hl,hb⟩
  simp only at hl;rcases F2 id with⟨bx,hx⟩|e
  ·exact .inr (Nat.le_trans h.fr.step.size (st.nblk id bx b o hx hb).1)
  ·rw[e] at hl;exact h.ownd b ⟨id,o,hl,by rw[←st.old id (Ca hl)];exact hb⟩
 ·intro id bx b o hb hl hβ hlt;simp only at hb;rcases F2 id with⟨bx',hx⟩|e
  ·have:=(st.nblk id bx' b o hx hβ).1;have:=h.fr.step.size;omega
  ·rw[e] at hb;exact h.rngB id bx b o hb hl (by rw[←st.old id (by rw[hb];simp)];exact hβ) hlt
 ·intro i hi;obtain⟨h1,h2⟩:=h.pin i hi;exact⟨hnn _ (.inl h1),by rw[st.old _ h1];exact h2⟩
 ·intro id c b o hb hβ hlt;simp only at hb;rcases F2 id with⟨bx',hx⟩|e
  ·have:=(st.nblk id bx' b o hx hβ).1;have:=h.fr.step.size;omega
  ·rw[e] at hb;exact h.stp id c b o hb (by rw[←st.old id (by rw[hb];simp)];exact hβ) hlt
 ·rintro b hY hX
  have hb:b<w.heap.size:=Nat.lt_of_lt_of_le (h.Ylt b hY) h.fr.step.size;exact h.Yx b hY (Agw b hb hX)
 ·refine⟨st.os.trans h.fr.os,st.tape.trans h.fr.tape,st.output.trans h.fr.output,h.fr.step.trans st.ext (fun _ _ x=>x.elim),fun b j hb hL=>?_⟩
  have Rm:=st.ext.keep b (Nat.lt_of_lt_of_le hb h.fr.step.size) (fun x=>x)
  have hc:w'.cell? ⟨b,j,none⟩=w.cell? ⟨b,j,none⟩:=World.cell?_of_block (w:=w) Rm;have hf:w'.frozen? ⟨b,j,none⟩=w.frozen? ⟨b,j,none⟩:=World.frozen?_of_block (w:=w) Rm;rw[hc,hf];exact h.fr.rng b j hb hL
end
open Go.RowKit
section
variable {P:Program} {N:Nat} {w0:World} {X0:F9} {Y:Nat->Prop} {β β':Bt} {s:St} {a:Act} {w w':World} {o:Oper}
theorem HT (cs:List Value)(A:Nat->Prop):Av (Be w A β) (cs.map PV.sc) cs:=by
 induction cs with
 |nil=>trivial
 |cons v r ih=>exact⟨An.sc v,ih⟩
theorem NO (cs:List Value):(cs.map PV.sc).flatMap Ak=[]:=by
 induction cs with
 |nil=>rfl
 |cons v r ih=>exact ih
theorem Cb (h:B3 N w0 X0 Y β s a w)(x:Operand):Di w (Cd s.hp β Y) β (Bf s.tm x) (a.eval x):=by
 cases x with
 |tmp t=>
  show Di _ _ _ (s.tm t) (a.tmps.getD t undef);by_cases ht:t<N
  ·exact h.tms t ht
  ·rw[h.tmo t (Nat.le_of_not_lt ht)];exact An.top _
 |const v=>
  cases v with
  |agg cs=>exact⟨cs.toList,by simp[Act.eval],HT cs.toList _⟩
  |_=>exact An.sc _
 |func f=>exact An.sc _
 |global g=>exact An.sc _
theorem D0 (h:B3 N w0 X0 Y β s a w)(x:Operand):∀id∈A9 (Bf s.tm x),s.hp id≠none:=by
 cases x with
 |tmp t=>
  show ∀id∈A9 (s.tm t),_;by_cases ht:t<N
  ·exact h.wfT t ht
  ·rw[h.tmo t (Nat.le_of_not_lt ht)];intro id hid;cases hid
 |const v=>
  cases v with
  |agg cs=>
   intro id hid;have:A9 (.agg (cs.toList.map .sc))=[]:=NO cs.toList;simp only[Bf] at hid;rw[this] at hid;cases hid
  |_=>intro id hid;cases hid
 |func f=>intro id hid;cases hid
 |global g=>intro id hid;cases hid
theorem Vc {A:Nat->Prop}{v u:Value}(h:Di w A β (.sc v) u):u=v:=An.val h
theorem Bl (h:B3 N w0 X0 Y β s a w){x:Operand}{v:Value}(e:Bf s.tm x=.sc v):a.eval x=v:=by
 have:=Cb h x;rw[e] at this;exact Vc this
def Dd (P:Program)(a:Act)(w:World)(o:Oper)(Y:Nat->Prop)(β:Bt)(s:St)(v:PV)(fz:List Nat)(nw:List (Nat × A3)):Prop:=
 (∀id∈fz,∃f c,s.hp id=some (.ar f c))∧∃val w',(execOp a.eval o).run P w=.ok (.value val) w'∧(A8 s.hp nw=true->∃β',BH Y β ⟨s.tm,Ac s.hp fz⟩ w v nw val w' β')
theorem MP {v:PV}{val:Value}(hv:Di w (Cd s.hp β Y) β v val) (hr:∀id∈A9 v,s.hp id≠none):BH Y β s w v [] val w β:=
 ⟨rfl,rfl,rfl,Bh.refl _ _,fun _ _=>rfl,by simp,by simp,by simp,by simp,by simp,hv,fun id hid=>.inl (hr id hid)⟩
theorem Bg {v:PV}{val:Value}(Bv:(execOp a.eval o).run P w=.ok (.value val) w) (hv:Di w (Cd s.hp β Y) β v val) (hr:∀id∈A9 v,s.hp id≠none):Dd P a w o Y β s v [] []:=
 ⟨by simp,val,w,Bv,fun _=>⟨β,MP (s:=⟨s.tm,Ac s.hp []⟩) hv hr⟩⟩
theorem Bp {v:Value}(Bv:(execOp a.eval o).run P w=.ok (.value v) w):Dd P a w o Y β s (.sc v) [] []:=Bg Bv (An.sc v) (by intro id hid;cases hid)
structure Cx (w w':World) (c:Array Value) (e:TypeId):Prop where
 os:w'.os=w.os
 tape:w'.tape=w.tape
 output:w'.output=w.output
 old:∀b,b<w.heap.size->w'.heap[b]?=w.heap[b]?
 size:w'.heap.size=w.heap.size+1
 new:∃fz:Nat × Nat,w'.heap[w.heap.size]?=some (.cells c e fz)∧(fz.1=fz.2∨c.size<=fz.1)
theorem Cx.alloc (w:World)(c:Array Value)(e:TypeId):Cx w (w.alloc (.cells c e)) c e:=
 ⟨rfl,rfl,rfl,fun b hb=>Below.heap_alloc w _ b hb,by show (w.heap.push _).size=_;simp,(0,0),by show (w.heap.push _)[w.heap.size]?=_;simp,.inl rfl⟩
theorem Cx.drew {c:Array Value}{e:TypeId}(h:Cx w w' c e):Cx w w'.drew c e:=⟨h.os,h.tape,h.output,h.old,h.size,h.new⟩
section
variable {c:Array Value} {e:TypeId}
theorem Cx.step (h:Cx w w' c e):Bh (fun _=>False) w w':=
 ⟨by rw[h.size];omega,fun b hb _=>h.old b hb,fun b hb=>Gd.same (h.old b hb)⟩
theorem Cx.cell (h:Cx w w' c e)(j:Nat):w'.cell? ⟨w.heap.size,j,none⟩=c[j]?:=by
 obtain⟨fz,hn,_⟩:=h.new;simp[World.cell?,hn]
theorem Cx.frozen (h:Cx w w' c e){j:Nat}(hj:j<c.size):w'.frozen? ⟨w.heap.size,j,none⟩=false:=by
 obtain⟨fz,hn,hf⟩:=h.new;simp only[World.frozen?,hn];rcases hf with hf|hf<;>simp<;>omega
theorem Ib (w:World)(c:Array Value)(e:TypeId):HF (w.alloc (.cells c e)) w.heap.size=false:=by
 unfold HF World.frozen?;have:(w.alloc (.cells c e)).heap[w.heap.size]?=some (.cells c e (0,0)):=by show (w.heap.push _)[w.heap.size]?=_;simp
 simp only[this];simp
theorem Cx.bsz (h:Cx w w' c e):bsz w' w.heap.size=c.size:=by
 obtain⟨fz,hn,_⟩:=h.new;simp[Pv.bsz,hn]
end
theorem Mr {c:Array Value}{e:TypeId}{d:Nat}{bx:A3}{v:PV}{val:Value}(hg:Cx w w' c e)(hd:s.hp d=none)(hl:Cc (some bx))
  (Jc:Nx w' (Cd (Bu s.hp d (some bx)) (Bu β d (some (w.heap.size,0))) Y) (Bu β d (some (w.heap.size,0))) d bx)
  (hcw:∀cells,bx=.st cells->∀x∈cells,∀id'∈Ak x,s.hp id'≠none)
  (hv:Di w' (Cd (Bu s.hp d (some bx)) (Bu β d (some (w.heap.size,0))) Y) (Bu β d (some (w.heap.size,0))) v val)
  (hvr:∀id∈A9 v,s.hp id≠none∨id=d):BH Y β s w v [(d,bx)] val w' (Bu β d (some (w.heap.size,0))) where
 os:=hg.os
 tape:=hg.tape
 output:=hg.output
 ext:=hg.step
 old:=fun id hn=>Ad _ _ (by rintro rfl;exact hn hd)
 nlive:=by intro id b hm;simp at hm;obtain⟨rfl,rfl⟩:=hm;exact hl
 nbox:=by intro id b hm;simp at hm;obtain⟨rfl,rfl⟩:=hm;exact Jc
 nblk:=by
  intro id b x y hm hb;simp at hm;obtain⟨rfl,rfl⟩:=hm;rw[Ah] at hb;simp at hb;have:=hg.size;omega
 ninj:=by intro id b id' b' x y z hm Jv _ _;simp at hm Jv;rw[hm.1,Jv.1]
 nwf:=by intro id cells hm x hx id' hid;simp at hm;exact .inl (hcw cells hm.2.symm x hx id' hid)
 val:=hv
 vwf:=by
  intro id hid;rcases hvr id hid with h|rfl
  ·exact .inl h
  ·exact .inr ⟨bx,by simp⟩
theorem OQ {c:Array Value}{e:TypeId}(hg:Cx w w' c e){A A':Nat->Prop}(hA:∀b,b<w.heap.size->A' b->A b){cells:List PV}
  (h:∀(j:Nat) p,cells[j]?=some p->∃v,c[j]?=some v∧v.oneCell'=true∧An w A p v):Se w' A' ⟨w.heap.size,0,none⟩ cells:=by
 intro j p hj;obtain⟨v,hv,h1,ht⟩:=h j p hj;exact⟨v,by rw[Bq,Nat.zero_add,hg.cell];exact hv,h1,ht.step (hg.step.weaken (fun _ _ x=>x.elim)) hA⟩
theorem OZ {d:Nat}{bx:A3}(hwf:s.hp d=none):∀b,b<w.heap.size->Cd (Bu s.hp d (some bx)) (Bu β d (some (w.heap.size,0))) Y b->Cd s.hp β Y b:=by
 intro b hb hA;rcases hA with⟨id,o,hl,hβ⟩|hY
 ·by_cases e:id=d
  ·subst e;rw[Ah] at hβ;simp at hβ;omega
  ·rw[Ad _ _ e] at hl hβ;exact .inl ⟨id,o,hl,hβ⟩
 ·exact .inr hY
theorem Mi {c:Array Value}{e:TypeId}{d:Nat}{cells:List PV}{fz:List Nat}{v:PV}{val:Value}
  (N1:∀id∈fz,∃f c,s.hp id=some (.ar f c))
  (Bv:(execOp a.eval o).run P w=.ok (.value val) w') (hg:Cx w w' c e)
  (hc:∀(j:Nat) p,cells[j]?=some p->∃u,c[j]?=some u∧u.oneCell'=true∧An w (Cd (Ac s.hp fz) β Y) p u)
  (hv:(v=.ptr d 0∧val=.pointer (some ⟨w.heap.size,0,none⟩))∨∃es n cap,v=.view d es 0 n∧val=.slice (some ⟨w.heap.size,0,none⟩) n cap∧n<=cap∧cap*es<=c.size∧(es=1∨HF w' w.heap.size=false)):
  Dd P a w o Y β s v fz [(d,.ar false cells)]:=by
 refine⟨N1,val,w',Bv,fun L0=>⟨Bu β d (some (w.heap.size,0)),?_⟩⟩
 have hd:s.hp d=none:=(Az L0).1 d (.ar false cells) (by simp)
 have hd':Ac s.hp fz d=none:=C5.2 hd;refine Mr (s:=⟨s.tm,Ac s.hp fz⟩) hg hd' trivial ?_ (fun cells hx=>by cases hx) ?_ ?_
 ·refine .inr ⟨w.heap.size,0,Ah _ _ _,?_,fun _ j _ hj=>?_,(fun x=>by cases x)⟩
  ·exact OQ hg (OZ (s:=⟨s.tm,Ac s.hp fz⟩) hd') hc
  ·rw[hg.bsz] at hj;exact hg.frozen hj
 ·rcases hv with⟨rfl,rfl⟩|⟨es,n,cap,rfl,rfl,hn,Qb,Aw9⟩
  ·exact⟨w.heap.size,0,Ah _ _ _,rfl⟩
  ·exact .inr ⟨w.heap.size,0,0,cap,Ah _ _ _,rfl,.inl rfl,hn,⟨by rw[hg.bsz];omega,Aw9⟩,by rw[hg.size];omega⟩
 ·intro id hid;rcases hv with⟨rfl,_⟩|⟨es,n,cap,rfl,_⟩<;>(simp[A9,Bn,Ak] at hid;exact .inr hid)
theorem DI {c:Array Value}{e:TypeId}{d:Nat}{cells:List PV}
  (Bv:(execOp a.eval o).run P w=.ok (.value (.pointer (some ⟨w.heap.size,0,none⟩))) w') (hg:Cx w w' c e)
  (hc:∀(j:Nat) p,cells[j]?=some p->∃u,c[j]?=some u∧Be w (Cd s.hp β Y) β p u) (hr:∀x∈cells,∀id∈Ak x,s.hp id≠none):
  Dd P a w o Y β s (.ptr d 0) [] [(d,.st cells)]:=by
 refine⟨by simp,_,w',Bv,fun L0=>⟨Bu β d (some (w.heap.size,0)),?_⟩⟩
 have hd:s.hp d=none:=(Az L0).1 d (.st cells) (by simp)
 refine Mr (s:=⟨s.tm,Ac s.hp []⟩) hg hd trivial ?_ (fun cs hx x VE id hid=>?_) ?_ ?_
 ·refine⟨w.heap.size,0,Ah _ _ _,fun j p hj=>?_,fun j hj=>?_⟩
  ·obtain⟨u,hu,hp⟩:=hc j p hj;refine⟨u,by rw[Nat.zero_add,hg.cell];exact hu,hp.step (hg.step.weaken (fun _ _ x=>x.elim)) (OZ (s:=⟨s.tm,Ac s.hp []⟩) hd) fun id hid=>Ad _ _ ?_⟩
   rintro rfl
   exact hr p (List.mem_of_getElem? hj) id hid hd
  ·rw[Nat.zero_add];obtain⟨u,hu,_⟩:=hc j _ (List.getElem?_eq_getElem hj)
   exact hg.frozen (by
    rcases Nat.lt_or_ge j c.size with h|h
    ·exact h
    ·rw[Array.getElem?_eq_none h] at hu;cases hu)
 ·injection hx with hx;subst hx;exact hr x VE id hid
 ·exact⟨w.heap.size,0,Ah _ _ _,rfl⟩
 ·intro id hid;simp[A9,Bn,Ak] at hid;exact .inr hid
end
open Go.RowKit
section
variable {R:Type} {r:R} {P:Program} {N:Nat} {w0:World} {X0:F9} {Y:Nat->Prop} {β β':Bt} {s:St} {a:Act} {w w':World} {o:Oper}
theorem Ij {t:TypeId}{n:Nat}(h:(P.info? t).map (·.size)=some n) (w:World):(sizeOf t).run P w=.ok n w:=by
 cases hi:P.info? t with
 |none=>rw[hi] at h;cases h
 |some i=>rw[hi] at h;simp at h;simp[sizeOf,typeInfo,hi,h]
theorem XE {t:TypeId}{n:Nat}(h:At P t=n)(hn:0<n):(P.info? t).map (·.size)=some n:=by
 unfold At at h;cases hi:(P.info? t).map (·.size) with
 |none=>rw[hi] at h;simp at h;omega
 |some i=>rw[hi] at h;simp at h;rw[h]
theorem J6 {t:TypeId}{d:TypeDesc}(h:P.underlying t=some d)(w:World):(isAgg t).run P w=.ok (Bc P t) w:=by
 unfold isAgg Bc;rw[h];simp only[Sem.run_bind,run_underlying h,Result.andThen_ok];cases d<;>rfl
theorem PS {t:TypeId}{v:Value}{K:PV->Option R}(h:cvK P t v K=some r):∃p,K p=some r∧A9 p=[]∧∀(w:World)(A:Nat->Prop)(β:Bt),Di w A β p v:=by
 have sc:∀v:Value,K (.sc v)=some r->∃p,K p=some r∧A9 p=[]∧∀(w:World) (A:Nat->Prop) (β:Bt),Di w A β p v:=fun v h=>⟨_,h,rfl,fun w A β=>An.sc v⟩
 unfold cvK at h;split at h
 ·rename_i cs;obtain⟨hl,h⟩:=Ag h;obtain⟨xs,h,hxl,hx⟩:=O7 h;have hl:=Nat.eq_of_beq_eq_true hl;refine⟨_,h,?_,fun w A β=>⟨cs.toList,by simp,?_⟩⟩
  ·show xs.flatMap Ak=[];rw[List.flatMap_eq_nil_iff];intro c hc;obtain⟨j,hj⟩:=List.mem_iff_getElem?.1 hc;exact F5 (hx j c hj).1
  ·refine Av.of_at (by rw[hxl,hl]) fun i c u hc hu=>?_
   obtain⟨hT,p,hp,_,Un⟩:=hx i c hc;refine (It hT).2 (Un w A β u ?_).1;rw[Nat.zero_add,List.getElem?_map,hu] at hp;simp at hp;subst hp;exact An.sc u
 ·split at h
  ·exact⟨_,h,rfl,fun w A β=>An.lnil true _⟩
  ·cases h
 ·exact sc _ h
theorem Sm (h:B3 N w0 X0 Y β s a w){x:Operand}(Bv:(execOp a.eval o).run P w=.ok (.value (a.eval x)) w) {K:PV->Option R}(hk:Vj P o.type s.tm x K=some r):
  ∃v,K v=some r∧Dd P a w o Y β s v [] []:=by
 have dflt:K (Bf s.tm x)=some r->∃v,K v=some r∧Dd P a w o Y β s v [] []:=fun hk=>⟨_,hk,Bg Bv (Cb h x) (D0 h x)⟩
 cases x with
 |const v=>
  obtain⟨p,hk,hr,hv⟩:=PS hk;exact⟨p,hk,Bg Bv (hv _ _ _) (by rw[hr];simp)⟩
 |tmp t=>exact dflt hk
 |func f=>exact dflt hk
 |global g=>exact dflt hk
theorem SL {x:Operand}(ho:o.op=.move x):(execOp a.eval o).run P w=.ok (.value (a.eval x)) w:=by unfold execOp;rw[ho];rfl
theorem IZ {x:Operand}(ho:o.op=.assign x):(execOp a.eval o).run P w=.ok (.value (a.eval x)) w:=by unfold execOp;rw[ho];rfl
theorem NH (h:B3 N w0 X0 Y β s a w){c x y:Operand}(ho:o.op=.pick c x y){K:PV->Option R}(hk:(A5 (Bf s.tm c) fun t=>Cg t (K (Bf s.tm x)) (K (Bf s.tm y)))=some r):
  ∃v,K v=some r∧Dd P a w o Y β s v [] []:=by
 obtain⟨b,hb,hk⟩:=Ct hk;have hc:=Bl h hb;rcases Ju hk with⟨rfl,hk⟩|⟨rfl,hk⟩
 ·exact⟨_,hk,Bg (by unfold execOp;rw[ho];simp[asBool,hc]) (Cb h x) (D0 h x)⟩
 ·exact⟨_,hk,Bg (by unfold execOp;rw[ho];simp[asBool,hc]) (Cb h y) (D0 h y)⟩
theorem Ld {t:TypeId}{K:List PV->Option R}(h:Fu P t K=some r):∃(v:Value)(cs:List PV),K cs=some r∧Lt P t=some v∧cs.length=(Gc P t).length∧cs.length=v.cells.toList.length∧cs.length=At P t ∧
  ∀(j:Nat) c,cs[j]?=some c->Ku c∧∃u,v.cells.toList[j]?=some u∧u.oneCell'=true∧∀(w:World) (A:Nat->Prop),An w A c u:=by
 unfold Fu at h;obtain⟨v,hz,h⟩:=Bm h;obtain⟨hl,h⟩:=Ag h;obtain⟨cs,h,Lp,hc⟩:=O7 h;simp only[Bool.and_eq_true] at hl;have Ys:=Nat.eq_of_beq_eq_true hl.1
 have GR:(Gc P t).length=At P t:=by
  have:=hl.2;simp only[G3,Bool.and_eq_true] at this;exact Nat.eq_of_beq_eq_true this.2
 refine⟨v,cs,h,hz,Lp,by rw[Lp,Ys],by rw[Lp,GR],fun j c hj=>?_⟩
 obtain⟨hT,p,hp,_,Un⟩:=hc j c hj;rw[Nat.zero_add,List.getElem?_map] at hp;cases hu:v.cells.toList[j]? with
 |none=>rw[hu] at hp;cases hp
 |some u=>
  rw[hu] at hp;simp at hp;subst hp;exact⟨hT,u,rfl,(Un default (fun _=>False) (fun _=>none) u (An.sc u)).2,fun w A=>(Un w A (fun _=>none) u (An.sc u)).1⟩
theorem Qw {t:TypeId}{v:Value}(h:Lt P t=some v)(w:World):(zeroValue t).run P w=.ok v w:=by
 unfold Lt at h;cases hi:P.info? t with
 |none=>rw[hi] at h;cases h
 |some i=>rw[hi] at h;simp at h;simp[zeroValue,typeInfo,hi,h]
theorem IX {t:TypeId}(ho:o.op=.alloc t){d:Nat}{K:PV->List Nat->List (Nat × A3)->Option R}
  (hk:(Fu P t fun cs=>K (.ptr d 0) [] [(d,Aa7 P t cs)])=some r):∃v fz nw,K v fz nw=some r∧Dd P a w o Y β s v fz nw:=by
 obtain⟨z,cs,hk,hz,_,hl,_,hc⟩:=Ld hk
 have Bv:(execOp a.eval o).run P w=.ok (.value (.pointer (some ⟨w.heap.size,0,none⟩))) (w.alloc (.cells z.cells t)):=by
  unfold execOp;rw[ho];simp[Instr.alloc,Qw hz,newVar,newRow]
 have hg:=Cx.alloc w z.cells t;refine⟨_,_,_,hk,?_⟩;unfold Aa7;cases M7 P t
 ·refine DI Bv hg (fun j p hj=>?_) fun x hx id hid=>?_
  ·obtain⟨hT,u,hu,_,hv⟩:=hc j p hj;exact⟨u,by simpa using hu,(It hT).2 (hv _ _)⟩
  ·obtain⟨j,hj⟩:=List.mem_iff_getElem?.1 hx;rw[F5 (hc j x hj).1] at hid;cases hid
 ·refine Mi (by simp) Bv hg (fun j p hj=>?_) (.inl ⟨rfl,rfl⟩)
  obtain⟨hT,u,hu,h1,hv⟩:=hc j p hj;exact⟨u,by simpa using hu,h1,hv _ _⟩
end
open Go.RowKit
section
variable {R:Type} {r:R} {P:Program} {N:Nat} {w0:World} {X0:F9} {Y:Nat->Prop} {β β':Bt} {s:St} {a:Act} {w w':World} {o:Oper} {A:Nat->Prop}
theorem Mc {t:TypeId}(h:G3 P t=true):(∃d,P.underlying t=some d)∧(Gc P t).length=At P t∧(P.info? t).map (·.size)=some (At P t):=by
 simp only[G3,Bool.and_eq_true] at h;refine⟨Option.isSome_iff_exists.1 h.1,Nat.eq_of_beq_eq_true h.2,?_⟩;unfold At;cases hi:P.info? t with
 |none=>unfold Program.underlying at h;rw[hi] at h;cases h.1
 |some i=>simp
theorem J7 {v:Value}(h:v.oneCell'=true):v.cells = #[v]:=by cases v<;>first|rfl|cases h
theorem PZ {p:PV}{v:Value}{ts:List CT}{K:List PV->Option R}(hv:Di w A β p v)(hl:(cellsOf p).length=ts.length) (h:K4 ts (cellsOf p) 0 K=some r):
  ∃cs,K cs=some r∧cs.length=ts.length∧Av (Be w A β) cs v.cells.toList∧(∀u∈v.cells.toList,u.oneCell'=true)∧(∀c∈cs,∀id∈Ak c,id∈A9 p)∧∀c∈cs,(∀x,c ≠ .agg x)∧(∀x,c ≠ .tup x):=by
 obtain⟨cs,h,Lp,Uu,hc⟩:=O4 h;refine⟨cs,h,Lp,?_⟩
 have single:(∀x,p ≠ .agg x)->cellsOf p=[p]:=by
  intro hp;cases p<;>first|rfl|exact absurd rfl (hp _)
 by_cases Ew:∃x,p=.agg x
 ·obtain⟨x,rfl⟩:=Ew;obtain⟨vs,rfl,h2⟩:=hv;have Dv:cs.length=vs.length:=by rw[Lp,←hl];exact h2.len
  have key:∀(i:Nat) c u,cs[i]?=some c->vs[i]?=some u->Be w A β c u∧u.oneCell'=true:=by
   intro i c u Nf hu;obtain⟨q,hq,_,_,hqv⟩:=hc i c Nf;rw[Nat.zero_add] at hq;exact hqv w A β u (h2.at_ hq hu)
  refine⟨Av.of_at Dv fun i c u Nf hu=>(key i c u Nf hu).1,?_,?_,Uu⟩
  ·intro u hu;obtain⟨i,hi⟩:=List.mem_iff_getElem?.1 (show u∈vs from hu)
   have hlt:i<vs.length:=by
    rcases Nat.lt_or_ge i vs.length with h|h
    ·exact h
    ·rw[List.getElem?_eq_none h] at hi;cases hi
   exact (key i _ u (List.getElem?_eq_getElem (by omega)) hi).2
  ·intro c IE id hid;obtain⟨i,hi⟩:=List.mem_iff_getElem?.1 IE;obtain⟨q,hq,_,hr,_⟩:=hc i c hi;rw[Nat.zero_add] at hq;show id∈x.flatMap Ak;exact List.mem_flatMap.2 ⟨q,List.mem_of_getElem? hq,hr id hid⟩
 ·have hp:∀x,p ≠ .agg x:=fun x e=>Ew ⟨x,e⟩
  rw[single hp] at hl hc;have Ys:cs.length=1:=by rw[Lp,←hl];rfl
  match cs,Ys with
  |[c],_=>
   obtain⟨q,hq,hf,hr,hqv⟩:=hc 0 c rfl;simp at hq;subst hq;have L9:∀x,p ≠ .tup x:=by rintro x rfl;exact hf
   have Kv:Be w A β p v:=(S0 hp).1 ((Lm L9).1 hv);obtain⟨h5,h6⟩:=hqv w A β v Kv;rw[J7 h6];refine⟨⟨h5,trivial⟩,?_,?_,Uu⟩
   ·intro u hu;simp at hu;subst hu;exact h6
   ·intro c' Nf id hid;simp at Nf;subst Nf;have:=hr id hid;cases p<;>first|exact this|exact absurd rfl (hp _)|exact absurd rfl (L9 _)
end
open Go.RowKit
section
variable {R:Type} {r:R} {P:Program} {N:Nat} {w0:World} {X0:F9} {Y:Nat->Prop} {β β':Bt} {s:St} {a:Act} {w w':World} {o:Oper} {A:Nat->Prop}
theorem Av.get {α β':Type}{R':α->β'->Prop}{zs:List α}{bs:List β'}(h:Av R' zs bs){i:Nat}{x:α}(hx:zs[i]?=some x):∃y,bs[i]?=some y∧R' x y:=by
 have hlt:i<zs.length:=by
  rcases Nat.lt_or_ge i zs.length with h|h
  ·exact h
  ·rw[List.getElem?_eq_none h] at hx;cases hx
 have hb:bs[i]?=some (bs[i]'(by rw[←h.len];exact hlt)):=List.getElem?_eq_getElem _
 exact⟨_,hb,h.at_ hx hb⟩
theorem Ad8 {p:PV}{v:Value}{ts:List CT}{K:List PV->Option R}(hv:Di w A β p v)(hl:(cellsOf p).length=ts.length) (h:N8 ts (cellsOf p) 0 K=some r):
  ∃cs,K cs=some r∧cs.length=ts.length∧Av (An w A) cs v.cells.toList∧∀u∈v.cells.toList,u.oneCell'=true:=by
 obtain⟨cs,h,Lp,hc⟩:=O7 h;refine⟨cs,h,Lp,?_⟩;by_cases Ew:∃x,p=.agg x
 ·obtain⟨x,rfl⟩:=Ew;obtain⟨vs,rfl,h2⟩:=hv;have Dv:cs.length=vs.length:=by rw[Lp,←hl];exact h2.len
  have key:∀(i:Nat) c u,cs[i]?=some c->vs[i]?=some u->An w A c u∧u.oneCell'=true:=by
   intro i c u Nf hu;obtain⟨_,q,hq,_,hqv⟩:=hc i c Nf;rw[Nat.zero_add] at hq;exact hqv w A β u (h2.at_ hq hu)
  refine⟨Av.of_at Dv fun i c u Nf hu=>(key i c u Nf hu).1,?_⟩
  intro u hu;obtain⟨i,hi⟩:=List.mem_iff_getElem?.1 (show u∈vs from hu)
  have hlt:i<vs.length:=by
   rcases Nat.lt_or_ge i vs.length with h|h
   ·exact h
   ·rw[List.getElem?_eq_none h] at hi;cases hi
  exact (key i _ u (List.getElem?_eq_getElem (by omega)) hi).2
 ·have hp:∀x,p ≠ .agg x:=fun x e=>Ew ⟨x,e⟩
  have single:cellsOf p=[p]:=by cases p<;>first|rfl|exact absurd rfl (hp _)
  rw[single] at hl hc;have Ys:cs.length=1:=by rw[Lp,←hl];rfl
  match cs,Ys with
  |[c],_=>
   obtain⟨_,q,hq,hf,hqv⟩:=hc 0 c rfl;simp at hq;subst hq;have L9:∀x,p ≠ .tup x:=by rintro x rfl;exact hf
   have Kv:Be w A β p v:=(S0 hp).1 ((Lm L9).1 hv);obtain⟨h5,h6⟩:=hqv w A β v Kv;rw[J7 h6];exact⟨⟨h5,trivial⟩,fun u hu=>by simp at hu;subst hu;exact h6⟩
theorem UK (h:B3 N w0 X0 Y β s a w){t:TypeId}{x:Operand}(ho:o.op=.box t x){d:Nat}{K:PV->List Nat->List (Nat × A3)->Option R}
    (hk:(Au (G3 P t&&Nat.beq (cellsOf (Bf s.tm x)).length (Gc P t).length)
      (bif M7 P t then N8 (Gc P t) (cellsOf (Bf s.tm x)) 0 fun cs=>K (.ptr d 0) [] [(d,.ar false cs)]
       else K4 (Gc P t) (cellsOf (Bf s.tm x)) 0 fun cs=>K (.ptr d 0) [] [(d,.st cs)]))=some r):∃v fz nw,K v fz nw=some r∧Dd P a w o Y β s v fz nw:=by
  obtain⟨hl,hk⟩:=Ag hk
  simp only[Bool.and_eq_true] at hl
  have hl:=Nat.eq_of_beq_eq_true hl.2
  have Bv:(execOp a.eval o).run P w=.ok (.value (.pointer (some ⟨w.heap.size,0,none⟩))) (w.alloc (.cells (a.eval x).cells t)):=by
    unfold execOp
    rw[ho]
    simp[Instr.box,newVar,newRow]
  have hg:=Cx.alloc w (a.eval x).cells t
  cases ha:M7 P t
  · rw[ha] at hk
    obtain⟨cs,hk,_,h2,_,hr,_⟩:=PZ (Cb h x) hl hk
    refine⟨_,_,_,hk,DI Bv hg (fun j p hj=>?_) fun c hc id hid=>D0 h x id (hr c hc id hid)⟩
    obtain⟨u,hu,hp⟩:=h2.get hj
    exact⟨u,by simpa using hu,hp⟩
  · rw[ha] at hk
    obtain⟨cs,hk,_,h2,h1⟩:=Ad8 (Cb h x) hl hk
    refine⟨_,_,_,hk,Mi (by simp) Bv hg (fun j p hj=>?_) (.inl ⟨rfl,rfl⟩)⟩
    obtain⟨u,hu,hp⟩:=h2.get hj
    exact⟨u,by simpa using hu,h1 u (List.mem_of_getElem? hu),hp⟩
theorem NC {c:PV}(h1:∀x,c ≠ .agg x)(h2:∀x,c ≠ .tup x):A9 c=Ak c:=by
 cases c<;>first|rfl|exact absurd rfl (h1 _)|exact absurd rfl (h2 _)
theorem R5 {t:TypeId}{ad:Addr}{cs:List PV}{p:PV}(K1:G3 P t=true)(Dv:cs.length=(Gc P t).length)
  (Uu:∀c∈cs,(∀x,c ≠ .agg x)∧(∀x,c ≠ .tup x))
  (hc:∀(j:Nat) c,cs[j]?=some c->∃v,w.cell? (ad.add j)=some v∧Be w A β c v)
  (hp:(Bc P t=true∧p=.agg cs)∨(Bc P t=false∧cs=[p])):∃val,(loadVar t ad).run P w=.ok val w∧Di w A β p val:=by
 obtain⟨⟨d,hd⟩,hl,hi⟩:=Mc K1;rcases hp with⟨Ew,rfl⟩|⟨Ew,rfl⟩
 ·have hf:∀j,j<At P t->w.cell? (ad.add j)=some ((w.cell? (ad.add j)).getD undef):=by
   intro j hj;obtain⟨v,hv,_⟩:=hc j _ (List.getElem?_eq_getElem (by omega))
   rw[hv];rfl
  refine⟨_,?_,(List.range (At P t)).map (fun j=>(w.cell? (ad.add j)).getD undef),rfl,?_⟩
  ·simp only[loadVar,Sem.run_bind,J6 hd,Ew,Result.andThen_ok,if_true,Ij hi,run_loadCells w ad (At P t) _ hf];simp
  ·refine Av.of_at (by simp;omega) fun i c u Nf hu=>?_
   obtain⟨v,hv,V0⟩:=hc i c Nf
   have hlt:i<At P t:=by
    rcases Nat.lt_or_ge i cs.length with h|h
    ·omega
    ·rw[List.getElem?_eq_none h] at Nf;cases Nf
   rw[List.getElem?_map,List.getElem?_range hlt] at hu;simp[hv] at hu;subst hu;exact V0
 ·obtain⟨v,hv,V0⟩:=hc 0 p rfl;have hn:=Uu p (by simp)
  have h0:ad.add 0=ad:=by simp[Addr.add]
  rw[h0] at hv;refine⟨v,?_,(Lm hn.2).2 ((S0 hn.1).2 V0)⟩;simp only[loadVar,Sem.run_bind,J6 hd,Ew,Result.andThen_ok];simp[hv]
theorem WA {hp:Nat->Option A3}{id:Nat}{c:List PV}(h:rd hp id=some c):hp id=some (.st c)∨∃f,hp id=some (.ar f c):=by
 unfold rd at h;split at h
 ·rename_i e;simp at h;subst h;exact .inl e
 ·rename_i f _ e;simp at h;subst h;exact .inr ⟨_,e⟩
 ·cases h
theorem GB {hp:Nat->Option A3}{id:Nat}{c:List PV}(h:Hf hp id=some c):∃f,hp id=some (.ar f c):=by
 unfold Hf at h;split at h
 ·rename_i e;simp at h;subst h;exact⟨_,e⟩
 ·cases h
theorem Xu (h:B3 N w0 X0 Y β s a w){id:Nat}{c:List PV}(hr:rd s.hp id=some c){b ob:Nat}(hβ:β id=some (b,ob)) {j:Nat}{p:PV}(hj:c[j]?=some p):
  ∃v,w.cell? ⟨b,ob+j,none⟩=some v∧Be w (Cd s.hp β Y) β p v:=by
 rcases WA hr with hb|⟨f,hb⟩
 ·obtain⟨b',o',h1,h2,_⟩:=h.box id _ hb;rw[hβ] at h1;simp at h1;obtain⟨rfl,rfl⟩:=h1;exact h2 j p hj
 ·rcases h.box id _ hb with⟨h1,_⟩|⟨b',o',h1,h2,_⟩
  ·rw[hβ] at h1;cases h1
  ·rw[hβ] at h1;simp at h1;obtain⟨rfl,rfl⟩:=h1
   obtain⟨v,hv,_,ht⟩:=h2 j p hj;rw[Bq] at hv;refine⟨v,hv,?_⟩;cases ht with
   |sc=>exact An.sc _
   |top=>exact An.top _
   |ub=>exact An.ub _
   |lnil=>exact An.lnil _ _
   |lemp=>exact An.lemp _ _ _
   |lst es n cells a cap f hs hb hA hn hc h1 hr=>exact An.lst es n cells a cap f hs hb hA hn hc h1 hr
theorem Ii:∀{ts:List CT}{cells:List PV}{off:Nat}{K:List PV->Option R},N8 ts cells off K=some r->K4 ts cells off K=some r
 |[],_,_,_,h=>h
 |.int k::ts,cells,off,K,h=>by
  obtain⟨n,hp,h⟩:=Dh (show Ai k (cells.getD off .top) _=some r from h)
  show Ai k _ _=_;rw[hp];simp only[Ai,if_true];exact Ii h
 |.bool::ts,cells,off,K,h=>by
  obtain⟨n,hp,h⟩:=Ct (show A5 (cells.getD off .top) _=some r from h)
  show A5 _ _=_;rw[hp];exact Ii h
 |.str::ts,cells,off,K,h=>by
  obtain⟨n,hp,h⟩:=Cm (show En (cells.getD off .top) _=some r from h)
  show En _ _=_;rw[hp];exact Ii h
 |.sl es::ts,cells,off,K,h=>by
  obtain⟨z,n,c,h,hp⟩:=Eg (show Eu es (cells.getD off .top) _=some r from h)
  change fcK (.sl es) (cells.getD off .top) (fun c=>K4 ts cells (off+1) fun r=>K (c::r))=some r
  unfold fcK;dsimp only;unfold fsK;rcases hp with hp|⟨hp,rfl,rfl,rfl⟩
  ·rw[hp];simp only[Eu,Nat.beq_refl,cond_true];exact Ii h
  ·rw[hp];exact Ii h
 |.any::ts,cells,off,K,h=>by
  have hK:∀v,N8 ts cells (off+1) (fun r=>K (.sc v::r))=some r->K4 ts cells (off+1) (fun r=>K (.sc v::r))=some r:=fun v h=>Ii h
  have h:VH (cells.getD off .top) (fun v=>N8 ts cells (off+1) fun r=>K (.sc v::r))=some r:=h
  show VH (cells.getD off .top) (fun v=>K4 ts cells (off+1) fun r=>K (.sc v::r))=some r
  unfold VH at h ⊢;split at h
  ·rename_i e;exact hK _ h
  ·exact hK _ h
  ·cases h
theorem An.unz {w:World}{A:Nat->Prop}{z:Bool}{es n:Nat}{c:List PV}{u:Value}(h:An w A (.lst z es n c) u):An w A (.lst false es n c) u:=by
 cases h with
 |lnil z es=>exact .lnil false es
 |lemp es a cap=>exact .lemp es a cap
 |lst es n c a cap f h1 h2 h3 h4 h5 h6 h7=>exact .lst es n c a cap f h1 h2 h3 h4 h5 h6 h7
theorem VD {w:World}{A:Nat->Prop}{β:Bt}{p:PV}{u:Value}(h:Be w A β p u):Be w A β (GJ p) u:=by
 cases p with
 |lst z es n c=>exact An.unz h
 |_=>exact h
theorem ND (p:PV):Ak (GJ p)=Ak p:=by cases p<;>rfl
theorem DK {w:World}{A:Nat->Prop}{β:Bt}:∀{cs:List PV}{vs:List Value},Av (Be w A β) cs vs->Av (Be w A β) (cs.map GJ) vs
 |[],[],_=>trivial
 |_::_,_::_,h=>⟨VD h.1,DK h.2⟩
 |[],_::_,h=>h.elim
 |_::_,[],h=>h.elim
theorem SP {w:World}{A:Nat->Prop}{β:Bt}{p:PV}{u:Value}(h:Di w A β p u):Di w A β (LQ p) u:=by
 cases p with
 |agg cs=>
  obtain⟨vs,h1,h2⟩:=(show F7 w A β (.agg cs) u from h)
  exact⟨vs,h1,DK h2⟩
 |lst z es n c=>exact An.unz (show An w A (.lst z es n c) u from h)
 |_=>exact h
theorem TO (p:PV):A9 (LQ p)=A9 p:=by
 cases p with
 |agg cs=>
  show (cs.map GJ).flatMap Ak=cs.flatMap Ak
  induction cs with
  |nil=>rfl
  |cons a l ih=>rw[List.map_cons,List.flatMap_cons,List.flatMap_cons,ih,ND]
 |_=>rfl
theorem Ae6 {nz:Bool}{hp:Nat->Option A3}{t:TypeId}{x:PV}{K:PV->Option R}(h:R3 nz P (rd hp) (Hf hp) t x K=some r):
  Q9 P (rd hp) t x K=some r∨Q9 P (rd hp) t x (fun v=>K (LQ v))=some r:=by
 have h':Q9 P (rd hp) t x K=some r∨Q9 P (rd hp) t x (fun v=>K (bif nz then v else LQ v))=some r:=by
  unfold R3 at h;unfold Q9;split at h
  ·rename_i id off;obtain⟨hb,h⟩:=Ag h;rw[hb];show C7 _ _=_∨C7 _ _=_;split at h
   ·rename_i c hc;obtain⟨f,Jc⟩:=GB hc;have:rd hp id=some c:=by unfold rd;rw[Jc]
    rw[this];exact .inr (Ii h)
   ·exact .inl h
  ·exact .inr h
  ·cases h
 cases nz
 ·exact h'
 ·exact .inl (h'.elim id id)
theorem DO (h:B3 N w0 X0 Y β s a w){t:TypeId}{x:PV}{u:Value}(hx:Di w (Cd s.hp β Y) β x u) {K:PV->Option R}(hk:Q9 P (rd s.hp) t x K=some r):
  ∃v ad val,K v=some r∧u=.pointer (some ad)∧(loadVar t ad).run P w=.ok val w∧Di w (Cd s.hp β Y) β v val∧∀i∈A9 v,s.hp i≠none:=by
 unfold Q9 at hk;split at hk
 ·rename_i id off;obtain⟨K1,hk⟩:=Ag hk;obtain⟨c,hr,hk⟩:=Bm hk;obtain⟨cs,hk,hl,Uu,hc⟩:=O4 hk;obtain⟨b,ob,hβ,Cf⟩:=hx
  have hcell:∀(j:Nat) q,cs[j]?=some q->∃v,w.cell? ((⟨b,ob+off,none⟩:Addr).add j)=some v∧Be w (Cd s.hp β Y) β q v:=by
   intro j q hq;obtain⟨p,hp,_,_,Un⟩:=hc j q hq;obtain⟨v,hv,V0⟩:=Xu h hr hβ hp;exact⟨v,by rw[Bq,Nat.add_assoc];exact hv,(Un _ _ _ _ V0).1⟩
  have Qt:∀q∈cs,∀i∈Ak q,s.hp i≠none:=by
   intro q hq i hi;obtain⟨j,hj⟩:=List.mem_iff_getElem?.1 hq;obtain⟨p,hp,_,hpr,_⟩:=hc j q hj;rcases WA hr with hb|⟨f,hb⟩
   ·exact h.wfB id c hb p (List.mem_of_getElem? hp) i (hpr i hi)
   ·obtain⟨v,hv,V0⟩:=Xu h hr hβ hp;exfalso;have B4:=hpr i hi;rcases h.box id _ hb with⟨_,rfl⟩|⟨b',o',h1,h2,_⟩
    ·simp at hp
    ·obtain⟨v',_,_,ht⟩:=h2 _ p hp;cases ht<;>cases B4
  rcases FS hk with⟨Ew,D3⟩|⟨Ew,q,rfl,D3⟩
  ·obtain⟨val,Sk,hv⟩:=R5 K1 hl Uu hcell (.inl ⟨Ew,rfl⟩);refine⟨_,_,val,D3,Cf,Sk,hv,fun i hi=>?_⟩
   obtain⟨q,hq,hi⟩:=List.mem_flatMap.1 (show i∈cs.flatMap Ak from hi)
   exact Qt q hq i hi
  ·obtain⟨val,Sk,hv⟩:=R5 K1 hl Uu hcell (.inr ⟨Ew,rfl⟩);refine⟨_,_,val,D3,Cf,Sk,hv,fun i hi=>Qt q (by simp) i ?_⟩
   have hn:=Uu q (by simp)
   rw[NC hn.1 hn.2] at hi;exact hi
 ·rename_i c off;obtain⟨K1,hk⟩:=Ag hk;obtain⟨cs,hk,hl,hc⟩:=O7 hk;obtain⟨ad,Cf,hs,hb,hA,hrd⟩:=hx
  have Uu:∀q∈cs,(∀x,q ≠ .agg x)∧(∀x,q ≠ .tup x):=by
   intro q hq;obtain⟨j,hj⟩:=List.mem_iff_getElem?.1 hq;exact⟨Sz (hc j q hj).1,OV (hc j q hj).1⟩
  have hcell:∀(j:Nat) q,cs[j]?=some q->∃v,w.cell? ((ad.add off).add j)=some v∧Be w (Cd s.hp β Y) β q v:=by
   intro j q hq;obtain⟨hT,p,hp,Xo,Un⟩:=hc j q hq;obtain⟨v,hv,_,ht⟩:=hrd (off+j) p hp;exact⟨v,by rw[add_add];exact hv,(It hT).2 (Un w (Cd s.hp β Y) β v ((It Xo).2 ht)).1⟩
  have Qt:∀q∈cs,Ak q=[]:=by
   intro q hq;obtain⟨j,hj⟩:=List.mem_iff_getElem?.1 hq;exact F5 (hc j q hj).1
  rcases FS hk with⟨Ew,D3⟩|⟨Ew,q,rfl,D3⟩
  ·obtain⟨val,Sk,hv⟩:=R5 K1 hl Uu hcell (.inl ⟨Ew,rfl⟩);refine⟨_,_,val,D3,Cf,Sk,hv,fun i hi=>?_⟩
   obtain⟨q,hq,hi⟩:=List.mem_flatMap.1 (show i∈cs.flatMap Ak from hi)
   rw[Qt q hq] at hi;cases hi
  ·obtain⟨val,Sk,hv⟩:=R5 K1 hl Uu hcell (.inr ⟨Ew,rfl⟩);refine⟨_,_,val,D3,Cf,Sk,hv,fun i hi=>?_⟩
   have hn:=Uu q (by simp)
   rw[NC hn.1 hn.2,Qt q (by simp)] at hi
   cases hi
 ·cases hk
theorem IV (h:B3 N w0 X0 Y β s a w){t:TypeId}{x:PV}{u:Value}(hx:Di w (Cd s.hp β Y) β x u) {nz:Bool}{K:PV->Option R}(hk:R3 nz P (rd s.hp) (Hf s.hp) t x K=some r):
  ∃v ad val,K v=some r∧u=.pointer (some ad)∧(loadVar t ad).run P w=.ok val w∧Di w (Cd s.hp β Y) β v val∧∀i∈A9 v,s.hp i≠none:=by
 rcases Ae6 hk with hk|hk
 ·exact DO h hx hk
 ·obtain⟨v,ad,val,h1,h2,h3,h4,h5⟩:=DO h hx hk;exact⟨LQ v,ad,val,h1,h2,h3,SP h4,by rw[TO];exact h5⟩
theorem MV (h:B3 N w0 X0 Y β s a w){t:TypeId}{x:Operand}(ho:o.op=.load t x){nz:Bool}{K:PV->Option R}(hk:R3 nz P (rd s.hp) (Hf s.hp) t (Bf s.tm x) K=some r):
  ∃v,K v=some r∧Dd P a w o Y β s v [] []:=by
 obtain⟨v,ad,val,C9,Cf,hl,hv,hr⟩:=IV h (Cb h x) hk;refine⟨v,C9,Bg ?_ hv hr⟩;unfold execOp;rw[ho];simp[Instr.loadAt,Instr.sureAddr,Cf,hl]
theorem SA {x:PV}{d:Nat}{K:PV->Option R}(h:O3 x d K=some r):(∃id off,x=.ptr id off∧K (.ptr id (off+d))=some r)∨∃c off,x=.iptr c off∧K (.iptr c (off+d))=some r:=by
 unfold O3 at h;split at h
 ·exact .inl ⟨_,_,rfl,h⟩
 ·exact .inr ⟨_,_,rfl,h⟩
 ·cases h
theorem Q6 (h:B3 N w0 X0 Y β s a w){x:Operand}{d:Nat}{K:PV->Option R}(hk:O3 (Bf s.tm x) d K=some r)
  (Bv:∀ad:Addr,a.eval x=.pointer (some ad)->(execOp a.eval o).run P w=.ok (.value (.pointer (some (ad.add d)))) w):∃v,K v=some r∧Dd P a w o Y β s v [] []:=by
 have hx:=Cb h x;have Z4:=D0 h x;rcases SA hk with⟨id,off,e,hk⟩|⟨c,off,e,hk⟩
 ·rw[e] at hx Z4;obtain⟨b,ob,hβ,Cf⟩:=hx;refine⟨_,hk,Bg (Bv _ Cf) ⟨b,ob,hβ,by rw[Bq,Nat.add_assoc]⟩ Z4⟩
 ·rw[e] at hx;obtain⟨ad,Cf,h1,h2,h3,h4⟩:=hx;exact⟨_,hk,Bg (Bv _ Cf) ⟨ad,by rw[add_add],h1,h2,h3,h4⟩ (by intro i hi;cases hi)⟩
theorem X3 (h:B3 N w0 X0 Y β s a w){x:Operand}(ho:o.op=.nilCheck x){K:PV->Option R}(hk:O3 (Bf s.tm x) 0 K=some r):∃v,K v=some r∧Dd P a w o Y β s v [] []:=by
 refine Q6 h hk fun ad Cf=>?_
 unfold execOp;rw[ho];simp[Cf,Addr.add]
theorem Sa {t:TypeId}{f:Nat}{q:Nat × TypeId}(h:Mj P t f=some q):∃fs g,P.underlying t=some (.struct fs)∧fs[f]?=some g∧q=(g.offset,g.type):=by
 unfold Mj at h;split at h
 ·rename_i fs e;cases hg:fs[f]? with
  |none=>rw[hg] at h;cases h
  |some g=>rw[hg] at h;simp at h;exact⟨fs,g,e,hg,h.symm⟩
 ·cases h
theorem Wq (h:B3 N w0 X0 Y β s a w){t:TypeId}{x:Operand}{f:Nat}(ho:o.op=.fieldAddr t x f){K:PV->Option R}
  (hk:(C7 (Mj P t f) fun q=>Au (Nat.ble 1 (At P q.2)) (O3 (Bf s.tm x) q.1 K))=some r):∃v,K v=some r∧Dd P a w o Y β s v [] []:=by
 obtain⟨q,hq,hk⟩:=Bm hk;obtain⟨hs,hk⟩:=Ag hk;obtain⟨fs,g,hu,hg,rfl⟩:=Sa hq;have hs:1<=At P g.type:=Nat.le_of_ble_eq_true hs;have J1:=XE (P:=P) (t:=g.type) rfl (by omega)
 refine Q6 h hk fun ad Cf=>?_
 unfold execOp;rw[ho];have Gh:¬At P g.type=0:=by omega
 simp[Instr.fieldAt,run_underlying hu,hg,Instr.sureAddr,Cf,fieldPlace,Ij J1,Gh]
end
open Go.RowKit
section
variable {R:Type} {r:R} {P:Program} {N:Nat} {w0:World} {X0:F9} {Y:Nat->Prop} {β β':Bt} {s:St} {a:Act} {w w':World} {o:Oper} {A:Nat->Prop}
theorem Yz (h:B3 N w0 X0 Y β s a w){t:TypeId}{cs:List PV}{vs:List Value}{off:Nat}{K:PV->Option R}{x:Operand}(hx:Bf s.tm x=.agg cs)(hv:Av (Be w (Cd s.hp β Y) β) cs vs)
  (hk:Au (G3 P t) (K4 (Gc P t) cs off fun c=>PC (Bc P t) c K)=some r)
  (Bv:∀val,(part t ⟨vs⟩ off).run P w=.ok val w->(execOp a.eval o).run P w=.ok (.value val) w):∃v,K v=some r∧Dd P a w o Y β s v [] []:=by
 obtain⟨K1,hk⟩:=Ag hk;obtain⟨⟨d,hd⟩,hl,hi⟩:=Mc K1;obtain⟨qs,hk,hql,Uu,hq⟩:=O4 hk;have Z4:=D0 h x;rw[hx] at Z4
 have hcell:∀(j:Nat) q,qs[j]?=some q->∃v,vs[off+j]?=some v∧Be w (Cd s.hp β Y) β q v:=by
  intro j q hj;obtain⟨p,hp,_,_,Un⟩:=hq j q hj;obtain⟨v,Kv,hc⟩:=hv.get hp;exact⟨v,Kv,(Un _ _ _ _ hc).1⟩
 have Qt:∀q∈qs,∀i∈Ak q,s.hp i≠none:=by
  intro q hqm i hi;obtain⟨j,hj⟩:=List.mem_iff_getElem?.1 hqm;obtain⟨p,hp,_,hpr,_⟩:=hq j q hj;exact Z4 i (List.mem_flatMap.2 ⟨p,List.mem_of_getElem? hp,hpr i hi⟩)
 rcases FS hk with⟨Ew,D3⟩|⟨Ew,q,rfl,D3⟩
 ·have Vl:At P t=0∨off+At P t<=vs.length:=by
   rcases Nat.eq_zero_or_pos (At P t) with h0|h0
   ·exact .inl h0
   ·obtain⟨v,Kv,_⟩:=hcell (At P t-1) _ (List.getElem?_eq_getElem (by omega))
    have:off+(At P t-1)<vs.length:=by
     rcases Nat.lt_or_ge (off+(At P t-1)) vs.length with h|h
     ·exact h
     ·rw[List.getElem?_eq_none h] at Kv;cases Kv
    exact .inr (by omega)
  refine⟨_,D3,Bg (Bv (.agg ⟨(vs.drop off).take (At P t)⟩) ?_) ⟨(vs.drop off).take (At P t),rfl,?_⟩ fun i hi=>?_⟩
  ·simp only[part,Sem.run_bind,J6 hd,Ew,Result.andThen_ok,if_true,Ij hi];simp[List.extract_eq_take_drop]
  ·refine Av.of_at ?_ fun i c u hc hu=>?_
   ·simp only[List.length_take,List.length_drop];omega
   ·obtain⟨v,Kv,V0⟩:=hcell i c hc
    have hlt:i<At P t:=by
     rcases Nat.lt_or_ge i qs.length with h|h
     ·omega
     ·rw[List.getElem?_eq_none h] at hc;cases hc
    rw[List.getElem?_take_of_lt hlt,List.getElem?_drop,Kv] at hu;cases hu;exact V0
  ·obtain⟨q,hqm,hi⟩:=List.mem_flatMap.1 (show i∈qs.flatMap Ak from hi)
   exact Qt q hqm i hi
 ·obtain⟨v,Kv,V0⟩:=hcell 0 q rfl;have hn:=Uu q (by simp)
  refine⟨_,D3,Bg (Bv v ?_) ((Lm hn.2).2 ((S0 hn.1).2 V0)) fun i hi=>?_⟩
  ·simp only[part,Sem.run_bind,J6 hd,Ew,Result.andThen_ok];rw[Nat.add_zero] at Kv;simp[Kv]
  ·rw[NC hn.1 hn.2] at hi;exact Qt q (by simp) i hi
theorem KL (h:B3 N w0 X0 Y β s a w){t:TypeId}{x:Operand}{f:Nat}(ho:o.op=.field t x f){K:PV->Option R}
  (hk:(C7 (Mj P t f) fun q=>Au (G3 P q.2)<|Fo (Bf s.tm x) fun cs=>K4 (Gc P q.2) cs q.1 fun c=>PC (Bc P q.2) c K)=some r):∃v,K v=some r∧Dd P a w o Y β s v [] []:=by
 obtain⟨q,hq,hk⟩:=Bm hk;obtain⟨K1,hk⟩:=Ag hk;obtain⟨cs,hx,hk⟩:=F0 hk;obtain⟨fs,g,hu,hg,rfl⟩:=Sa hq;have hxv:=Cb h x;rw[hx] at hxv;obtain⟨vs,Cf,hv⟩:=hxv;refine Yz (t:=g.type) (off:=g.offset) h hx hv (by rw[show G3 P g.type=true from K1];exact hk) fun val hp=>?_
 unfold execOp;rw[ho];simp[Instr.field,run_underlying hu,hg,asAgg,Cf,hp]
theorem AC (h:B3 N w0 X0 Y β s a w){x:Operand}{i:Nat}(ho:o.op=.extract x i){K:PV->Option R}
  (hk:(match Bf s.tm x with | .tup vs=>C7 vs[i]? K|_=>none)=some r):∃v,K v=some r∧Dd P a w o Y β s v [] []:=by
 have hx:=Cb h x;have Z4:=D0 h x;split at hk
 ·rename_i ps e;rw[e] at hx Z4;obtain⟨p,hp,hk⟩:=Bm hk;obtain⟨vs,Cf,hv⟩:=hx;obtain⟨v,Kv,Un⟩:=hv.get hp
  have Afw:∀y,p ≠ .tup y:=by
   rintro y rfl
   have Avc:An _ _ (.tup y) v:=Un;cases Avc
  refine⟨p,hk,Bg (val:=v) ?_ ((Lm Afw).2 Un) fun id hid=>Z4 id ?_⟩
  ·unfold execOp;rw[ho];simp[Instr.extract,Cf,Kv]
  ·refine List.mem_flatMap.2 ⟨p,List.mem_of_getElem? hp,?_⟩;cases p<;>first|exact hid|exact absurd rfl (Afw _)
 ·cases hk
theorem E9 {es:Nat}{p:PV}{z:Bool}{n:Nat}{c:List PV}{v:Value}(hp:p=.lst z es n c∨(p=.sc (.slice none 0 0)∧z=true∧n=0∧c=[])) (hv:Di w A β p v):
  (v=.slice none 0 0∧n=0∧c=[])∨(∃ad cap,v=.slice (some ad) n cap∧z=false∧n<=cap∧ad.spot=none∧ad.block<w.heap.size∧¬A ad.block∧Se w A ad c)∨∃ad cap,v=.slice (some ad) 0 cap∧z=false∧n=0∧c=[]:=by
 have Kv:Be w A β p v:=by rcases hp with rfl|⟨rfl,_⟩<;>exact hv
 have ht:=Ru hp Kv;cases ht with
 |lnil=>exact .inl ⟨rfl,rfl,rfl⟩
 |lst _ _ _ ad cap f hs hb hA hn hc h1 hr=>exact .inr (.inl ⟨ad,cap,rfl,rfl,hn,hs,hb,hA,fun j q hj=>⟨f j,hc j q hj,h1 j q hj,hr j q hj⟩⟩)
 |lemp _ ad cap=>exact .inr (.inr ⟨ad,cap,rfl,rfl,rfl,rfl⟩)
theorem Wt (h:B3 N w0 X0 Y β s a w){t:TypeId}{x i:Operand}(ho:o.op=.indexAddr t x i){K:PV->Option R}
  (hk:(Cp (Bf s.tm i) fun _ n=>Ie P t (Bf s.tm x) n K)=some r):∃v,K v=some r∧Dd P a w o Y β s v [] []:=by
 obtain⟨ik,n,hi,hk⟩:=Ci hk;have hai:=Bl h hi;have hx:=Cb h x;have Z4:=D0 h x;unfold Ie at hk;split at hk
 ·rename_i len e hu;obtain⟨hz,hk⟩:=Ag hk;obtain⟨hb,hk⟩:=Ag hk;simp only[Bool.and_eq_true,decide_eq_true_eq] at hb;obtain⟨inf,Lv⟩:=Option.isSome_iff_exists.1 hz;refine Q6 h hk fun ad Cf=>?_
  unfold execOp;rw[ho];simp[Instr.indexAt,asIntOf,hai,Cf,run_underlying hu,Instr.sureAddr,hb.1,hb.2,sizeOf,typeInfo,Lv,At]
 ·rename_i e hu;obtain⟨hz,hk⟩:=Ag hk;obtain⟨inf,Lv⟩:=Option.isSome_iff_exists.1 hz;have J1:At P e=inf.size:=by simp[At,Lv]
  split at hk
  ·rename_i id es off n' e';rw[e'] at hx Z4;obtain⟨R2,hk⟩:=Ag hk;have R2:=Nat.eq_of_beq_eq_true R2;subst R2;obtain⟨hb,hk⟩:=Ag hk;simp only[Bool.and_eq_true,decide_eq_true_eq] at hb;rcases hx with⟨_,_,rfl,_⟩|⟨b,ob,y,cap,hβ,Cf,hy,_⟩
   ·omega
   ·have hy:y=ob+off:=by rcases hy with hy|⟨rfl,_⟩<;>omega
    subst hy;refine⟨_,hk,Bg (val:=.pointer (some ⟨b,ob+(off+n.toNat*At P e),none⟩)) ?_ ⟨b,ob,hβ,rfl⟩ Z4⟩;unfold execOp;rw[ho];simp[Instr.indexAt,asIntOf,hai,Cf,run_underlying hu,hb.1,hb.2,sizeOf,typeInfo,Lv,J1,Bq,Nat.add_assoc]
  ·obtain⟨z,n',c,hk,hp⟩:=Eg hk;obtain⟨hb,hk⟩:=Ag hk;simp only[Bool.and_eq_true,decide_eq_true_eq] at hb;rcases E9 hp hx with⟨_,rfl,_⟩|⟨ad,cap,Cf,_,_,h1,h2,h3,h4⟩|⟨_,_,_,_,rfl,_⟩
   ·omega
   rotate_left
   ·omega
   ·refine⟨_,hk,Bg (val:=.pointer (some (ad.add (n.toNat*At P e)))) ?_ ⟨ad,rfl,h1,h2,h3,h4⟩ (by intro i hi;cases hi)⟩
    unfold execOp;rw[ho];simp[Instr.indexAt,asIntOf,hai,Cf,run_underlying hu,hb.1,hb.2,sizeOf,typeInfo,Lv,J1]
 ·cases hk
theorem JJ (h:B3 N w0 X0 Y β s a w){t:TypeId}{x i:Operand}(ho:o.op=.index t x i){K:PV->Option R}
  (hk:(Cp (Bf s.tm i) fun _ n=>
   match P.underlying t with
   |some .string=>En (Bf s.tm x) fun s=>Au (decide (0<=n)) (C7 (s.data.toList[n.toNat]?) fun b=>K (.sc (.int .u8 b.toNat)))
   |some (.array len e)=>Fo (Bf s.tm x) fun cs=>Au (decide (0<=n)&&decide (n<len)&&G3 P e) (K4 (Gc P e) cs (n.toNat*At P e) fun c=>PC (Bc P e) c K)
   |_=>none)=some r):∃v,K v=some r∧Dd P a w o Y β s v [] []:=by
 obtain⟨ik,n,hi,hk⟩:=Ci hk;have hai:=Bl h hi;split at hk
 ·rename_i hu;obtain⟨sb,hx,hk⟩:=Cm hk;have Cf:=Bl h hx;obtain⟨h0,hk⟩:=Ag hk;obtain⟨b,hb,hk⟩:=Bm hk;have h0:=of_decide_eq_true h0;refine⟨_,hk,Bp ?_⟩
  have hlt:n.toNat<sb.size:=by
   rcases Nat.lt_or_ge n.toNat sb.data.toList.length with h|h
   ·simpa using h
   ·rw[List.getElem?_eq_none h] at hb;cases hb
  have F8:sb[n.toNat]=b:=by
   have:sb.data.toList[n.toNat]?=some sb[n.toNat]:=by
    rw[List.getElem?_eq_getElem (by simpa using hlt)]
    rfl
   rw[hb] at this;injection this with this;exact this.symm
  unfold execOp;rw[ho];simp[Instr.index,asIntOf,hai,Cf,run_underlying hu,h0,hlt,F8]
 ·rename_i len e hu;obtain⟨cs,hx,hk⟩:=F0 hk;obtain⟨hb,hk⟩:=Ag hk;simp only[Bool.and_eq_true,decide_eq_true_eq] at hb;have hxv:=Cb h x;rw[hx] at hxv;obtain⟨vs,Cf,hv⟩:=hxv;obtain⟨_,_,J1⟩:=Mc hb.2;refine Yz (t:=e) (off:=n.toNat*At P e) h hx hv (by rw[hb.2];exact hk) fun val hp=>?_
  unfold execOp;rw[ho];simp[Instr.index,asIntOf,hai,Cf,run_underlying hu,hb.1.1,hb.1.2,Ij J1,hp]
 ·cases hk
end
open Go.RowKit
section
variable {R:Type} {r:R} {P:Program} {N:Nat} {w0:World} {X0:F9} {Y:Nat->Prop} {β β':Bt} {s:St} {a:Act} {w w':World} {o:Oper} {A:Nat->Prop}
theorem Cz (h:B3 N w0 X0 Y β s a w){x:Option Operand}{dflt:Nat}{K:Nat->Option R}(hk:Fl (x.map (Bf s.tm)) dflt K=some r):
  ∃l,K l=some r∧((x=none∧l=dflt)∨∃y k,x=some y∧a.eval y=.int k (l:Int)):=by
 cases x with
 |none=>exact⟨dflt,hk,.inl ⟨rfl,rfl⟩⟩
 |some y=>
  obtain⟨k,i,hi,hk⟩:=Ci (show Cp (Bf s.tm y) _=some r from hk)
  obtain⟨h0,hk⟩:=Ag hk;have h0:=of_decide_eq_true h0;exact⟨i.toNat,hk,.inr ⟨y,k,rfl,by rw[Bl h hi,Int.toNat_of_nonneg h0]⟩⟩
theorem Gp {lo hi:Option Operand}{isS:Bool}{len cap l u:Nat}(hl:(lo=none∧l=0)∨∃y k,lo=some y∧a.eval y=.int k (l:Int))
  (hu:(hi=none∧u=len)∨∃y k,hi=some y∧a.eval y=.int k (u:Int)) (h1:l<=u)(h2:u<=cap):
  (Instr.sliceBounds isS len cap (lo.map a.eval) (hi.map a.eval) none).run P w=.ok (l,u,cap) w:=by
 rcases hl with⟨rfl,rfl⟩|⟨y,k,rfl,hy⟩<;>rcases hu with⟨rfl,rfl⟩|⟨y',k',rfl,hy'⟩
 ·simp[Instr.sliceBounds]
 ·simp[Instr.sliceBounds,Instr.sliceBound,asIntOf,hy',h2]
 ·simp[Instr.sliceBounds,Instr.sliceBound,asIntOf,hy,h1]
 ·simp[Instr.sliceBounds,Instr.sliceBound,asIntOf,hy,hy',h1,h2]
theorem B2 {e:TypeId}(h:(P.info? e).isSome=true) (w:World):(sizeOf e).run P w=.ok (At P e) w:=by
 obtain⟨i,hi⟩:=Option.isSome_iff_exists.1 h;exact Ij (by simp[At,hi]) w
theorem Ta {b j:Nat}{v:Value}(h:w.cell? ⟨b,j,none⟩=some v):j<bsz w b:=by
 unfold World.cell? at h;unfold bsz;split at h
 ·rename_i c e fz hb;simp only at hb;rw[hb];simp only[Option.isSome_none,Bool.false_eq_true,if_false] at h;rcases Nat.lt_or_ge j c.size with hlt|VU
  ·exact hlt
  ·rw[Array.getElem?_eq_none VU] at h;cases h
 ·cases h
theorem JA (h:B3 N w0 X0 Y β s a w){t:TypeId}{x:Operand}{lo hi:Option Operand}(ho:o.op=.slice t x lo hi none){K:PV->Option R}
  (hk:Uq P (rd s.hp) t (Bf s.tm x) (lo.map (Bf s.tm)) (hi.map (Bf s.tm)) K=some r):∃v,K v=some r∧Dd P a w o Y β s v [] []:=by
 have hx:=Cb h x;have Z4:=D0 h x;unfold Uq at hk;split at hk
 ·rename_i hu;obtain⟨sb,Wh,hk⟩:=Cm hk;have Cf:=Bl h Wh;obtain⟨l,hk,hl⟩:=Cz h hk;obtain⟨u,hk,G4⟩:=Cz h hk;obtain⟨hb,hk⟩:=Ag hk;simp only[Bool.and_eq_true,decide_eq_true_eq] at hb;refine⟨_,hk,Bp ?_⟩;unfold execOp;rw[ho];simp[Instr.sliceAt,Instr.slice,run_underlying hu,Cf,Gp hl G4 hb.1 hb.2]
 ·rename_i e hu;obtain⟨Lv,hk⟩:=Ag hk;split at hk
  ·rename_i id es off n e';rw[e'] at hx Z4;obtain⟨R2,hk⟩:=Ag hk;have R2:=Nat.eq_of_beq_eq_true R2;subst R2;obtain⟨l,hk,hl⟩:=Cz h hk;obtain⟨u,hk,G4⟩:=Cz h hk;obtain⟨hb,hk⟩:=Ag hk;simp only[Bool.and_eq_true,decide_eq_true_eq] at hb;rcases hx with⟨hβ,rfl,rfl,ad,Cf⟩|⟨b,ob,y,cap,hβ,Cf,hy,hn,Qb,hlt⟩
   ·have hu0:u=0:=by omega
    have YS:l=0:=by omega
    subst hu0 YS;refine⟨_,hk,Bg (val:=.slice ad 0 0) ?_ (.inl ⟨hβ,by simp,rfl,ad,rfl⟩) Z4⟩
    unfold execOp;rw[ho];cases ad<;>simp[Instr.sliceAt,Instr.slice,run_underlying hu,Cf,Gp hl G4 (Nat.le_refl 0) (Nat.le_refl 0),B2 Lv]
   ·have Bv:(execOp a.eval o).run P w=.ok (.value (.slice (some (if cap=l then ⟨b,y,none⟩ else ⟨b,y+l*At P e,none⟩)) (u-l) (cap-l))) w:=by
     unfold execOp;rw[ho];have GU:=Gp (P:=P) (w:=w) (isS:=true) hl G4 hb.1 (Nat.le_trans hb.2 hn);simp[Instr.sliceAt,Instr.slice,run_underlying hu,Cf,GU,B2 Lv,Bq];split<;>rfl
    refine⟨_,hk,Bg Bv (.inr ?_) Z4⟩;by_cases hc:cap=l
    ·rw[if_pos hc];refine⟨b,ob,y,cap-l,hβ,rfl,?_,by omega,⟨by rw[hc,Nat.sub_self];have:=Qb.1;omega,Qb.2⟩,hlt⟩
     by_cases h0:l*At P e=0
     ·rw[h0,Nat.add_zero];rcases hy with hy|⟨GW,Lu⟩
      ·exact .inl hy
      ·exact .inr ⟨by omega,Lu⟩
     ·exact .inr ⟨by omega,by omega⟩
    ·rw[if_neg hc];refine⟨b,ob,y+l*At P e,cap-l,hβ,rfl,?_,by omega,?_,hlt⟩
     ·rcases hy with hy|⟨GW,Lu⟩
      ·exact .inl (by omega)
      ·exact .inr ⟨by omega,by omega⟩
     ·have:l*At P e+(cap-l)*At P e=cap*At P e:=by
       rw[←Nat.add_mul]
       congr 1
       omega
      have:=Qb.1;exact⟨by omega,Qb.2⟩
  ·obtain⟨z,n,c,hk,hp⟩:=Eg hk;obtain⟨l,hk,hl⟩:=Cz h hk;obtain⟨u,hk,G4⟩:=Cz h hk;obtain⟨hb,hk⟩:=Ag hk;simp only[Bool.and_eq_true,decide_eq_true_eq] at hb;rcases E9 hp hx with⟨Cf,rfl,rfl⟩|⟨ad,cap,Cf,rfl,hn,h1,h2,h3,h4⟩|⟨ad,cap,Cf,rfl,rfl,rfl⟩
   rotate_right
   ·have hu0:u=0:=by omega
    have YS:l=0:=by omega
    subst hu0 YS;refine⟨_,hk,Bg (val:=.slice (some (if cap=0 then ad else ad.add (0*At P e))) (0-0) (cap-0)) ?_ ?_ (by intro i hi;cases hi)⟩
    ·unfold execOp;rw[ho];have GU:=Gp (P:=P) (w:=w) (isS:=true) hl G4 (Nat.le_refl 0) (Nat.zero_le cap);simp[Instr.sliceAt,Instr.slice,run_underlying hu,Cf,GU,B2 Lv];split<;>rfl
    ·have:((([]:List PV).drop (0*At P e)).take ((0-0)*At P e))=[]:=by simp
     rw[this];exact An.lemp _ _ _
   ·have hu0:u=0:=by omega
    have YS:l=0:=by omega
    subst hu0 YS;refine⟨_,hk,Bg (val:=.slice none 0 0) ?_ ?_ (by intro i hi;cases hi)⟩
    ·unfold execOp;rw[ho];simp[Instr.sliceAt,Instr.slice,run_underlying hu,Cf,Gp hl G4 (Nat.le_refl 0) (Nat.le_refl 0),B2 Lv]
    ·have:((([]:List PV).drop (0*At P e)).take ((0-0)*At P e))=[]:=by simp
     rw[this];exact An.lnil z _
   ·have Bv:(execOp a.eval o).run P w=.ok (.value (.slice (some (if cap=l then ad else ad.add (l*At P e))) (u-l) (cap-l))) w:=by
     unfold execOp;rw[ho];have GU:=Gp (P:=P) (w:=w) (isS:=true) hl G4 hb.1 (Nat.le_trans hb.2 hn);simp[Instr.sliceAt,Instr.slice,run_underlying hu,Cf,GU,B2 Lv];split<;>rfl
    refine⟨_,hk,Bg Bv ?_ (by intro i hi;cases hi)⟩
    by_cases hc:cap=l
    ·rw[if_pos hc];have:u-l=0:=by omega
     rw[this];simp only[Nat.zero_mul,List.take_zero];exact An.lst _ _ [] ad _ (fun _=>undef) h1 h2 h3 (by omega) (by simp) (by simp) (by simp)
    ·rw[if_neg hc]
     have hcell:∀(j:Nat) q,((c.drop (l*At P e)).take ((u-l)*At P e))[j]?=some q->c[l*At P e+j]?=some q:=by
      intro j q hq;rw[List.getElem?_take] at hq;split at hq
      ·rw[List.getElem?_drop] at hq;exact hq
      ·cases hq
     refine An.lst _ _ _ (ad.add (l*At P e)) _ (fun j=>(w.cell? (ad.add (l*At P e+j))).getD undef) (Abb h1 _) (by rw[D9];exact h2) (by rw[D9];exact h3) (by omega) (fun j q hq=>?_) (fun j q hq=>?_) (fun j q hq=>?_)
     ·obtain⟨v,hv,_⟩:=h4 _ q (hcell j q hq);rw[add_add,hv];rfl
     ·obtain⟨v,hv,h5,_⟩:=h4 _ q (hcell j q hq);rw[hv];exact h5
     ·obtain⟨v,hv,_,ht⟩:=h4 _ q (hcell j q hq);rw[hv];exact ht
 ·rename_i n e hu;obtain⟨Lv,hk⟩:=Ag hk;split at hk
  ·rename_i id off e';rw[e'] at hx Z4;obtain⟨c,hrc,hk⟩:=Bm hk;obtain⟨Dv,hk⟩:=Ag hk;simp only[Bool.and_eq_true,decide_eq_true_eq] at Dv;have R2:=Nat.eq_of_beq_eq_true Dv.2
   replace Dv:=Dv.1
   obtain⟨l,hk,hl⟩:=Cz h hk;obtain⟨u,hk,G4⟩:=Cz h hk;obtain⟨hb,hk⟩:=Ag hk;simp only[Bool.and_eq_true,decide_eq_true_eq] at hb;obtain⟨b,ob,hβ,Cf⟩:=hx
   have We:ob+off+n*At P e<=bsz w b:=by
    obtain⟨v,hv,_⟩:=Xu h hrc hβ (j:=off+n*At P e-1) (List.getElem?_eq_getElem (by omega))
    have:=Ta hv;omega
   have hlt:b<w.heap.size:=h.blt id b ob (Z4 id (by simp[A9,Bn,Ak])) hβ
   have Bv:(execOp a.eval o).run P w=.ok (.value (.slice (some (if n=l then ⟨b,ob+off,none⟩ else ⟨b,ob+off+l*At P e,none⟩)) (u-l) (n-l))) w:=by
    unfold execOp;rw[ho];have GU:=Gp (P:=P) (w:=w) (isS:=false) hl G4 hb.1 hb.2;simp[Instr.sliceAt,Instr.sureAddr,run_underlying hu,Cf,GU,B2 Lv,Bq]
   refine⟨_,hk,Bg Bv (.inr ?_) Z4⟩;by_cases hc:n=l
   ·rw[if_pos hc];refine⟨b,ob,ob+off,n-l,hβ,rfl,?_,by omega,⟨by rw[hc,Nat.sub_self];omega,.inl R2⟩,hlt⟩
    by_cases h0:l*At P e=0
    ·rw[h0,Nat.add_zero];exact .inl rfl
    ·exact .inr ⟨by omega,by omega⟩
   ·rw[if_neg hc];refine⟨b,ob,ob+off+l*At P e,n-l,hβ,rfl,.inl (by omega),by omega,?_,hlt⟩
    have:l*At P e+(n-l)*At P e=n*At P e:=by
     rw[←Nat.add_mul]
     congr 1
     omega
    exact⟨by omega,.inl R2⟩
  ·cases hk
 ·cases hk
end
open Go.RowKit
section
variable {R:Type} {r:R} {P:Program} {N:Nat} {w0:World} {X0:F9} {Y:Nat->Prop} {β β':Bt} {s:St} {a:Act} {w w':World} {o:Oper} {A:Nat->Prop}
theorem UY (h:B3 N w0 X0 Y β s a w){c:Call}(ho:o.op=.call c)(hc:c.callee=.builtin .len){K:PV->Option R}
  (hk:(Ab c.args.toList fun x _=>Ab c.argTypes.toList fun t _=>RS P t (Bf s.tm x) fun n=>K (.sc (.int .i64 n)))=some r):∃v,K v=some r∧Dd P a w o Y β s v [] []:=by
 obtain⟨x,xs,Wh,hk⟩:=Ar hk;obtain⟨t,ts,hts,hk⟩:=Ar hk;have hx:=Cb h x;have Dp:c.args=(x::xs).toArray:=by rw[←Wh]
 have Wm:c.argTypes=(t::ts).toArray:=by rw[←hts]
 have Bv:∀n:Nat,(Builtin.len_ c.argTypes o.type (c.args.map a.eval)).run P w=.ok (.int .i64 n) w->(execOp a.eval o).run P w=.ok (.value (.int .i64 n)) w:=by
  intro n hl;unfold execOp;rw[ho];simp only[resolve,hc,invoke,builtin,Sem.run_bind,Sem.run_pure,Result.andThen_ok,hl]
 unfold RS at hk;split at hk
 ·rename_i hu;obtain⟨sb,Awq,hk⟩:=Cm hk;have Cf:=Bl h Awq;refine⟨_,hk,Bp (Bv _ ?_)⟩;simp[Builtin.len_,Dp,Wm,run_underlying hu,Cf,goInt]
 ·rename_i n e hu;refine⟨_,hk,Bp (Bv _ ?_)⟩;simp[Builtin.len_,Dp,Wm,run_underlying hu,goInt]
 ·rename_i e hu;split at hk
  ·rename_i id es off n e';rw[e'] at hx;obtain⟨_,hk⟩:=Ag hk;refine⟨_,hk,Bp (Bv _ ?_)⟩;rcases hx with⟨_,_,rfl,ad,Cf⟩|⟨b,ob,y,cap,_,Cf,_⟩<;>simp[Builtin.len_,Dp,Wm,run_underlying hu,Cf,goInt]
  ·obtain⟨z,n,cc,hk,hp⟩:=Eg hk;refine⟨_,hk,Bp (Bv _ ?_)⟩;rcases E9 hp hx with⟨Cf,rfl,_⟩|⟨ad,cap,Cf,_⟩|⟨ad,cap,Cf,_,rfl,_⟩<;>simp[Builtin.len_,Dp,Wm,run_underlying hu,Cf,goInt]
 ·cases hk
theorem UC (h:B3 N w0 X0 Y β s a w){c:Call}(ho:o.op=.call c)(hc:c.callee=.builtin .cap){K:PV->Option R}
  (hk:(Ab c.args.toList fun x _=>Ab c.argTypes.toList fun t _=>RR P t (Bf s.tm x) fun n=>K (.sc (.int .i64 n)))=some r):∃v,K v=some r∧Dd P a w o Y β s v [] []:=by
 obtain⟨x,xs,Wh,hk⟩:=Ar hk;obtain⟨t,ts,hts,hk⟩:=Ar hk;have hx:=Cb h x;have Dp:c.args=(x::xs).toArray:=by rw[←Wh]
 have Wm:c.argTypes=(t::ts).toArray:=by rw[←hts]
 have Bv:∀n:Nat,(Builtin.cap_ c.argTypes o.type (c.args.map a.eval)).run P w=.ok (.int .i64 n) w->(execOp a.eval o).run P w=.ok (.value (.int .i64 n)) w:=by
  intro n hl;unfold execOp;rw[ho];simp only[resolve,hc,invoke,builtin,Sem.run_bind,Sem.run_pure,Result.andThen_ok,hl]
 unfold RR at hk;split at hk
 ·rename_i e hu;obtain⟨z,n,cc,hk,hp⟩:=Eg hk;obtain⟨hz,hk⟩:=Ag hk;refine⟨_,hk,Bp (Bv _ ?_)⟩;rcases E9 hp hx with⟨Cf,rfl,_⟩|⟨ad,cap,Cf,Yr,_⟩|⟨ad,cap,Cf,Yr,_,_⟩
  ·simp[Builtin.cap_,Dp,Wm,run_underlying hu,Cf,goInt]
  ·rw[hz] at Yr;cases Yr
  ·rw[hz] at Yr;cases Yr
 ·cases hk
theorem RJ (h:B3 N w0 X0 Y β s a w){c:Call}(ho:o.op=.call c)(hc:c.callee=.builtin .min){K:PV->Option R}
  (hk:(Ab c.args.toList fun x r=>Ab r fun y r'=>Ae r' (Aem (Bf s.tm x) (Bf s.tm y) K))=some r):∃v,K v=some r∧Dd P a w o Y β s v [] []:=by
 obtain⟨x,xs,Wh,hk⟩:=Ar hk;obtain⟨y,ys,rfl,hk⟩:=Ar hk;obtain⟨rfl,hk⟩:=Cl hk;obtain⟨k,n,hx,hk⟩:=Ci hk;obtain⟨m,hy,hk⟩:=Dh hk
 have Dp:c.args = #[x,y]:=by
  have:c.args=([x,y]:List Operand).toArray:=by rw[←Wh]
  exact this
 refine⟨_,hk,Bp ?_⟩;unfold execOp;rw[ho];simp[resolve,hc,invoke,builtin,Dp,Builtin.min_,Builtin.min2,Bl h hx,Bl h hy]
theorem RF (h:B3 N w0 X0 Y β s a w){c:Call}(ho:o.op=.call c)(hc:c.callee=.builtin .max){K:PV->Option R}
  (hk:(Ab c.args.toList fun x r=>Ab r fun y r'=>Ae r' (Adk (Bf s.tm x) (Bf s.tm y) K))=some r):∃v,K v=some r∧Dd P a w o Y β s v [] []:=by
 obtain⟨x,xs,Wh,hk⟩:=Ar hk;obtain⟨y,ys,rfl,hk⟩:=Ar hk;obtain⟨rfl,hk⟩:=Cl hk;obtain⟨k,n,hx,hk⟩:=Ci hk;obtain⟨m,hy,hk⟩:=Dh hk
 have Dp:c.args = #[x,y]:=by
  have:c.args=([x,y]:List Operand).toArray:=by rw[←Wh]
  exact this
 refine⟨_,hk,Bp ?_⟩;unfold execOp;rw[ho];simp[resolve,hc,invoke,builtin,Dp,Builtin.max_,Builtin.max2,Bl h hx,Bl h hy]
theorem NV (h:B3 N w0 X0 Y β s a w){op:UnOp}{t:TypeId}{x:Operand}(ho:o.op=.unOp op t x){K:PV->Option R}(hk:unK op (Bf s.tm x) K=some r):
  ∃v,K v=some r∧Dd P a w o Y β s v [] []:=by
 unfold unK at hk;split at hk
 ·obtain⟨b,hb,hk⟩:=Ct hk;refine⟨_,hk,Bp ?_⟩;unfold execOp;rw[ho];simp[Op.unary,Bl h hb]
 ·obtain⟨k,n,hb,hk⟩:=Ci hk;refine⟨_,hk,Bp ?_⟩;unfold execOp;rw[ho];simp[Op.unary,Op.intArith,Bl h hb]
 ·obtain⟨k,n,hb,hk⟩:=Ci hk;refine⟨_,hk,Bp ?_⟩;unfold execOp;rw[ho];simp[Op.unary,Op.intBits,Bl h hb,Am9]
 ·cases hk
theorem SM {op:BinOp}{k:IntKind}{m n:Int}{t:TypeId}{x y:Operand}{K:PV->Option R}(hs1:op ≠ .shl)(hs2:op ≠ .shr)(hk:Yn op k m n K=some r):
  ∃v,K (.sc v)=some r∧(do eqGuard op t x y (.int k m) (.int k n);binOp op t (.int k m) (.int k n)).run P w=.ok v w:=by
 cases op<;>first
  |exact absurd rfl hs1
  |exact absurd rfl hs2
  |(obtain⟨hb,hk⟩:=Ag hk;have hb:=of_decide_eq_true hb;exact⟨_,hk,by simp[eqGuard,binOp,Op.intDiv,hb]⟩)
  |exact⟨_,hk,by simp[eqGuard,binOp,-BitVec.toNat_and,-BitVec.toNat_or,-BitVec.toNat_xor,-gt_iff_lt,-ge_iff_le]<;>rfl⟩
theorem UZ {op:BinOp}{m n:ByteArray}{t:TypeId}{x y:Operand}{K:PV->Option R}(hk:Zv op m n K=some r):
  ∃v,K (.sc v)=some r∧(do eqGuard op t x y (.string m) (.string n);binOp op t (.string m) (.string n)).run P w=.ok v w:=by
 cases op<;>first
  |cases hk
  |(obtain⟨hb,hk⟩:=Ag hk;have hb:=of_decide_eq_true hb;exact⟨_,hk,by
    have F8:¬(((m.size+n.size:Nat):Int)>IntKind.i64.max):=by
     have:IntKind.i64.max=9223372036854775807:=rfl;rw[this];omega
    simp only[eqGuard,binOp,Op.stringOp,if_neg F8];rfl⟩)
  |exact⟨_,hk,by simp only[eqGuard,binOp,Op.stringOp,ByteArray.toList_eq];rfl⟩
end
open Go.RowKit
section
variable {R:Type} {r:R} {P:Program} {N:Nat} {w0:World} {X0:F9} {Y:Nat->Prop} {β β':Bt} {s:St} {a:Act} {w w':World} {o:Oper} {A:Nat->Prop}
theorem Yq {t:TypeId}(hu:P.underlying t=some .bool)(x y:Bool):(Op.equal t (.bool x) (.bool y)).run P w=.ok (x==y) w:=by
 have h:∀d,(Op.equalIn (d+1) t (.bool x) (.bool y)).run P w=.ok (x==y) w:=fun d=>by simp[Op.equalIn,run_underlying hu]
 exact h 9999
theorem Ps {t e:TypeId}(hu:P.underlying t=some (.slice e)) (x:Option Addr)(n c:Nat):(Op.equal t (.slice x n c) (.slice none 0 0)).run P w=.ok x.isNone w:=by
 have h:∀d,(Op.equalIn (d+1) t (.slice x n c) (.slice none 0 0)).run P w=.ok x.isNone w:=fun d=>by
  cases x<;>simp[Op.equalIn,run_underlying hu]
 exact h 9999
theorem Sg {t k e:TypeId}(hu:P.underlying t=some (.map k e)):(Op.equal t (.map none) (.map none)).run P w=.ok true w:=by
 have h:∀d,(Op.equalIn (d+1) t (.map none) (.map none)).run P w=.ok true w:=fun d=>by
  simp[Op.equalIn,run_underlying hu]
 exact h 9999
theorem Gu {t:TypeId}(d:Nat){v u:Value}(hv:(∃k m n,P.underlying t=some (.int k)∧v=.int k m∧u=.int k n)∨(∃m n,P.underlying t=some .bool∧v=.bool m∧u=.bool n)∨∃m n,P.underlying t=some .string∧v=.string m∧u=.string n) {b:Bool}
  (hb:∀k m n,v=.int k m->u=.int k n->b=(m==n)) (F8:∀m n,v=.bool m->u=.bool n->b=(m==n)) (Aqk:∀m n,v=.string m->u=.string n->b=(m==n)):(Op.equalIn (d+1) t v u).run P w=.ok b w:=by
 rcases hv with⟨k,m,n,hu,rfl,rfl⟩|⟨m,n,hu,rfl,rfl⟩|⟨m,n,hu,rfl,rfl⟩
 ·rw[hb k m n rfl rfl];simp[Op.equalIn,run_underlying hu]
 ·rw[F8 m n rfl rfl];simp[Op.equalIn,run_underlying hu]
 ·rw[Aqk m n rfl rfl];simp[Op.equalIn,run_underlying hu]
theorem Ny {t:TypeId}{dsc:TypeDesc}(hu:P.underlying t=some dsc)(hd:Bc P t=false){xs:Array Value}{i:Nat}{v:Value}(hv:xs[i]?=some v):(part t xs i).run P w=.ok v w:=by
 simp only[part,Sem.run_bind,J6 hu,hd,Result.andThen_ok];simp[hv]
theorem CI (k:IntKind)(n:Int)(K:Int->Option R):Ai k (.sc (.int k n)) K=K n:=by simp[Ai]
theorem IB (d : Nat) : ∀ (fs : List Field) (i : Nat) (xs ys : Array Value) (ps qs : List PV) (K : Bool -> Option R), IP P fs i = true -> Io (fs.map (fty P)) ps qs K = some r ->
    (∀ (j : Nat) p, ps[j]? = some p -> ∃ v, xs[i + j]? = some v ∧ Be w A β p v) -> (∀ (j : Nat) p, qs[j]? = some p -> ∃ v, ys[i + j]? = some v ∧ Be w A β p v) ->
    ∃ b, K b = some r ∧ (forIn fs ((none, ()) : Option Bool × Unit) fun (f : Field) (_ : Option Bool × Unit) =>
            if f.name = "_" then pure (ForInStep.yield ((none, ()) : Option Bool × Unit))
            else do
              let x ← part f.type xs f.offset
              let y ← part f.type ys f.offset
              let e ← Op.equalIn (d + 1) f.type x y
              if e = false then pure (ForInStep.done ((some false, ()) : Option Bool × Unit)) else pure (ForInStep.yield ((none, ()) : Option Bool × Unit)) : Sem (Option Bool × Unit)).run P w = .ok (if b then (none, ()) else (some false, ())) w
  | [], i, xs, ys, ps, qs, K, _, hk, _, _ => by
    cases ps with
    | nil => cases qs with
      | nil => exact⟨true, hk, by simp⟩
      | cons q qs => cases hk
    | cons p ps => cases hk
  | f :: fs, i, xs, ys, ps, qs, K, CZ, hk, hp, hq => by
    simp only[IP, Bool.and_eq_true] at CZ
    obtain⟨⟨⟨Lu, YA⟩, hty⟩, Qx⟩ := CZ
    have Lu := Nat.eq_of_beq_eq_true Lu
    have Ze : f.name ≠ "_" := by simpa using YA
    cases ps with
    | nil =>
      simp only[List.map_cons] at hk
      cases Alc : fty P f <;> rw[Alc] at hk <;> cases hk
    | cons p ps =>
      cases qs with
      | nil =>
        simp only[List.map_cons] at hk
        cases Alc : fty P f <;> rw[Alc] at hk <;> cases hk
      | cons q qs =>
        obtain⟨v, hv, Un⟩ := hp 0 p rfl
        obtain⟨u, hu, hqu⟩ := hq 0 q rfl
        rw[Nat.add_zero] at hv hu
        have main : ∃ b0 dsc, P.underlying f.type = some dsc ∧ Bc P f.type = false ∧ (Op.equalIn (d + 1) f.type v u).run P w = .ok b0 w ∧ Io (fs.map (fty P)) ps qs (fun r => K (b0 && r)) = some r := by
          simp only[List.map_cons] at hk
          unfold fty at hk
          split at hk
          · rename_i k Hl
            obtain⟨m, Zt, C9⟩ := Dh (show Ai k p _ = some r from hk)
            obtain⟨n, Z6, D3⟩ := Dh C9
            subst Zt Z6
            have Kv : v = .int k m := An.val (w := w) (A := A) Un
            have G4 : u = .int k n := An.val (w := w) (A := A) hqu
            subst Kv G4
            refine⟨m == n, _, Hl, by simp[Bc, Hl], Gu d (.inl ⟨k, m, n, Hl, rfl, rfl⟩) ?_ ?_ ?_, D3⟩
            · intro k' m' n' h1 h2; injection h1 with _ h1; injection h2 with _ h2; rw[h1, h2]
            · intro m' n' h1; cases h1
            · intro m' n' h1; cases h1
          · rename_i Hl
            obtain⟨m, Zt, C9⟩ := Ct (show A5 p _ = some r from hk)
            obtain⟨n, Z6, D3⟩ := Ct C9
            subst Zt Z6
            have Kv : v = .bool m := An.val (w := w) (A := A) Un
            have G4 : u = .bool n := An.val (w := w) (A := A) hqu
            subst Kv G4
            refine⟨m == n, _, Hl, by simp[Bc, Hl], Gu d (.inr (.inl ⟨m, n, Hl, rfl, rfl⟩)) ?_ ?_ ?_, D3⟩
            · intro k' m' n' h1; cases h1
            · intro m' n' h1 h2; injection h1 with h1; injection h2 with h2; rw[h1, h2]
            · intro m' n' h1; cases h1
          · rename_i Hl
            obtain⟨m, Zt, C9⟩ := Cm (show En p _ = some r from hk)
            obtain⟨n, Z6, D3⟩ := Cm C9
            subst Zt Z6
            have Kv : v = .string m := An.val (w := w) (A := A) Un
            have G4 : u = .string n := An.val (w := w) (A := A) hqu
            subst Kv G4
            refine⟨m == n, _, Hl, by simp[Bc, Hl], Gu d (.inr (.inr ⟨m, n, Hl, rfl, rfl⟩)) ?_ ?_ ?_, D3⟩
            · intro k' m' n' h1; cases h1
            · intro m' n' h1; cases h1
            · intro m' n' h1 h2; injection h1 with h1; injection h2 with h2; rw[h1, h2]
          · cases hk
        obtain⟨b0, dsc, Hl, Ew, he, hk⟩ := main
        obtain⟨b, hkb, Bv⟩ := IB d fs (i + 1) xs ys ps qs _ Qx hk (fun j p' hj => by have := hp (j + 1) p' hj; rwa [Nat.add_assoc, Nat.add_comm 1 j]) (fun j p' hj => by have := hq (j + 1) p' hj; rwa [Nat.add_assoc, Nat.add_comm 1 j])
        refine⟨b0 && b, hkb, ?_⟩
        have hpx : (part f.type xs f.offset).run P w = .ok v w := Ny Hl Ew (by rw[Lu]; exact hv)
        have hpy : (part f.type ys f.offset).run P w = .ok u w := Ny Hl Ew (by rw[Lu]; exact hu)
        cases b0
        · simp[List.forIn_cons, Ze, hpx, hpy, he]
        · simp only[Bool.true_and]
          rw[← Bv]
          simp[List.forIn_cons, Ze, hpx, hpy, he]
theorem Wg (d:Nat){t:TypeId}{fs:Array Field}(hu:P.underlying t=some (.struct fs)) (Jp:P.stoodInHeld t=false)(CZ:IP P fs.toList 0=true){xs ys:List PV}{vx vy:List Value}
  (hvx:Av (Be w A β) xs vx) (hvy:Av (Be w A β) ys vy) {K:Bool->Option R}(hk:Io (fs.toList.map (fty P)) xs ys K=some r):
  ∃b,K b=some r∧(Op.equalIn (d+2) t (.agg ⟨vx⟩) (.agg ⟨vy⟩)).run P w=.ok b w:=by
 obtain⟨b,hkb,Bv⟩:=IB (P:=P) (w:=w) (A:=A) (β:=β) d fs.toList 0 ⟨vx⟩ ⟨vy⟩ xs ys K CZ hk (fun j p hj=>by
   obtain⟨v,hv,hc⟩:=hvx.get hj;exact⟨v,by simpa using hv,hc⟩) (fun j p hj=>by
   obtain⟨v,hv,hc⟩:=hvy.get hj;exact⟨v,by simpa using hv,hc⟩)
 refine⟨b,hkb,?_⟩;rw[Array.forIn_toList] at Bv;rw[Op.equalIn];simp[run_underlying hu,Jp];rw[Bv];cases b<;>simp
theorem Tp:∀(ts1:List CT){ts2:List CT}{ps qs:List PV}{K:Bool->Option R},Io (ts1++ts2) ps qs K=some r ->
  Io ts1 (ps.take ts1.length) (qs.take ts1.length) (fun b=>Io ts2 (ps.drop ts1.length) (qs.drop ts1.length) fun r'=>K (b&&r'))=some r
 |[],ts2,ps,qs,K,h=>by
  simp only[List.length_nil,List.take_zero,List.drop_zero,Io,Bool.true_and];exact h
 |t::ts1,ts2,ps,qs,K,h=>by
  rw[List.cons_append] at h;cases ps with
  |nil=>cases t<;>cases h
  |cons p ps=>
   cases qs with
   |nil=>cases t<;>cases h
   |cons q qs=>
    simp only[List.length_cons,List.take_succ_cons,List.drop_succ_cons];cases t with
    |int k=>
     obtain⟨m,Zt,h1⟩:=Dh (show Ai k p _=some r from h)
     obtain⟨n,Z6,h2⟩:=Dh h1;subst Zt Z6;have:=Tp ts1 h2;simp only[←Bool.and_assoc] at this;exact (CI _ _ _).trans ((CI _ _ _).trans this)
    |bool=>
     obtain⟨m,Zt,h1⟩:=Ct (show A5 p _=some r from h)
     obtain⟨n,Z6,h2⟩:=Ct h1;subst Zt Z6;have:=Tp ts1 h2;simp only[←Bool.and_assoc] at this;exact this
    |str=>
     obtain⟨m,Zt,h1⟩:=Cm (show En p _=some r from h)
     obtain⟨n,Z6,h2⟩:=Cm h1;subst Zt Z6;have:=Tp ts1 h2;simp only[←Bool.and_assoc] at this;exact this
    |sl es=>cases h
    |any=>cases h
theorem KM:∀(ts:List CT){ps qs:List PV}{K:Bool->Option R},Io ts ps qs K=some r->ps.length=ts.length∧qs.length=ts.length
 |[],ps,qs,K,h=>by
  cases ps with
  |nil=>cases qs with
   |nil=>exact⟨rfl,rfl⟩
   |cons q qs=>cases h
  |cons p ps=>cases h
 |t::ts,ps,qs,K,h=>by
  cases ps with
  |nil=>cases t<;>cases h
  |cons p ps=>
   cases qs with
   |nil=>cases t<;>cases h
   |cons q qs=>
    have go:∃K',Io ts ps qs K'=some r:=by
     cases t with
     |int k=>
      obtain⟨m,Zt,h1⟩:=Dh (show Ai k p _=some r from h)
      obtain⟨n,Z6,h2⟩:=Dh h1;exact⟨_,h2⟩
     |bool=>
      obtain⟨m,Zt,h1⟩:=Ct (show A5 p _=some r from h)
      obtain⟨n,Z6,h2⟩:=Ct h1;exact⟨_,h2⟩
     |str=>
      obtain⟨m,Zt,h1⟩:=Cm (show En p _=some r from h)
      obtain⟨n,Z6,h2⟩:=Cm h1;exact⟨_,h2⟩
     |sl es=>cases h
     |any=>cases h
    obtain⟨K',h'⟩:=go;have:=KM ts h';exact⟨by simp[this.1],by simp[this.2]⟩
theorem HG {t:TypeId}{dsc:TypeDesc}(hu:P.underlying t=some dsc)(hd:Bc P t=true)(hi:(P.info? t).isSome=true) (xs:Array Value)(i:Nat):(part t xs i).run P w=.ok (.agg (xs.extract i (i+At P t))) w:=by
 simp only[part,Sem.run_bind,J6 hu,hd,Result.andThen_ok,if_true,B2 hi];rfl
theorem DG {xs:Array Value}{i n:Nat}{ps:List PV}(hn:n<=ps.length)(hp:∀(j:Nat) p,ps[j]?=some p->∃v,xs[i+j]?=some v∧Be w A β p v):Av (Be w A β) (ps.take n) (xs.extract i (i+n)).toList:=by
 rcases Nat.eq_zero_or_pos n with h0|h0
 ·subst h0;simp[Av]
 have hl:n-1<ps.length:=by omega
 obtain⟨v,hv,_⟩:=hp (n-1) _ (List.getElem?_eq_getElem hl);have J1:=(Array.getElem?_eq_some_iff.1 hv).1;refine Av.of_at (by simp;omega) fun j a b ha hb=>?_
 rw[List.getElem?_take] at ha;split at ha
 ·rename_i hj;obtain⟨v,hv,hc⟩:=hp j a ha;rw[Array.getElem?_toList,Array.getElem?_extract] at hb;split at hb
  ·rw[hv] at hb;cases hb;exact hc
  ·cases hb
 ·cases ha
theorem Vr {f:Field}{gs:Array Field}(hu:P.underlying f.type=some (.struct gs)):IK P f=gs.toList.map (fty P):=by unfold IK;rw[hu]
theorem MB {f:Field}(h:∀gs,P.underlying f.type≠some (.struct gs)):IK P f=[fty P f]:=by
 unfold IK;split
 ·rename_i gs hu;exact absurd hu (h gs)
 ·rfl
theorem PF (d : Nat) : ∀ (fs : List Field) (i : Nat) (xs ys : Array Value) (ps qs : List PV) (K : Bool -> Option R), Ke P fs i = true -> Io (Q0 P fs) ps qs K = some r ->
    (∀ (j : Nat) p, ps[j]? = some p -> ∃ v, xs[i + j]? = some v ∧ Be w A β p v) -> (∀ (j : Nat) p, qs[j]? = some p -> ∃ v, ys[i + j]? = some v ∧ Be w A β p v) ->
    ∃ b, K b = some r ∧ (forIn fs ((none, ()) : Option Bool × Unit) fun (f : Field) (_ : Option Bool × Unit) =>
            if f.name = "_" then pure (ForInStep.yield ((none, ()) : Option Bool × Unit))
            else do
              let x ← part f.type xs f.offset
              let y ← part f.type ys f.offset
              let e ← Op.equalIn (d + 2) f.type x y
              if e = false then pure (ForInStep.done ((some false, ()) : Option Bool × Unit)) else pure (ForInStep.yield ((none, ()) : Option Bool × Unit)) : Sem (Option Bool × Unit)).run P w = .ok (if b then (none, ()) else (some false, ())) w
  | [], i, xs, ys, ps, qs, K, _, hk, _, _ => by
    cases ps with
    | nil => cases qs with
      | nil => exact⟨true, hk, by simp⟩
      | cons q qs => cases hk
    | cons p ps => cases hk
  | f :: fs, i, xs, ys, ps, qs, K, CZ, hk, hp, hq => by
    simp only[Ke, Bool.and_eq_true] at CZ
    obtain⟨⟨Lu, YA⟩, hty⟩ := CZ
    have Lu := Nat.eq_of_beq_eq_true Lu
    have Ze : f.name ≠ "_" := by simpa using YA
    have main : ∃ b0 v u n, (part f.type xs f.offset).run P w = .ok v w ∧ (part f.type ys f.offset).run P w = .ok u w ∧ (Op.equalIn (d + 2) f.type v u).run P w = .ok b0 w ∧ Ke P fs (i + n) = true ∧ Io (Q0 P fs) (ps.drop n) (qs.drop n) (fun r' => K (b0 && r')) = some r := by
      have hk := Tp (IK P f) (show Io (IK P f ++ Q0 P fs) ps qs K = some r from hk)
      have Dv := KM _ hk
      rw[List.length_take, List.length_take] at Dv
      have plain : (∀ gs, P.underlying f.type ≠ some (.struct gs)) -> Ke P fs (i + 1) = true -> (match P.underlying f.type with | some (.int _) => true | some .bool => true | some .string => true | _ => false) = true ->
          ∃ b0 v u n, (part f.type xs f.offset).run P w = .ok v w ∧ (part f.type ys f.offset).run P w = .ok u w ∧ (Op.equalIn (d + 2) f.type v u).run P w = .ok b0 w ∧ Ke P fs (i + n) = true ∧ Io (Q0 P fs) (ps.drop n) (qs.drop n) (fun r' => K (b0 && r')) = some r := by
        intro hs Ajb Wz
        rw[MB hs] at hk Dv
        simp only[List.length_singleton] at hk Dv
        obtain⟨p, ps, rfl⟩ : ∃ p ps', ps = p :: ps' := by
          cases ps with
          | nil => simp at Dv
          | cons p ps => exact⟨p, ps, rfl⟩
        obtain⟨q, qs, rfl⟩ : ∃ q qs', qs = q :: qs' := by
          cases qs with
          | nil => simp at Dv
          | cons q qs => exact⟨q, qs, rfl⟩
        obtain⟨v, hv, Un⟩ := hp 0 p rfl
        obtain⟨u, hu, hqu⟩ := hq 0 q rfl
        rw[Nat.add_zero] at hv hu
        simp only[List.take_succ_cons, List.take_zero, List.drop_succ_cons, List.drop_zero] at hk ⊢
        have one : ∃ b0 dsc, P.underlying f.type = some dsc ∧ Bc P f.type = false ∧ (Op.equalIn (d + 2) f.type v u).run P w = .ok b0 w ∧ Io (Q0 P fs) ps qs (fun r' => K (b0 && r')) = some r := by
          unfold fty at hk
          split at hk
          · rename_i k Hl
            obtain⟨m, Zt, C9⟩ := Dh (show Ai k p _ = some r from hk)
            obtain⟨n, Z6, D3⟩ := Dh C9
            subst Zt Z6
            have Kv : v = .int k m := An.val (w := w) (A := A) Un
            have G4 : u = .int k n := An.val (w := w) (A := A) hqu
            subst Kv G4
            have e : ∀ b : Bool, (b && true) = b := Bool.and_true
            simp only[Io, e] at D3
            refine⟨m == n, _, Hl, by simp[Bc, Hl], Gu (d + 1) (.inl ⟨k, m, n, Hl, rfl, rfl⟩) ?_ ?_ ?_, D3⟩
            · intro k' m' n' h1 h2; injection h1 with _ h1; injection h2 with _ h2; rw[h1, h2]
            · intro m' n' h1; cases h1
            · intro m' n' h1; cases h1
          · rename_i Hl
            obtain⟨m, Zt, C9⟩ := Ct (show A5 p _ = some r from hk)
            obtain⟨n, Z6, D3⟩ := Ct C9
            subst Zt Z6
            have Kv : v = .bool m := An.val (w := w) (A := A) Un
            have G4 : u = .bool n := An.val (w := w) (A := A) hqu
            subst Kv G4
            have e : ∀ b : Bool, (b && true) = b := Bool.and_true
            simp only[Io, e] at D3
            refine⟨m == n, _, Hl, by simp[Bc, Hl], Gu (d + 1) (.inr (.inl ⟨m, n, Hl, rfl, rfl⟩)) ?_ ?_ ?_, D3⟩
            · intro k' m' n' h1; cases h1
            · intro m' n' h1 h2; injection h1 with h1; injection h2 with h2; rw[h1, h2]
            · intro m' n' h1; cases h1
          · rename_i Hl
            obtain⟨m, Zt, C9⟩ := Cm (show En p _ = some r from hk)
            obtain⟨n, Z6, D3⟩ := Cm C9
            subst Zt Z6
            have Kv : v = .string m := An.val (w := w) (A := A) Un
            have G4 : u = .string n := An.val (w := w) (A := A) hqu
            subst Kv G4
            have e : ∀ b : Bool, (b && true) = b := Bool.and_true
            simp only[Io, e] at D3
            refine⟨m == n, _, Hl, by simp[Bc, Hl], Gu (d + 1) (.inr (.inr ⟨m, n, Hl, rfl, rfl⟩)) ?_ ?_ ?_, D3⟩
            · intro k' m' n' h1; cases h1
            · intro m' n' h1; cases h1
            · intro m' n' h1 h2; injection h1 with h1; injection h2 with h2; rw[h1, h2]
          · cases hk
        obtain⟨b0, dsc, Hl, Ew, he, hk⟩ := one
        exact⟨b0, v, u, 1, Ny Hl Ew (by rw[Lu]; exact hv), Ny Hl Ew (by rw[Lu]; exact hu), he, Ajb, by simpa using hk⟩
      split at hty
      · rename_i k Hl
        exact plain (fun gs e => by rw[Hl] at e; cases e) hty (by rw[Hl])
      · rename_i Hl
        exact plain (fun gs e => by rw[Hl] at e; cases e) hty (by rw[Hl])
      · rename_i Hl
        exact plain (fun gs e => by rw[Hl] at e; cases e) hty (by rw[Hl])
      · rename_i gs Hl
        simp only[Bool.and_eq_true, Bool.not_eq_true'] at hty
        obtain⟨⟨⟨⟨hfp, Jp⟩, hi⟩, J1⟩, Qx⟩ := hty
        have J1 := Nat.eq_of_beq_eq_true J1
        have Lp : (IK P f).length = gs.size := by rw[Vr Hl, List.length_map, Array.length_toList]
        rw[Lp] at hk Dv
        rw[Vr Hl] at hk
        have hx := DG (n := gs.size) (by omega) hp
        have hy := DG (n := gs.size) (by omega) hq
        obtain⟨b0, hkb, he⟩ := Wg d Hl Jp hfp hx hy hk
        have ha : Bc P f.type = true := by simp[Bc, Hl]
        exact⟨b0, _, _, gs.size, by rw[HG Hl ha hi, Lu, J1], by rw[HG Hl ha hi, Lu, J1], he, Qx, hkb⟩
      · cases hty
    obtain⟨b0, v, u, n, hpx, hpy, he, Ajb, hk⟩ := main
    obtain⟨b, hkb, Bv⟩ := PF d fs (i + n) xs ys (ps.drop n) (qs.drop n) _ Ajb hk (fun j p' hj => by rw[List.getElem?_drop] at hj; have := hp (n + j) p' hj; rwa [← Nat.add_assoc] at this) (fun j p' hj => by rw[List.getElem?_drop] at hj; have := hq (n + j) p' hj; rwa [← Nat.add_assoc] at this)
    refine⟨b0 && b, hkb, ?_⟩
    cases b0
    · simp[List.forIn_cons, Ze, hpx, hpy, he]
    · simp only[Bool.true_and]
      rw[← Bv]
      simp[List.forIn_cons, Ze, hpx, hpy, he]
theorem Y9 (d:Nat){t:TypeId}{fs:Array Field}(hu:P.underlying t=some (.struct fs)) (Jp:P.stoodInHeld t=false)(CZ:Ke P fs.toList 0=true){xs ys:List PV}{vx vy:List Value}
  (hvx:Av (Be w A β) xs vx) (hvy:Av (Be w A β) ys vy) {K:Bool->Option R}(hk:Io (Q0 P fs.toList) xs ys K=some r):
  ∃b,K b=some r∧(Op.equalIn (d+3) t (.agg ⟨vx⟩) (.agg ⟨vy⟩)).run P w=.ok b w:=by
 obtain⟨b,hkb,Bv⟩:=PF (P:=P) (w:=w) (A:=A) (β:=β) d fs.toList 0 ⟨vx⟩ ⟨vy⟩ xs ys K CZ hk (fun j p hj=>by
   obtain⟨v,hv,hc⟩:=hvx.get hj;exact⟨v,by simpa using hv,hc⟩) (fun j p hj=>by
   obtain⟨v,hv,hc⟩:=hvy.get hj;exact⟨v,by simpa using hv,hc⟩)
 refine⟨b,hkb,?_⟩;rw[Array.forIn_toList] at Bv;rw[Op.equalIn];simp[run_underlying hu,Jp];rw[Bv];cases b<;>simp
theorem BU (h:B3 N w0 X0 Y β s a w){t:TypeId}{fs:Array Field}{x y:Operand}{op:BinOp}(QW:op=.eql∨op=.neq)(hu:P.underlying t=some (.struct fs)) (CZ:EQ P t fs=true){xs ys:List PV}
  (hx:Bf s.tm x=.agg xs)(hy:Bf s.tm y=.agg ys){K:Bool->Option R}(hk:Io (Q0 P fs.toList) xs ys K=some r):
  ∃b,K b=some r∧(do eqGuard op t x y (a.eval x) (a.eval y);binOp op t (a.eval x) (a.eval y)).run P w=.ok (.bool (if op=.eql then b else !b)) w:=by
 have hxv:=Cb h x;have OR:=Cb h y;rw[hx] at hxv;rw[hy] at OR;obtain⟨vx,Cf,hvx⟩:=hxv;obtain⟨vy,hay,hvy⟩:=OR;simp only[EQ,Bool.and_eq_true,Bool.not_eq_true'] at CZ;obtain⟨⟨CZ,Jp⟩,heg⟩:=CZ;obtain⟨b,hkb,GY⟩:=Y9 9997 hu Jp CZ hvx hvy hk;have GY:(Op.equal t (.agg ⟨vx⟩) (.agg ⟨vy⟩)).run P w=.ok b w:=GY;refine⟨b,hkb,?_⟩;rw[Cf,hay];rcases QW with rfl|rfl
 ·simp[eqGuard,binOp,GY,heg]
 ·simp[eqGuard,binOp,GY,heg]
theorem KI (h:B3 N w0 X0 Y β s a w){op:BinOp}{t ty:TypeId}{x y:Operand}(ho:o.op=.binOp op t x y ty){K:PV->Option R}
  (hk:Py P op t (Bf s.tm x) (Bf s.tm y) K=some r):∃v,K v=some r∧Dd P a w o Y β s v [] []:=by
 have Bv:∀v,(do eqGuard op t x y (a.eval x) (a.eval y);binOp op t (a.eval x) (a.eval y)).run P w=.ok v w->(execOp a.eval o).run P w=.ok (.value v) w:=by
  intro v hv;unfold execOp;rw[ho];simp only[Sem.run_bind] at hv ⊢;rw[hv];rfl
 unfold Py at hk;split at hk
 ·rename_i fs hu;split at hk
  ·obtain⟨CZ,hk⟩:=Ag hk;obtain⟨xs,hx,hk⟩:=F0 hk;obtain⟨ys,hy,hk⟩:=F0 hk;obtain⟨b,hk,hr⟩:=BU h (.inl rfl) hu CZ hx hy hk;exact⟨_,hk,Bp (Bv _ (by rw[hr];rfl))⟩
  ·obtain⟨CZ,hk⟩:=Ag hk;obtain⟨xs,hx,hk⟩:=F0 hk;obtain⟨ys,hy,hk⟩:=F0 hk;obtain⟨b,hk,hr⟩:=BU h (.inr rfl) hu CZ hx hy hk;exact⟨_,hk,Bp (Bv _ (by rw[hr];rfl))⟩
  ·cases hk
 ·unfold YU at hk;split at hk
  ·rename_i k hu;split at hk
   ·obtain⟨m,hx,hk⟩:=Dh hk;obtain⟨k2,n,hy,hk⟩:=Ci hk;obtain⟨hb,hk⟩:=Ag hk;have hb:=of_decide_eq_true hb;refine⟨_,hk,Bp (Bv _ ?_)⟩;have:¬n<0:=by omega
    simp[eqGuard,binOp,Op.shift,Bl h hx,Bl h hy,this]
   ·obtain⟨m,hx,hk⟩:=Dh hk;obtain⟨k2,n,hy,hk⟩:=Ci hk;obtain⟨hb,hk⟩:=Ag hk;have hb:=of_decide_eq_true hb;refine⟨_,hk,Bp (Bv _ ?_)⟩;have:¬n<0:=by omega
    simp[eqGuard,binOp,Op.shift,Bl h hx,Bl h hy,this]
   ·rename_i hs1 hs2;obtain⟨m,hx,hk⟩:=Dh hk;obtain⟨n,hy,hk⟩:=Dh hk;obtain⟨v,hk,hr⟩:=SM (P:=P) (w:=w) (t:=t) (x:=x) (y:=y) hs1 hs2 hk;exact⟨_,hk,Bp (Bv _ (by rw[Bl h hx,Bl h hy];exact hr))⟩
  ·rename_i hu;obtain⟨m,hx,hk⟩:=Cm hk;obtain⟨n,hy,hk⟩:=Cm hk;obtain⟨v,hk,hr⟩:=UZ (P:=P) (w:=w) (t:=t) (x:=x) (y:=y) hk;exact⟨_,hk,Bp (Bv _ (by rw[Bl h hx,Bl h hy];exact hr))⟩
  ·rename_i hu;split at hk
   ·obtain⟨m,hx,hk⟩:=Ct hk;obtain⟨n,hy,hk⟩:=Ct hk;refine⟨_,hk,Bp (Bv _ ?_)⟩;simp[eqGuard,binOp,Bl h hx,Bl h hy,Yq hu]
   ·obtain⟨m,hx,hk⟩:=Ct hk;obtain⟨n,hy,hk⟩:=Ct hk;refine⟨_,hk,Bp (Bv _ ?_)⟩;simp[eqGuard,binOp,Bl h hx,Bl h hy,Yq hu]
   ·cases hk
  ·rename_i e hu;have hx:=Cb h x
   have nilQ:∀{e:Bool} {K':PV->Option R},Zh e (Bf s.tm x) K'=some r->∃q ad n c,K' q=some r∧a.eval x=.slice ad n c∧(q=.sc (.bool (if ad.isNone then e else !e))∨q=.ub):=by
    intro e K' hq;unfold Zh at hq;split at hq
    ·rename_i e';exact⟨_,none,0,0,hq,Bl h e',.inl rfl⟩
    ·rename_i z es n c e';rcases E9 (.inl e') hx with⟨Cf,rfl,_⟩|⟨ad,cap,Cf,rfl,_⟩|⟨ad,cap,Cf,rfl,rfl,_⟩
     ·rcases Ju hq with⟨_,hq⟩|⟨_,hq⟩
      ·exact⟨_,none,0,0,hq,Cf,.inl rfl⟩
      ·rcases Ju hq with⟨hb,_⟩|⟨_,hq⟩
       ·exact absurd (of_decide_eq_true hb) (by omega)
       ·exact⟨_,none,0,0,hq,Cf,.inr rfl⟩
     ·rcases Ju hq with⟨hz,_⟩|⟨_,hq⟩
      ·cases hz
      ·rcases Ju hq with⟨_,hq⟩|⟨_,hq⟩
       ·exact⟨_,some ad,n,cap,hq,Cf,.inl rfl⟩
       ·exact⟨_,some ad,n,cap,hq,Cf,.inr rfl⟩
     ·rcases Ju hq with⟨hz,_⟩|⟨_,hq⟩
      ·cases hz
      ·rcases Ju hq with⟨hb,_⟩|⟨_,hq⟩
       ·exact absurd (of_decide_eq_true hb) (by omega)
       ·exact⟨_,some ad,0,cap,hq,Cf,.inr rfl⟩
    ·rename_i id es off n e';rw[e'] at hx;rcases hx with⟨_,_,rfl,ad,Cf⟩|⟨b,ob,y',cap,_,Cf,_⟩
     ·rcases Ju hq with⟨hb,_⟩|⟨_,hq⟩
      ·exact absurd (of_decide_eq_true hb) (by omega)
      ·exact⟨_,ad,0,0,hq,Cf,.inr rfl⟩
     ·rcases Ju hq with⟨_,hq⟩|⟨_,hq⟩
      ·exact⟨_,_,n,cap,hq,Cf,.inl rfl⟩
      ·exact⟨_,_,n,cap,hq,Cf,.inr rfl⟩
    ·cases hq
   split at hk
   ·rename_i hy;obtain⟨q,ad,n,c,hk,Cf,hb⟩:=nilQ hk;rcases hb with rfl|rfl
    ·refine⟨_,hk,Bp (Bv _ ?_)⟩;cases ad<;>simp[eqGuard,binOp,Cf,Bl h hy,Ps hu]
    ·refine⟨_,hk,Bg (val:=.bool ad.isNone) (Bv _ ?_) (An.ub _) (by intro i hi;cases hi)⟩
     simp[eqGuard,binOp,Cf,Bl h hy,Ps hu]
   ·rename_i hy;obtain⟨q,ad,n,c,hk,Cf,hb⟩:=nilQ hk;rcases hb with rfl|rfl
    ·refine⟨_,hk,Bp (Bv _ ?_)⟩;cases ad<;>simp[eqGuard,binOp,Cf,Bl h hy,Ps hu]
    ·refine⟨_,hk,Bg (val:=.bool !ad.isNone) (Bv _ ?_) (An.ub _) (by intro i hi;cases hi)⟩
     simp[eqGuard,binOp,Cf,Bl h hy,Ps hu]
   ·cases hk
  ·rename_i kt vt hu;split at hk
   ·rename_i hx hy;refine⟨_,hk,Bp (Bv _ ?_)⟩;simp[eqGuard,binOp,Bl h hx,Bl h hy,Sg hu]
   ·rename_i hx hy;refine⟨_,hk,Bp (Bv _ ?_)⟩;simp[eqGuard,binOp,Bl h hx,Bl h hy,Sg hu]
   ·cases hk
  ·cases hk
end
open Go.RowKit
section
variable {R:Type} {r:R} {P:Program} {N:Nat} {w0:World} {X0:F9} {Y:Nat->Prop} {β β':Bt} {s:St} {a:Act} {w w':World} {o:Oper} {A:Nat->Prop}
theorem Wa:∀{c:List PV}{ns:List Int},Pq c=some ns->c=ns.map (fun n=>.sc (.int .i32 n))
 |[],ns,h=>by simp[Pq] at h;subst h;rfl
 |p::c,ns,h=>by
  unfold Pq at h;split at h
  ·rename_i e;cases e
  ·rename_i n r e;cases e;cases hr:Pq c with
   |none=>rw[hr] at h;cases h
   |some l'=>
    rw[hr] at h;simp at h;subst h;rw[Wa hr];rfl
  ·cases h
theorem O2:∀{c:List PV}{l:List UInt8},bytesOf c=some l->∃ns:List Int,c=ns.map (fun n=>.sc (.int .u8 n))∧l=ns.map fun n=>n.toNat.toUInt8
 |[],l,h=>⟨[],rfl,by simp[bytesOf] at h;subst h;rfl⟩
 |p::c,l,h=>by
  unfold bytesOf at h;split at h
  ·rename_i e;cases e
  ·rename_i n r e;cases e;cases hr:bytesOf c with
   |none=>rw[hr] at h;cases h
   |some l'=>
    rw[hr] at h;simp at h;obtain⟨ns,rfl,rfl⟩:=O2 hr;exact⟨n::ns,rfl,h.symm⟩
  ·cases h
theorem Nz:∀(ns:List Int)(b:ByteArray),ns.foldl (fun r n=>r.push (UInt8.ofNat n.toNat)) b=⟨b.data++(ns.map fun n=>n.toNat.toUInt8).toArray⟩
 |[],b=>by simp
 |n::ns,b=>by
  simp only[List.foldl_cons];rw[Nz ns];simp[ByteArray.push]
theorem Xq (h:B3 N w0 X0 Y β s a w){es:Nat}{x:Operand}{K:Nat->List PV->Option R}(hk:HZ (Hf s.hp) es (Bf s.tm x) K=some r):
  ∃n c,K n c=some r∧(((∃ad,a.eval x=.slice ad 0 0)∧n=0∧c=[])∨∃ad cap,a.eval x=.slice (some ad) n cap∧n<=cap∧(c=[]∨ad.block<w.heap.size)∧Se w (Cd s.hp β Y) ad c):=by
 have hx:=Cb h x;have Z4:=D0 h x;unfold HZ at hk;split at hk
 ·rename_i id es' off n e;rw[e] at hx Z4;cases hb:Nat.beq es' es
  ·rw[hb] at hk;cases hk
  ·rw[hb] at hk;obtain⟨c,hc,hk⟩:=Bm (show C7 _ _=some r from hk)
   obtain⟨hl,hk⟩:=Ag hk;have hl:=of_decide_eq_true hl;obtain⟨f,RU⟩:=GB hc;refine⟨_,_,hk,?_⟩;rcases hx with⟨_,rfl,rfl,ad,Cf⟩|⟨b,ob,y,cap,hβ,Cf,hy,hn,_,hlt⟩
   ·exact .inl ⟨⟨ad,Cf⟩,rfl,by simp⟩
   ·refine .inr ⟨_,cap,Cf,hn,.inr hlt,fun j p hj=>?_⟩
    have Ao6:0<n*es:=by
     rcases Nat.eq_zero_or_pos (n*es) with h0|h0
     ·rw[h0] at hj;simp at hj
     ·exact h0
    have GW:n≠0:=by rintro rfl;simp at Ao6
    have hy:y=ob+off:=by rcases hy with hy|⟨h0,_⟩<;>omega
    subst hy;rw[List.getElem?_take] at hj;split at hj
    ·rw[List.getElem?_drop] at hj;rcases h.box id _ RU with⟨h1,_⟩|⟨b',o',h1,h2,_⟩
     ·rw[hβ] at h1;cases h1
     ·rw[hβ] at h1;simp at h1;obtain⟨rfl,rfl⟩:=h1
      obtain⟨v,hv,h3,ht⟩:=h2 (off+j) p hj;rw[Bq] at hv;exact⟨v,by rw[Bq,Nat.add_assoc];exact hv,h3,ht⟩
    ·cases hj
 ·obtain⟨z,n,c,hk,hp⟩:=Eg hk;refine⟨n,c,hk,?_⟩;rcases E9 hp hx with h1|⟨ad,cap,Cf,_,hn,h1,h2,_,h4⟩|⟨ad,cap,Cf,_,rfl,rfl⟩
  ·exact .inl ⟨⟨none,h1.1⟩,h1.2⟩
  ·exact .inr ⟨ad,cap,Cf,hn,.inr h2,h4⟩
  ·exact .inr ⟨ad,cap,Cf,Nat.zero_le _,.inl rfl,fun j c hj=>by simp at hj⟩
theorem RV (b:ByteArray)(j:Nat)(p:PV)(h:(Fd b)[j]?=some p):∃x,b.data[j]?=some x∧p=.sc (.int .u8 x.toNat):=by
 unfold Fd at h;rw[List.getElem?_map] at h;cases hx:b.data.toList[j]? with
 |none=>rw[hx] at h;cases h
 |some x=>
  rw[hx] at h;simp at h;exact⟨x,by simpa using hx,h.symm⟩
theorem NT (h:B3 N w0 X0 Y β s a w){src dst:TypeId}{x:Operand}(ho:o.op=.convert src dst x){d:Nat}{K:PV->List (Nat × A3)->Option R}
  (hk:Yt P (Hf s.hp) d src dst (Bf s.tm x) K=some r):∃v nw,K v nw=some r∧Dd P a w o Y β s v [] nw:=by
 have Bv:∀v w',(convert src dst (a.eval x)).run P w=.ok v w'->(execOp a.eval o).run P w=.ok (.value v) w':=by
  intro v w' hv;unfold execOp;rw[ho];simp[hv]
 unfold Yt at hk;split at hk
 ·rename_i k hu;obtain⟨hs,hk⟩:=Ag hk;obtain⟨k',n,hx,hk⟩:=Ci hk;exact⟨_,_,hk,Bp (Bv _ _ (by rw[Bl h hx];obtain⟨ds,hds⟩:=Option.isSome_iff_exists.1 hs;cases ds<;>simp[convert,run_underlying hds,run_underlying hu,Conv.intToInt]))⟩
 ·rename_i hu;split at hk
  ·rename_i hs;obtain⟨b,hx,hk⟩:=Cm hk;exact⟨_,_,hk,Bp (Bv _ _ (by rw[Bl h hx];simp[convert,run_underlying hs,run_underlying hu]))⟩
  ·rename_i e hs;split at hk
   ·rename_i he;obtain⟨n,c,hk,hc⟩:=Xq h hk;obtain⟨hl,hk⟩:=Ag hk;have hl:=of_decide_eq_true hl;obtain⟨l,hb,hk⟩:=Bm hk;obtain⟨ns,rfl,rfl⟩:=O2 hb;refine⟨_,_,hk,Bp (Bv _ _ ?_)⟩;rcases hc with⟨⟨ad,Cf⟩,rfl,hn⟩|⟨ad,cap,Cf,_,_,hrd⟩
    ·have:ns=[]:=by simpa using hn
     subst this;rw[Cf,run_convert_bytes_string w src dst e ad 0 0 hs he hu];cases ad<;>rfl
    ·rw[Cf,run_convert_bytes_string w src dst e _ _ _ hs he hu]
     have hld:(loadCells ad n).run P w=.ok (ns.map (Value.int .u8)).toArray w:=by
      have:=run_loadCells_list (P:=P) w ad (ns.map (Value.int .u8)) (fun j v hj=>by
       rw[List.getElem?_map] at hj;cases hn:ns[j]? with
       |none=>rw[hn] at hj;cases hj
       |some m=>
        rw[hn] at hj;simp at hj;subst hj;obtain⟨v,hv,_,ht⟩:=hrd j (.sc (.int .u8 m)) (by rw[List.getElem?_map,hn];rfl)
        rw[ht.val] at hv;exact hv)
      simp only[List.length_map] at this hl;rw[hl] at this;exact this
     rw[run_bytesToString w ad n cap ns hld,Nz];simp
   ·rename_i he;obtain⟨n,c,hk,hc⟩:=Xq h hk;obtain⟨hl,hk⟩:=Ag hk;have hl:=of_decide_eq_true hl;obtain⟨ns,hb,D3⟩:=Bm hk;have P0:=Wa hb;clear hk;subst P0;refine⟨_,_,D3,Bp (Bv _ _ ?_)⟩;rcases hc with⟨⟨ad,Cf⟩,Rq,hn⟩|⟨ad,cap,Cf,_,_,hrd⟩
    ·have:ns=[]:=by simpa using hn
     subst this;rw[Cf,run_convert_runes_string w src dst e ad _ _ hs he hu];cases ad with
     |none=>rfl
     |some p=>
      have GW:n=0:=by simpa using Rq
      subst GW;exact run_runesToString w p 0 0 [] (by simpa using run_loadCells_list (P:=P) w p [] (by simp))
    ·rw[Cf,run_convert_runes_string w src dst e _ _ _ hs he hu]
     have hld:(loadCells ad n).run P w=.ok (ns.map (Value.int .i32)).toArray w:=by
      have:=run_loadCells_list (P:=P) w ad (ns.map (Value.int .i32)) (fun j v hj=>by
       rw[List.getElem?_map] at hj;cases hn:ns[j]? with
       |none=>rw[hn] at hj;cases hj
       |some m=>
        rw[hn] at hj;simp at hj;subst hj;obtain⟨v,hv,_,ht⟩:=hrd j (.sc (.int .i32 m)) (by rw[List.getElem?_map,hn];rfl)
        rw[ht.val] at hv;exact hv)
      simp only[List.length_map] at this hl;rw[hl] at this;exact this
     exact run_runesToString w ad n cap ns hld
   ·cases hk
  ·cases hk
 ·rename_i e hu;split at hk
  ·rename_i he hs;obtain⟨b,hx,hk⟩:=Cm hk;obtain⟨J1,hk⟩:=Ag hk;have hr:=run_bytes_of_string (P:=P) w src dst e b hs hu he;rw[←Bl h hx] at hr
   have Qb:b.size<=grownCap w b.size 0 e:=by
    unfold grownCap;simp[Question.cut]
   have JI:(bytesRow b (grownCap w b.size 0 e)).size=grownCap w b.size 0 e:=by
    simp only[bytesRow,Array.size_append,Array.size_map,Array.size_replicate];have:b.data.size=b.size:=rfl;omega
   refine⟨_,_,hk,Mi (c:=bytesRow b (grownCap w b.size 0 e)) (e:=e) (by simp) (Bv _ _ hr) ?_ (fun j p hj=>?_) (.inr ⟨1,b.size,grownCap w b.size 0 e,rfl,rfl,Qb,by rw[JI];omega,.inl rfl⟩)⟩
   ·exact⟨rfl,rfl,rfl,fun i hi=>Below.heap_alloc w.drew _ i hi,by show (w.heap.push _).size=_;simp,_,by show (w.heap.push _)[w.heap.size]?=_;simp;rfl,.inr (Nat.le_refl _)⟩
   ·obtain⟨y,hy,rfl⟩:=RV b j p hj;refine⟨.int .u8 y.toNat,?_,rfl,An.sc _⟩
    have hlt:j<b.data.size:=by
     rcases Nat.lt_or_ge j b.data.size with h|h
     ·exact h
     ·rw[Array.getElem?_eq_none h] at hy;cases hy
    simp only[bytesRow];rw[Array.getElem?_append_left (by simpa using hlt),Array.getElem?_map,hy]
    rfl
  ·cases hk
 ·cases hk
end
open Go.RowKit
section
variable {R:Type} {r:R} {P:Program} {N:Nat} {w0:World} {X0:F9} {Y:Nat->Prop} {β β':Bt} {s:St} {a:Act} {w w':World} {o:Oper} {A:Nat->Prop}
theorem Td:∀{n:Nat}{l:List PV}{j:Nat}{c:PV},(repl n l)[j]?=some c->j<n*l.length∧l[j % l.length]?=some c
 |0,l,j,c,h=>by simp[repl] at h
 |n+1,l,j,c,h=>by
  have e:repl (n+1) l=l++repl n l:=by simp[repl,List.replicate_succ]
  rw[e] at h;by_cases hj:j<l.length
  ·rw[List.getElem?_append_left hj] at h;refine⟨by rw[Nat.add_mul];omega,?_⟩
   rw[Nat.mod_eq_of_lt hj];exact h
  ·rw[List.getElem?_append_right (by omega)] at h
   obtain⟨h1,h2⟩:=Td h;refine⟨by rw[Nat.add_mul];omega,?_⟩
   rw[Nat.mod_eq_sub_mod (by omega)];exact h2
theorem KQ (n:Nat)(l:List PV):(repl n l).length=n*l.length:=by
 induction n with
 |zero=>simp[repl]
 |succ n ih=>
  have e:repl (n+1) l=l++repl n l:=by simp[repl,List.replicate_succ]
  rw[e,List.length_append,ih,Nat.add_mul];omega
theorem JE {z:Array Value}{n j:Nat}(hj:j<n){v:Value}(hv:z[j % z.size]?=some v):(madeCells z n)[j]?=some v:=by
 unfold madeCells;rw[Array.getElem?_map,Array.getElem?_range,if_pos hj];simp only[Option.map_some];rw[getElem!_def,hv]
theorem NR (h:B3 N w0 X0 Y β s a w){t:TypeId}{x y:Operand}(ho:o.op=.makeSlice t x y){d:Nat}{K:PV->List Nat->List (Nat × A3)->Option R}
  (hk:(match P.underlying t with
   |some (.slice e)=>Cp (Bf s.tm x) fun _ n=>Cp (Bf s.tm y) fun _ m=>
     Au (decide (0<=n)&&decide (n<=m)&&decide (m*((P.info? e).map (·.bytes)).getD 0<=1099511627776)&&decide (m<=1099511627776))
      (Fu P e fun z=>K (.view d (At P e) 0 n.toNat) [] [(d,.ar false (repl n.toNat z))])
   |_=>none)=some r):∃v fz nw,K v fz nw=some r∧Dd P a w o Y β s v fz nw:=by
 split at hk
 ·rename_i e hu;obtain⟨k1,n,hx,hk⟩:=Ci hk;obtain⟨k2,m,hy,hk⟩:=Ci hk;obtain⟨hb,hk⟩:=Ag hk;simp only[Bool.and_eq_true,decide_eq_true_eq] at hb;obtain⟨⟨⟨h0,hnm⟩,Ov⟩,hm⟩:=hb;obtain⟨z,cs,hk,hz,hct,hl,J1,hc⟩:=Ld hk
  have hzc:∃i,P.info? e=some i∧i.zero=some z:=by
   unfold Lt at hz;cases hi:P.info? e with
   |none=>rw[hi] at hz;cases hz
   |some i=>rw[hi] at hz;exact⟨i,rfl,hz⟩
  obtain⟨i,hi,TZ⟩:=hzc;have Anp:At P e=i.size:=by simp[At,hi]
  simp only[hi,Option.map_some,Option.getD_some] at Ov;have hr:=run_make (P:=P) w t e i z hu hi TZ k1 k2 n m h0 hnm (by rw[Int.mul_comm];omega) (by omega)
  have Bv:(execOp a.eval o).run P w=.ok (.value (.slice (some ⟨w.heap.size,0,none⟩) n.toNat m.toNat)) (w.alloc (.cells (madeCells z.cells (m.toNat*i.size)) e)):=by
   unfold execOp;rw[ho];simp[Bl h hx,Bl h hy,hr]
  have hzl:z.cells.size=At P e:=by
   have:z.cells.toList.length=z.cells.size:=by simp
   omega
  refine⟨_,_,_,hk,Mi (c:=madeCells z.cells (m.toNat*i.size)) (e:=e) (by simp) Bv (Cx.alloc w _ e) (fun j p hj=>?_) (.inr ⟨At P e,n.toNat,m.toNat,rfl,rfl,by omega,by rw[size_madeCells,Anp];exact Nat.le_refl _,.inr (Ib w _ e)⟩)⟩
  obtain⟨h1,h2⟩:=Td hj;obtain⟨hT,u,G4,Qz,hv⟩:=hc _ p h2;refine⟨u,JE ?_ ?_,Qz,hv _ _⟩
  ·have:n.toNat*cs.length<=m.toNat*i.size:=by
    rw[J1,Anp];exact Nat.mul_le_mul_right _ (by omega)
   omega
  ·rw[hzl,←J1]
   simpa using G4
 ·cases hk
theorem US {p:PV}{v:Value}(hp:okP p=true)(hv:Di w A β p v):Av (Be w A β) (cellsOf p) v.cells.toList:=by
 have one:v.oneCell'=true->Be w A β p v->(∀x,p ≠ .agg x)->Av (Be w A β) (cellsOf p) v.cells.toList:=by
  intro h1 h2 h3;have:cellsOf p=[p]:=by cases p<;>first|rfl|exact absurd rfl (h3 _)
  rw[this,J7 h1];exact⟨h2,trivial⟩
 unfold okP at hp;split at hp
 ·obtain⟨vs,rfl,h2⟩:=hv;exact h2
 ·refine one ?_ hv (by simp)
  have Kv:An w A _ v:=hv;cases Kv<;>rfl
 ·refine one ?_ hv (by simp)
  rcases hv with⟨_,_,_,_,rfl⟩|⟨_,_,_,_,_,rfl,_⟩<;>rfl
 ·have:=Vc hv;subst this;exact one rfl hv (by simp)
 ·have:=Vc hv;subst this;exact one rfl hv (by simp)
 ·have:=Vc hv;subst this;exact one rfl hv (by simp)
 ·have:=Vc hv;subst this;exact one rfl hv (by simp)
 ·cases hp
theorem QI:∀(vs:List Value)(k off:Nat)(cells:Array Value),off+k+vs.length<=cells.size ->
  ((vs.zipIdx k).foldl (fun cs (q:Value × Nat)=>cs.setIfInBounds (off+q.2) q.1) cells).toList=cells.toList.take (off+k)++vs++cells.toList.drop (off+k+vs.length)
 |[],k,off,cells,_=>by simp
 |v::vs,k,off,cells,h=>by
  simp only[List.zipIdx_cons,List.foldl_cons,List.length_cons] at h ⊢;rw[QI vs (k+1) off _ (by simp;omega)]
  have hlt:off+k<cells.toList.length:=by simp;omega
  simp only[Array.toList_setIfInBounds];rw[show off+(k+1)=off+k+1 from by omega,List.take_succ_eq_append_getElem (by simpa using hlt)]
  rw[List.getElem_set_self,List.take_set_of_le (Nat.le_refl _),List.drop_set_of_lt (by omega)]
  simp only[List.append_assoc,List.cons_append,List.nil_append];rw[show off+k+1+vs.length=off+k+(vs.length+1) from by omega]
theorem Yg (h:B3 N w0 X0 Y β s a w){Fg:Nat->Option (Nat × Nat)}:∀{parts:List (Nat × Operand)} {pc:List PV}{vc:Array Value}{K:List PV->Option R},
  Pb Fg (parts.map fun q=>(q.1,Bf s.tm q.2)) pc K=some r->Av (Be w (Cd s.hp β Y) β) pc vc.toList->(∀c∈pc,∀id∈Ak c,s.hp id≠none) ->
  ∃pc' vc',K pc'=some r∧Instr.fill Fg vc (parts.map fun q=>(q.1,a.eval q.2))=some vc'∧Av (Be w (Cd s.hp β Y) β) pc' vc'.toList∧pc'.length=pc.length∧∀c∈pc',∀id∈Ak c,s.hp id≠none
 |[],pc,vc,K,hk,hv,hr=>⟨pc,vc,hk,rfl,hv,rfl,hr⟩
 |(i,x)::parts,pc,vc,K,hk,hv,hr=>by
  simp only[List.map_cons] at hk;unfold Pb at hk;obtain⟨⟨off,size⟩,Wz,hk⟩:=Bm hk;obtain⟨hb,hk⟩:=Ag hk;simp only[Bool.and_eq_true] at hb;obtain⟨⟨K1,J1⟩,Vl⟩:=hb;have J1:(cellsOf (Bf s.tm x)).length=size:=Nat.eq_of_beq_eq_true J1;have Vl:off+size<=pc.length:=Nat.le_of_ble_eq_true Vl;have hxc:=US K1 (Cb h x);have hxl:=hxc.len;have I9:=hv.len;have Ex:vc.toList.length=vc.size:=by simp
  have P0:(a.eval x).cells.toList.length=(a.eval x).cells.size:=by simp
  have Anc:=QI (a.eval x).cells.toList 0 off vc (by omega)
  simp only[Nat.add_zero] at Anc
  have Apa:((a.eval x).cells.zipIdx.foldl (fun cs (q:Value × Nat)=>cs.setIfInBounds (off+q.2) q.1) vc).toList=vc.toList.take off++(a.eval x).cells.toList++vc.toList.drop (off+(a.eval x).cells.toList.length):=by
   rw[←Anc,←Array.foldl_toList];simp
  obtain⟨pc',vc',hk,hf,h2,hl,hr'⟩:=Yg h (pc:=Bd pc (cellsOf (Bf s.tm x)) off) (vc:=(a.eval x).cells.zipIdx.foldl (fun cs (q:Value × Nat)=>cs.setIfInBounds (off+q.2) q.1) vc) hk (by
    rw[Apa,←hxl];exact (((hv.take off).app hxc).app (hv.drop _))) (by
    intro c hc id hid;unfold Bd at hc;rcases List.mem_append.1 hc with hc|hc
    ·rcases List.mem_append.1 hc with hc|hc
     ·exact hr c (List.mem_of_mem_take hc) id hid
     ·refine D0 h x id ?_;cases hp:Bf s.tm x with
      |agg cs=>rw[hp] at hc;exact List.mem_flatMap.2 ⟨c,hc,hid⟩
      |tup cs=>rw[hp] at hc;simp[cellsOf] at hc;subst hc;cases hid
      |_=>rw[hp] at hc;simp[cellsOf] at hc;subst hc;exact hid
    ·exact hr c (List.mem_of_mem_drop hc) id hid)
  refine⟨pc',vc',hk,?_,h2,?_,hr'⟩
  ·simp only[List.map_cons,Instr.fill,Wz];rw[if_neg (by simp;omega)]
   exact hf
  ·rw[hl];simp[Bd];omega
theorem JQ {t:TypeId}{z:Value}{cs:List PV}(hl:cs.length=z.cells.toList.length)(hc:∀(j:Nat) c,cs[j]?=some c->Ku c∧∃u,z.cells.toList[j]?=some u∧u.oneCell'=true∧∀(w:World)(A:Nat->Prop),An w A c u) (_ht:Lt P t=some z):
  Av (Be w A β) cs z.cells.toList∧∀c∈cs,Ak c=[]:=by
 refine⟨Av.of_at hl fun i c u hci hu=>?_,fun c IE=>?_⟩
 ·obtain⟨hT,u',G4,_,hv⟩:=hc i c hci;rw[hu] at G4;cases G4;exact (It hT).2 (hv _ _)
 ·obtain⟨j,hj⟩:=List.mem_iff_getElem?.1 IE;exact F5 (hc j c hj).1
theorem X5:∀{fs:List Field},(fs.all fun f=>Zf P f.type)=true->fs.mapM (fun f=>(P.info? f.type).map fun i=>(f.offset,i.size))=some (fs.map fun f=>(f.offset,At P f.type))
 |[],_=>rfl
 |f::fs,h=>by
  simp only[List.all_cons,Bool.and_eq_true] at h;obtain⟨i,hi⟩:=Option.isSome_iff_exists.1 h.1;simp[List.mapM_cons,hi,X5 h.2,At]
theorem Re {p q:Nat->Option (Nat × Nat)} (h:∀i,p i=q i)(cells:Array Value)(parts:List (Nat × Value)):Instr.fill p cells parts=Instr.fill q cells parts:=by
 have:p=q:=funext h;rw[this]
theorem HS (h:B3 N w0 X0 Y β s a w){t:TypeId}{ps:Array (Nat × Operand)} (ho:o.op=.build t ps){K:PV->Option R}
  (hk:(Au (Md P t&&Bc P t)<|Fu P t fun z=>Pb (M0 P t) (ps.toList.map fun q=>(q.1,Bf s.tm q.2)) z fun cs=>K4 (Gc P t) cs 0 fun cs'=>K (.agg cs'))=some r):∃v,K v=some r∧Dd P a w o Y β s v [] []:=by
 obtain⟨Wz,hk⟩:=Ag hk;simp only[Bool.and_eq_true] at Wz;obtain⟨Wz,Ew⟩:=Wz;obtain⟨z,cs,hk,hz,hct,hl,J1,hc⟩:=Ld hk;obtain⟨hzr,Yr⟩:=JQ (w:=w) (A:=Cd s.hp β Y) (β:=β) hl hc hz;obtain⟨pc',vc',hk,hf,h2,Hm,hr'⟩:=Yg h hk hzr (fun c IE id hid=>by rw[Yr c IE] at hid;cases hid)
 obtain⟨qs,hk,hql,Uu,hq⟩:=O4 hk
 have Ai1:P.built t (ps.toList.map fun q=>(q.1,a.eval q.2))=some vc':=by
  have TZ:∃i,P.info? t=some i∧i.zero=some z:=by
   unfold Lt at hz;cases hi:P.info? t with
   |none=>rw[hi] at hz;cases hz
   |some i=>rw[hi] at hz;exact⟨i,rfl,hz⟩
  obtain⟨i,hi,TZ⟩:=TZ;unfold Md at Wz;unfold Program.built;split at Wz
  ·rename_i fs hu
   have RQ:Instr.fill (((fs.toList.map fun f=>(f.offset,At P f.type)).toArray)[·]?) z.cells (ps.toList.map fun q=>(q.1,a.eval q.2))=some vc':=by
    rw[←hf];refine Re (fun j=>?_) _ _
    simp[M0,hu]
   simp only[hi,hu,TZ,X5 Wz];exact RQ
  ·rename_i n e hu;obtain⟨ie,hie⟩:=Option.isSome_iff_exists.1 Wz
   have RQ:Instr.fill (fun j=>some (j*ie.size,ie.size)) z.cells (ps.toList.map fun q=>(q.1,a.eval q.2))=some vc':=by
    rw[←hf];refine Re (fun j=>?_) _ _
    simp[M0,hu,At,hie]
   simp only[hi,hu,TZ,hie];exact RQ
  ·rename_i e hu;simp[Bc,hu] at Ew
  ·cases Wz
 refine⟨_,hk,Bg (val:=.agg vc') ?_ ⟨vc'.toList,rfl,?_⟩ ?_⟩
 ·unfold execOp;rw[ho];have:=run_build (P:=P) w t (ps.map fun q=>(q.1,a.eval q.2)) vc' (by simpa using Ai1)
  simp[this]
 ·refine Av.of_at (by have:=h2.len;omega) fun j c u hcj hu=>?_
  obtain⟨p,hp,_,_,Un⟩:=hq j c hcj;rw[Nat.zero_add] at hp;exact (Un _ _ _ _ (h2.at_ hp hu)).1
 ·intro id hid;obtain⟨c,IE,hid⟩:=List.mem_flatMap.1 (show id∈qs.flatMap Ak from hid)
  obtain⟨j,hj⟩:=List.mem_iff_getElem?.1 IE;obtain⟨p,hp,_,hpr,_⟩:=hq j c hj;rw[Nat.zero_add] at hp;exact hr' p (List.mem_of_getElem? hp) id (hpr id hid)
end
open Go.RowKit
section
variable {R:Type} {r:R} {P:Program} {N:Nat} {w0:World} {X0:F9} {Y:Nat->Prop} {β β':Bt} {s:St} {a:Act} {w w':World} {o:Oper} {A:Nat->Prop}
theorem NJ (h:B3 N w0 X0 Y β s a w){fz:List Nat}(N1:∀id∈fz,∃f c,s.hp id=some (.ar f c)) {id:Nat}(hm:id∈fz){f:Bool}{c:List PV}(hb:s.hp id=some (.ar f c)) {b ob:Nat}(hβ:β id=some (b,ob)):
  ¬Cd (Ac s.hp fz) β Y b∧Se w (Cd (Ac s.hp fz) β Y) ⟨b,ob,none⟩ c∧b<w.heap.size:=by
 have hf:=h.freeze N1;have he:Ac s.hp fz id=some (.ar true c):=by rw[Ba,if_pos hm,hb];rfl
 rcases hf.box id _ he with⟨h1,_⟩|⟨b',o',h1,h2,_,h4⟩
 ·rw[hβ] at h1;cases h1
 ·rw[hβ] at h1;simp at h1;obtain⟨rfl,rfl⟩:=h1;exact⟨h4 rfl,h2,h.blt id b ob (by rw[hb];simp) hβ⟩
theorem RX (h:B3 N w0 X0 Y β s a w){fz:List Nat}(N1:∀id∈fz,∃f c,s.hp id=some (.ar f c)) {id es off n:Nat}(hm:id∈fz){f:Bool}{c:List PV}(hb:s.hp id=some (.ar f c)) {v:Value}
  (hv:Be w (Cd s.hp β Y) β (.view id es off n) v):An w (Cd (Ac s.hp fz) β Y) (.lst false es n ((c.drop off).take (n*es))) v:=by
 rcases hv with⟨_,rfl,rfl,ad,rfl⟩|⟨b,ob,y,cap,hβ,rfl,hy,hn,_,hlt⟩
 ·simp only[Nat.zero_mul,List.take_zero];cases ad with
  |none=>exact An.lnil false es
  |some p=>exact An.lemp es p 0
 ·obtain⟨h1,h2,_⟩:=NJ h N1 hm hb hβ;by_cases GW:n*es=0
  ·rw[GW,List.take_zero];exact An.lst es n [] ⟨b,y,none⟩ cap (fun _=>undef) rfl hlt h1 hn (by simp) (by simp) (by simp)
  ·have hy:y=ob+off:=by
    rcases hy with hy|⟨h0,_⟩
    ·exact hy
    ·rw[h0] at GW;simp at GW
   subst hy
   have hcell:∀(j:Nat) q,((c.drop off).take (n*es))[j]?=some q->c[off+j]?=some q:=by
    intro j q hq;rw[List.getElem?_take] at hq;split at hq
    ·rw[List.getElem?_drop] at hq;exact hq
    ·cases hq
   refine An.lst es n _ ⟨b,ob+off,none⟩ cap (fun j=>(w.cell? ⟨b,ob+off+j,none⟩).getD undef) rfl hlt h1 hn (fun j q hq=>?_) (fun j q hq=>?_) (fun j q hq=>?_)
   ·obtain⟨v,hv,_⟩:=h2 _ q (hcell j q hq);rw[Bq,←Nat.add_assoc] at hv;rw[Bq,hv];rfl
   ·obtain⟨v,hv,h3,_⟩:=h2 _ q (hcell j q hq);rw[Bq,←Nat.add_assoc] at hv;rw[hv];exact h3
   ·obtain⟨v,hv,_,ht⟩:=h2 _ q (hcell j q hq);rw[Bq,←Nat.add_assoc] at hv;rw[hv];exact ht
theorem An.zf {A:Nat->Prop}{z:Bool}{es n:Nat}{c:List PV}{v:Value}(h:An w A (.lst z es n c) v):An w A (.lst false es n c) v:=by
 cases h with
 |lnil=>exact .lnil _ _
 |lemp=>exact .lemp _ _ _
 |lst _ _ _ a cap f hs hb hA hn hc h1 hr=>exact .lst _ _ _ a cap f hs hb hA hn hc h1 hr
theorem Xw (h:B3 N w0 X0 Y β s a w){t:CT}{p:PV}{K:PV->List Nat->Option R}(hk:Kz (Hf s.hp) t p K=some r):
  ∃c m,K c m=some r∧Ku c∧AV p∧(∀id∈m,∃f cc,s.hp id=some (.ar f cc))∧∀fz:List Nat,(∀id∈m,id∈fz)->(∀id∈fz,∃f cc,s.hp id=some (.ar f cc))->∀v,Be w (Cd s.hp β Y) β p v->An w (Cd (Ac s.hp fz) β Y) c v∧v.oneCell'=true:=by
 have tree:∀t',(Ug t' p fun c=>K c [])=some r->∃c m,K c m=some r∧Ku c∧AV p∧(∀id∈m,∃f cc,s.hp id=some (.ar f cc))∧∀fz:List Nat,(∀id∈m,id∈fz)->(∀id∈fz,∃f cc,s.hp id=some (.ar f cc))->∀v,Be w (Cd s.hp β Y) β p v->An w (Cd (Ac s.hp fz) β Y) c v∧v.oneCell'=true:=by
  intro t' hk;obtain⟨c,hk,hT,Xo,hv⟩:=Jz hk;refine⟨c,[],hk,hT,Nv Xo,by simp,fun fz _ N1 v Un=>?_⟩
  obtain⟨h1,h2⟩:=hv _ _ _ _ Un;exact⟨h1.step (Bh.refl _ _) (fun b _ hb=>hb.imp L8 id),h2⟩
 cases t with
 |sl es=>
  unfold Kz at hk;dsimp only at hk;split at hk
  ·rename_i id es' off n;cases hb:Nat.beq es' es
   ·rw[hb] at hk;cases hk
   ·rw[hb] at hk;have:=Nat.eq_of_beq_eq_true hb;subst this;obtain⟨c,hc,hk⟩:=Bm (show C7 _ _=some r from hk)
    obtain⟨_,hk⟩:=Ag hk;obtain⟨f,Jc⟩:=GB hc;refine⟨_,[id],hk,trivial,trivial,?_,fun fz hm N1 v hv=>⟨RX h N1 (hm id (by simp)) Jc hv,?_⟩⟩
    ·intro i hi;simp at hi;subst hi;exact⟨f,c,Jc⟩
    ·rcases hv with⟨_,_,_,_,rfl⟩|⟨_,_,_,_,_,rfl,_⟩<;>rfl
  ·obtain⟨z,n,c,hk,hp⟩:=Eg hk;refine⟨_,[],hk,trivial,?_,by simp,fun fz _ N1 v Un=>?_⟩
   ·rcases hp with rfl|⟨rfl,_⟩<;>trivial
   ·have ht:=Ru hp Un;refine⟨An.zf (ht.step (Bh.refl _ _) (fun b _ hb=>hb.imp L8 id)),?_⟩
    cases ht<;>rfl
 |int k=>exact tree (.int k) hk
 |bool=>exact tree .bool hk
 |str=>exact tree .str hk
 |any=>exact tree .any hk
theorem Mo (h:B3 N w0 X0 Y β s a w):∀{ts:List CT}{ps:List PV}{K:List PV->List Nat->Option R},Kb (Hf s.hp) ts ps K=some r ->
  ∃cs m,K cs m=some r∧cs.length=ts.length∧ps.length=ts.length∧(∀c∈cs,Ku c)∧(∀p∈ps,AV p)∧(∀id∈m,∃f cc,s.hp id=some (.ar f cc)) ∧
   ∀fz:List Nat,(∀id∈m,id∈fz)->(∀id∈fz,∃f cc,s.hp id=some (.ar f cc))->∀vs,Av (Be w (Cd s.hp β Y) β) ps vs->Av (An w (Cd (Ac s.hp fz) β Y)) cs vs∧∀v∈vs,v.oneCell'=true
 |[],[],K,hk=>⟨[],[],hk,rfl,rfl,by simp,by simp,by simp,fun fz _ _ vs hv=>by
   cases vs with
   |nil=>exact⟨trivial,by simp⟩
   |cons v vs=>exact hv.elim⟩
 |[],_::_,K,hk=>by cases hk
 |_::_,[],K,hk=>by cases hk
 |t::ts,p::ps,K,hk=>by
  unfold Kb at hk;obtain⟨c,m,hk,hT,hF,hm,hv⟩:=Xw h hk;obtain⟨cs,ms,hk,hl,Hm,hTs,hFs,X7,Ex⟩:=Mo h hk;refine⟨c::cs,m++ms,hk,by simp[hl],by simp[Hm],?_,?_,?_,fun fz hfm N1 vs h2=>?_⟩
  ·intro x hx;rcases List.mem_cons.1 hx with rfl|hx
   ·exact hT
   ·exact hTs x hx
  ·intro x hx;rcases List.mem_cons.1 hx with rfl|hx
   ·exact hF
   ·exact hFs x hx
  ·intro x hx;rcases List.mem_append.1 hx with hx|hx
   ·exact hm x hx
   ·exact X7 x hx
  ·cases vs with
   |nil=>exact h2.elim
   |cons v vs=>
    obtain⟨h3,h4⟩:=hv fz (fun i hi=>hfm i (by simp[hi])) N1 v h2.1
    obtain⟨h5,h6⟩:=Ex fz (fun i hi=>hfm i (by simp[hi])) N1 vs h2.2
    refine⟨⟨h3,h5⟩,?_⟩;intro x hx;rcases List.mem_cons.1 hx with rfl|hx
    ·exact h4
    ·exact h6 x hx
theorem SR {R':PV->Value->Prop}{cs:List PV}{z:Array Value}(h:Av R' cs z.toList)(n:Nat):Av R' (repl n cs) (madeCells z (n*cs.length)).toList:=by
 have hzl:z.size=cs.length:=by have:=h.len;simp at this;exact this.symm
 refine Av.of_at ?_ fun j c v hc hv=>?_
 ·rw[KQ];simp[size_madeCells]
 ·obtain⟨h1,h2⟩:=Td hc
  have hlt:j % cs.length<cs.length:=by
   rcases Nat.lt_or_ge (j % cs.length) cs.length with h|h
   ·exact h
   ·rw[List.getElem?_eq_none h] at h2;cases h2
  obtain⟨u,hu,hcu⟩:=h.get h2;have:(madeCells z (n*cs.length))[j]?=some u:=JE h1 (by rw[hzl];simpa using hu)
  have Kv:(madeCells z (n*cs.length))[j]?=some v:=by simpa using hv
  rw[this] at Kv;cases Kv;exact hcu
theorem BM {A':Nat->Prop}:∀{ps cs:List PV}{vs:List Value},Av (Be w (Cd s.hp β Y) β) ps vs->Av (An w A') cs vs->Av (An w A') (HU true ps cs) vs
 |[],_,_,_,h=>h
 |_::_,[],_,_,h=>h
 |p::ps,c::cs,[],_,h=>h.elim
 |p::ps,c::cs,v::vs,hp,h=>by
  refine⟨?_,BM hp.2 h.2⟩;split
  ·have h1:An w (Cd s.hp β Y) (.lst true _ 0 []) v:=hp.1;cases h1;exact .lnil true _
  ·exact h.1
theorem Uw (h:B3 N w0 X0 Y β s a w){nz:Bool}{t:TypeId}{n:Nat}{ps:Array (Nat × Operand)} (ho:o.op=.buildSlice t n ps){d:Nat}{K:PV->List Nat->List (Nat × A3)->Option R}
  (hk:(match P.underlying t with
   |some (.slice e)=>Au (Md P t&&Nat.ble (n*At P e) 16777216) (Fu P e fun z=>Pb (M0 P t) (ps.toList.map fun q=>(q.1,Bf s.tm q.2)) (repl n z) fun cs=>
     Kb (Hf s.hp) (List.replicate n (Gc P e)).flatten cs fun cs' m=>K (.view d (At P e) 0 n) m [(d,.ar false (bif nz then HU true cs cs' else cs'))])
   |_=>none)=some r):∃v fz nw,K v fz nw=some r∧Dd P a w o Y β s v fz nw:=by
 split at hk
 ·rename_i e hu;obtain⟨hb,hk⟩:=Ag hk;simp only[Bool.and_eq_true] at hb;have Vl:n*At P e<=16777216:=Nat.le_of_ble_eq_true hb.2;have Lv:(P.info? e).isSome=true:=by have:=hb.1;unfold Md at this;rw[hu] at this;exact this
  obtain⟨z,cs,hk,hz,hct,hl,J1,hc⟩:=Ld hk;obtain⟨hzr,Yr⟩:=JQ (w:=w) (A:=Cd s.hp β Y) (β:=β) hl hc hz;have Aqu:=SR hzr n
  obtain⟨pc',vc',hk,hf,h2,Hm,hr'⟩:=Yg h hk Aqu (fun c IE id hid=>by
   obtain⟨j,hj⟩:=List.mem_iff_getElem?.1 IE;obtain⟨_,hg⟩:=Td hj;rw[Yr c (List.mem_of_getElem? hg)] at hid;cases hid)
  obtain⟨qs,m,hk,hql,Wz,hqT,_,hm,hqv⟩:=Mo h hk;obtain⟨h3,h3'⟩:=hqv m (fun _ hi=>hi) hm _ h2
  have h3:Av (An w (Cd (Ac s.hp m) β Y)) (bif nz then HU true pc' qs else qs) vc'.toList:=by
   cases nz
   ·exact h3
   ·exact BM h2 h3
  have RQ:Instr.fill (fun i=>some (i*At P e,At P e)) (madeCells z.cells (n*cs.length)) (ps.toList.map fun q=>(q.1,a.eval q.2))=some vc':=by
   rw[←hf];refine Re (fun i=>?_) _ _
   simp[M0,hu]
  have I9:vc'.size=n*At P e:=by
   have h4:=h2.len;rw[Hm,KQ] at h4;simp at h4;rw[←h4,J1]
  have Bv:(execOp a.eval o).run P w=.ok (.value (.slice (some ⟨w.heap.size,0,none⟩) n n)) (w.alloc (.cells vc' e)):=by
   unfold execOp;rw[ho];have Anq:¬(n*At P e>2 ^ 24):=by omega
   rw[J1] at RQ;by_cases GW:n*At P e=0
   ·simp only[Instr.buildSlice,Sem.run_bind,run_underlying hu,Result.andThen_ok,B2 Lv,if_neg Anq,GW];rw[GW] at RQ;have e0:madeCells z.cells 0=(Array.range 0).map (fun _=>default):=by simp[madeCells]
    rw[e0] at RQ;simp[RQ,newRow]
   ·simp only[Instr.buildSlice,Sem.run_bind,run_underlying hu,Result.andThen_ok,B2 Lv,if_neg Anq,if_neg GW,Qw hz];unfold madeCells at RQ;simp[RQ,newRow]
  refine⟨_,_,_,hk,Mi (c:=vc') (e:=e) hm Bv (Cx.alloc w vc' e) (fun j p hj=>?_) (.inr ⟨At P e,n,n,rfl,rfl,Nat.le_refl _,by rw[I9];exact Nat.le_refl _,.inr (Ib w vc' e)⟩)⟩
  obtain⟨u,G4,hp⟩:=h3.get hj;exact⟨u,by simpa using G4,h3' u (List.mem_of_getElem? G4),hp⟩
 ·cases hk
theorem DW (h:B3 N w0 X0 Y β s a w){t:TypeId}{x k:Operand}{ok:Bool}(ho:o.op=.lookup t x k ok){K:PV->Option R}
  (hk:(match P.underlying t with
   |some (.map kt vt)=>Au (match P.underlying kt with|some .string=>true|_=>false) (
    match Bf s.tm x with
    |.sc (.map none)=>En (Bf s.tm k) fun _=>C7 (Lt P vt) fun z=>cvK P vt z fun v=>Au (match v with | .tup _=>false|_=>true) (K (bif ok then .tup [v,.sc (.bool false)] else v))
    |_=>none)
   |_=>none)=some r):∃v,K v=some r∧Dd P a w o Y β s v [] []:=by
 split at hk
 ·rename_i kt vt hu;obtain⟨hkt,hk⟩:=Ag hk
  have hkt:P.underlying kt=some .string:=by
   split at hkt
   ·assumption
   ·cases hkt
  split at hk
  ·rename_i hx;obtain⟨b,hkk,hk⟩:=Cm hk;obtain⟨z,hz,hk⟩:=Bm hk;obtain⟨v,hk,hr,hv⟩:=PS hk;obtain⟨NU,hk⟩:=Ag hk
   have NU:∀cs,v ≠ .tup cs:=by
    rintro cs rfl
    cases NU
   have hzr:∀w:World,(zeroValue vt).run P w=.ok z w:=by
    intro w;unfold Lt at hz;cases hi:P.info? vt with
    |none=>rw[hi] at hz;cases hz
    |some i=>
     rw[hi] at hz;simp[zeroValue,typeInfo,hi,show i.zero=some z from hz]
   have Bv:(execOp a.eval o).run P w=.ok (.value (if ok then .tuple #[z,.bool false] else z)) w:=by
    unfold execOp;rw[ho];have hck:∀c (n:Nat),(Instr.checkKey c (n+1) kt (.string b)).run P w=.ok () w:=fun c n=>by simp[Instr.checkKey,run_underlying hkt]
    have Z5:∀c,(Instr.checkKey c 10000 kt (.string b)).run P w=.ok () w:=fun c=>hck c 9999
    cases ok<;>simp[Instr.lookup,run_underlying hu,Bl h hx,Bl h hkk,Z5,Instr.findKey,Instr.findNow,run_underlying hkt,hzr]
   refine⟨_,hk,Bg Bv ?_ ?_⟩
   ·cases ok
    ·exact hv _ _ _
    ·refine⟨[z,.bool false],rfl,(Lm NU).1 (hv _ _ _),?_,trivial⟩;exact An.sc _
   ·cases ok
    ·intro id hid;simp only[cond_false] at hid;rw[hr] at hid;cases hid
    ·intro id hid;have:A9 (.tup [v,.sc (.bool false)])=Bn v++[]:=by simp[A9,Bn,Ak]
     simp only[cond_true] at hid;rw[this,List.append_nil] at hid;have e:Bn v=A9 v:=by cases v<;>first|rfl|exact absurd rfl (NU _)
     rw[e,hr] at hid;cases hid
  ·cases hk
 ·cases hk
end
end
end Go.Proofs.Ytcgfahlefkfghaa.Pv
