/-
  The proof of AccountLeaves, part 1.
-/
import Derived.Orders
import Derived.LoopN
import Derived.Below
import Derived.Lib.ValidU
import Derived.Lib.Bytealg
import Derived.IntWalk
import Derived.WalkKit
import Derived.WalkLawsBesides
import Derived.Laws.IdiomStrings
import Derived.Laws.MakeOwn
import Derived.Laws.Tables
set_option linter.unusedSimpArgs false
set_option linter.unusedVariables false
namespace Go.Proofs.Yteicjnihnacadaa.Pv
section
inductive PV where
 |sc (v:Value)
 |lst (z:Bool) (es n:Nat) (cells:List PV)
 |own (es n:Nat) (cells:List PV)
 |view (id es off n:Nat)
 |ptr (id off:Nat)
 |iptr (cells:List PV) (off:Nat)
 |pbox (cells:List PV)
 |agg (cells:List PV)
 |tup (vs:List PV)
 |top
 |ub
inductive A1 where
 |st (cells:List PV)
 |ar (fz:Bool) (cells:List PV)
 |mv
structure St where
 tm:Nat->PV
 hp:Nat->Option A1
structure Be where
 vals:List PV
 outs:List (List PV)
structure Et where
 shr:FuncId->Bool
 mvd:FuncId->Nat->Bool
 lnd:FuncId->Nat->Bool
 kz:FuncId->Bool
 ext:FuncId->Option (List PV->Option Be)
 nz:Nat->Bool
def Et.core (C:Et):Et:={ C with ext:=fun _=>none }
def Bg {α:Type}(f:Nat->α)(i:Nat)(v:α):Nat->α:=fun j=>bif Nat.beq j i then v else f j
def rd (hp:Nat->Option A1)(id:Nat):Option (List PV):=
 match hp id with
 |some (.st c)=>some c
 |some (.ar _ c)=>some c
 |_=>none
def Gj (hp:Nat->Option A1)(id:Nat):Option (List PV):=
 match hp id with
 |some (.ar _ c)=>some c
 |_=>none
inductive CT where
 |int (k:IntKind)
 |bool
 |str
 |sl (es:Nat)
 |any
def Aq (P:Program)(t:TypeId):Nat:=((P.info? t).map (·.size)).getD 0
def A8 (P:Program)(t:TypeId):Bool:=
 match P.underlying t with
 |some (.struct _)=>true
 |some (.array _ _)=>true
 |_=>false
def Aca (P:Program):Nat->TypeId->List CT
 |0,_=>[]
 |d+1,t=>
  match P.underlying t with
  |some (.int k)=>[.int k]
  |some .bool=>[.bool]
  |some .string=>[.str]
  |some (.slice e)=>[.sl (Aq P e)]
  |some (.struct fs)=>fs.toList.flatMap fun f=>Aca P d f.type
  |some (.array n e)=>(List.replicate n (Aca P d e)).flatten
  |_=>[.any]
abbrev E9 (P:Program)(t:TypeId):List CT:=Aca P 9 t
def Fu (P:Program)(t:TypeId):Bool:=(P.underlying t).isSome&&Nat.beq (E9 P t).length (Aq P t)
abbrev SP (k:IntKind)(a b:Int):Int:=k.wrap (BitVec.ofInt k.bits a &&& BitVec.ofInt k.bits b).toNat
abbrev S4 (k:IntKind)(a b:Int):Int:=k.wrap (BitVec.ofInt k.bits a ||| BitVec.ofInt k.bits b).toNat
abbrev Cl (k:IntKind)(a b:Int):Int:=k.wrap (BitVec.ofInt k.bits a ^^^ BitVec.ofInt k.bits b).toNat
abbrev YR (k:IntKind)(a b:Int):Int:=k.wrap (BitVec.ofInt k.bits a &&& ~~~BitVec.ofInt k.bits b).toNat
abbrev Gc (k:IntKind)(a b:Int):Int:=k.wrap (a*2 ^ (min b.toNat k.bits))
abbrev AY (k:IntKind)(a b:Int):Int:=a.fdiv (2 ^ (min b.toNat k.bits))
abbrev Ae5 (k:IntKind)(n:Int):Int:=k.wrap (BitVec.ofInt k.bits (if k.signed then -1 else k.max) ^^^ BitVec.ofInt k.bits n).toNat
section
variable {R:Type}
def Ag (k:IntKind)(p:PV)(K:Int->Option R):Option R:=
 match p with
 |.sc (.int k' n)=>if k'=k then K n else none
 |_=>none
def A4 (p:PV)(K:Bool->Option R):Option R:=
 match p with
 |.sc (.bool b)=>K b
 |_=>none
def E7 (p:PV)(K:ByteArray->Option R):Option R:=
 match p with
 |.sc (.string s)=>K s
 |_=>none
def F3 (es:Nat)(p:PV)(K:Bool->Nat->List PV->Option R):Option R:=
 match p with
 |.lst z es' n c=>bif Nat.beq es' es then K z n c else none
 |.sc (.slice none 0 0)=>K true 0 []
 |_=>none
def fsK (es:Nat)(p:PV)(K:PV->Option R):Option R:=
 match p with
 |.view id es' off n=>bif Nat.beq es' es then K (.view id es off n) else none
 |p=>F3 es p fun z n c=>K (.lst z es n c)
def M4 (es:Nat)(p:PV)(K:Nat->List PV->Option R):Option R:=
 match p with
 |.own es' n c=>bif Nat.beq es' es then K n c else none
 |_=>none
def Ar (b:Bool)(K:Option R):Option R:=bif b then K else none
abbrev Aa {α:Type}(x:α)(K:α->Option R):Option R:=K x
def EG (b:Bool)(x y:Option R):Option R:=bif b then x else y
abbrev Aij (x:Nat)(K:Nat->Option R):Option R:=K x
def Abp (x:List (List Nat)) (K:List (List Nat)->Option R):Option R:=K x
def Ca (b:Bool)(x y:Option R):Option R:=bif b then x else y
def Db {α:Type}(o:Option α)(K:α->Option R):Option R:=
 match o with
 |some a=>K a
 |none=>none
def Ab {α:Type}(l:List α)(K:α->List α->Option R):Option R:=
 match l with
 |a::r=>K a r
 |[]=>none
def Ah {α:Type}(l:List α)(K:Option R):Option R:=
 match l with
 |[]=>K
 |_::_=>none
def D6 (p:PV)(K:List PV->Option R):Option R:=
 match p with
 |.agg c=>K c
 |_=>none
def Qm (p:PV)(K:List PV->Option R):Option R:=
 match p with
 |.pbox c=>K c
 |_=>none
def As (r:Option Be)(K:List PV->List (List PV)->Option R):Option R:=
 match r with
 |some ⟨v,o⟩=>K v o
 |none=>none
def QO (p:PV)(K:Value->Option R):Option R:=
 match p with
 |.sc (.func f a b)=>K (.func f a b)
 |_=>none
def fvK (p:PV)(K:FuncId->Option R):Option R:=
 match p with
 |.sc (.func (.func f) a b)=>bif a.isEmpty&&b.isEmpty then K f else none
 |_=>none
def Sk (t:CT)(p:PV)(K:PV->Option R):Option R:=
 match t with
 |.int k=>Ag k p fun n=>K (.sc (.int k n))
 |.bool=>A4 p fun b=>K (.sc (.bool b))
 |.str=>E7 p fun s=>K (.sc (.string s))
 |.sl es=>F3 es p fun z n c=>K (.lst z es n c)
 |.any=>QO p fun v=>K (.sc v)
def fcK (t:CT)(p:PV)(K:PV->Option R):Option R:=
 match t with
 |.sl es=>fsK es p K
 |t=>Sk t p K
def M0:List CT->List PV->Nat->(List PV->Option R)->Option R
 |[],_,_,K=>K []
 |t::ts,cells,off,K=>Sk t (cells.getD off .top) fun c=>M0 ts cells (off+1) fun r=>K (c::r)
def Kb:List CT->List PV->Nat->(List PV->Option R)->Option R
 |[],_,_,K=>K []
 |t::ts,cells,off,K=>fcK t (cells.getD off .top) fun c=>Kb ts cells (off+1) fun r=>K (c::r)
def LN (agg:Bool)(cells:List PV)(K:PV->Option R):Option R:=
 bif agg then K (.agg cells) else Ab cells fun c r=>Ah r (K c)
def cellsOf:PV->List PV
 |.agg c=>c
 |p=>[p]
def cvK (P:Program)(t:TypeId)(v:Value)(K:PV->Option R):Option R:=
 match v with
 |.agg cs=>Ar (Nat.beq cs.toList.length (E9 P t).length) (M0 (E9 P t) (cs.toList.map .sc) 0 fun c=>K (.agg c))
 |.slice none 0 0=>
  match P.underlying t with
  |some (.slice e)=>K (.lst true (Aq P e) 0 [])
  |_=>none
 |v=>K (.sc v)
end
def A7 (tm:Nat->PV):Operand->PV
 |.tmp t=>tm t
 |.const (.agg cs)=>.agg (cs.toList.map .sc)
 |.const v=>.sc v
 |.func f=>.sc (.func (.func f) #[] #[])
 |.global g=>.sc (.pointer (some ⟨g,0,none⟩))
section
variable {R:Type}
def B6 (p:PV)(K:IntKind->Int->Option R):Option R:=
 match p with
 |.sc (.int k n)=>K k n
 |_=>none
def IW (rdf:Nat->Option (List PV)) (es:Nat)(p:PV)(K:Nat->List PV->Option R):Option R:=
 match p with
 |.view id es' off n=>bif Nat.beq es' es then Db (rdf id) fun c=>Ar (decide (off+n*es<=c.length)) (K n ((c.drop off).take (n*es))) else none
 |p=>F3 es p fun _ n c=>K n c
def Jn (rdf:Nat->Option (List PV)) (t:CT)(p:PV)(K:PV->List Nat->Option R):Option R:=
 match t with
 |.sl es=>
  match p with
  |.view id es' off n=>bif Nat.beq es' es then Db (rdf id) fun c=>Ar (decide (off+n*es<=c.length)) (K (.lst false es n ((c.drop off).take (n*es))) [id]) else none
  |p=>F3 es p fun _ n c=>K (.lst false es n c) []
 |t=>Sk t p fun c=>K c []
def I7 (rdf:Nat->Option (List PV)):List CT->List PV->(List PV->List Nat->Option R)->Option R
 |[],[],K=>K [] []
 |t::ts,p::ps,K=>Jn rdf t p fun c m=>I7 rdf ts ps fun cs ms=>K (c::cs) (m++ms)
 |_,_,_=>none
def FV (k:Bool):List PV->List PV->List PV
  |p::ps,c::cs=>
    (match k,p with
     |true,.lst true es 0 []=>.lst true es 0 []
     |_,_=>c)::FV k ps cs
  |_,cs=>cs
def HC (P:Program)(rdf:Nat->Option (List PV)) (t:TypeId)(p:PV)(K:PV->List Nat->Option R):Option R:=
 bif A8 P t then D6 p fun ps=>I7 rdf (E9 P t) ps fun cs m=>K (.agg cs) m
 else I7 rdf (E9 P t) [p] fun cs m=>Ab cs fun c r=>Ah r (K c m)
def Wz (P:Program)(rdf:Nat->Option (List PV)):List TypeId->List PV->(List PV->List Nat->Option R)->Option R
 |[],[],K=>K [] []
 |t::ts,p::ps,K=>HC P rdf t p fun v m=>Wz P rdf ts ps fun vs ms=>K (v::vs) (m++ms)
 |_,_,_=>none
def RC (shr:Bool)(id:Nat)(t:CT)(p:PV)(K:PV->List (Nat × A1)->Option R):Option R:=
 match t with
 |.sl es=>bif shr then F3 es p fun _ n c=>K (.lst false es n c) [] else M4 es p fun n c=>K (.view id es 0 n) [(id,.ar false c)]
 |t=>Sk t p fun c=>K c []
def K3 (shr:Bool)(N:Nat):Nat->List CT->List PV->(List PV->List (Nat × A1)->Option R)->Option R
 |_,[],ps,K=>Ah ps (K [] [])
 |id,t::ts,ps,K=>Ab ps fun p ps=>RC shr id t p fun c b=>K3 shr N (id+N) ts ps fun cs bs=>K (c::cs) (b++bs)
def Q4 (P:Program)(t:TypeId):Option TypeId:=
 match P.underlying t with
 |some (.pointer e)=>some e
 |_=>none
def EN (P:Program)(t:TypeId):Nat:=
 match Q4 P t with
 |some e=>1+(E9 P e).length
 |none=>(E9 P t).length
def NK (P:Program)(shr:Bool)(N:Nat)(id:Nat)(t:TypeId)(p:PV)(K:PV->List (Nat × A1)->Option R):Option R:=
 match Q4 P t with
 |some e=>Qm p fun ps=>K3 shr N (id+N) (E9 P e) ps fun cs bs=>K (.ptr id 0) ((id,.st cs)::bs)
 |none=>
 bif A8 P t then D6 p fun ps=>K3 shr N id (E9 P t) ps fun cs bs=>K (.agg cs) bs
 else K3 shr N id (E9 P t) [p] fun cs bs=>Ab cs fun c r=>Ah r (K c bs)
def Tk (P:Program)(shr:Bool)(N:Nat):Nat->List TypeId->List PV->(List PV->List (Nat × A1)->Option R)->Option R
 |_,[],ps,K=>Ah ps (K [] [])
 |id,t::ts,ps,K=>Ab ps fun p ps=>NK P shr N id t p fun v bs=>Tk P shr N (id+N*EN P t) ts ps fun vs bs'=>K (v::vs) (bs++bs')
def I4 (P:Program)(t:TypeId):List TypeId:=
 match P.underlying t with
 |some (.tuple ts)=>ts.toList
 |_=>[t]
def Ix (vs:List PV)(t:Bool):PV:=bif t then .tup vs else vs.headD .top
def J2 (P:Program)(t:TypeId):Bool:=
 match P.underlying t with
 |some (.tuple _)=>true
 |_=>false
def YT (op:BinOp)(a b:Int)(K:Bool->Option R):Option R:=
 match op with
 |.eql=>K (a==b)
 |.neq=>K (a != b)
 |.lss=>K (decide (a<b))
 |.leq=>K (decide (a<=b))
 |.gtr=>K (decide (a>b))
 |.geq=>K (decide (a>=b))
 |_=>none
def Vw (op:BinOp)(k:IntKind)(a b:Int)(K:PV->Option R):Option R:=
 match op with
 |.add=>Aa ((k.wrap (a+b))) fun n=>K (.sc (.int k n))
 |.sub=>Aa ((k.wrap (a-b))) fun n=>K (.sc (.int k n))
 |.mul=>Aa ((k.wrap (a*b))) fun n=>K (.sc (.int k n))
 |.quo=>Ar (decide (b≠0)) (Aa ((k.wrap (a.tdiv b))) fun n=>K (.sc (.int k n)))
 |.rem=>Ar (decide (b≠0)) (Aa ((a.tmod b)) fun n=>K (.sc (.int k n)))
 |.and=>Aa (SP k a b) fun n=>K (.sc (.int k n))
 |.or=>Aa (S4 k a b) fun n=>K (.sc (.int k n))
 |.xor=>Aa (Cl k a b) fun n=>K (.sc (.int k n))
 |.andNot=>Aa (YR k a b) fun n=>K (.sc (.int k n))
 |op=>YT op a b fun r=>K (.sc (.bool r))
def Vs (op:BinOp)(x y:ByteArray)(K:PV->Option R):Option R:=
 match op with
 |.add=>Ar (decide (x.size+y.size<=9223372036854775807)) (Aa (x++y) fun s=>K (.sc (.string s)))
 |.eql=>K (.sc (.bool (x.data.toList==y.data.toList)))
 |.neq=>K (.sc (.bool !(x.data.toList==y.data.toList)))
 |.lss=>K (.sc (.bool (Op.bytesLess x.data.toList y.data.toList)))
 |.leq=>K (.sc (.bool (Op.bytesLess x.data.toList y.data.toList||x.data.toList==y.data.toList)))
 |.gtr=>K (.sc (.bool !(Op.bytesLess x.data.toList y.data.toList||x.data.toList==y.data.toList)))
 |.geq=>K (.sc (.bool !(Op.bytesLess x.data.toList y.data.toList)))
 |_=>none
def V9 (e:Bool)(p:PV)(K:PV->Option R):Option R:=
 match p with
 |.sc (.slice none 0 0)=>K (.sc (.bool e))
 |.lst z _ n _=>Ca z (K (.sc (.bool e))) (Ca (decide (0<n)) (K (.sc (.bool !e))) (K .ub))
 |.view _ _ _ n=>Ca (decide (0<n)) (K (.sc (.bool !e))) (K .ub)
 |_=>none
def FK (P:Program):List Field->Nat->Bool
 |[],_=>true
 |f::r,i=>Nat.beq f.offset i&&(f.name != "_")&&(match P.underlying f.type with|some (.int _)=>true|some .bool=>true|some .string=>true|_=>false)&&FK P r (i+1)
def Jb (P:Program):List Field->Nat->Bool
  |[],_=>true
  |f::r,i=>Nat.beq f.offset i&&(f.name != "_") &&
    (match P.underlying f.type with
     |some (.int _)=>Jb P r (i+1)
     |some .bool=>Jb P r (i+1)
     |some .string=>Jb P r (i+1)
     |some (.struct gs)=>FK P gs.toList 0 && !P.stoodInHeld f.type&&(P.info? f.type).isSome&&Nat.beq (Aq P f.type) gs.size&&Jb P r (i+gs.size)
     |_=>false)
def AH (P:Program)(t:TypeId)(fs:Array Field):Bool:=Jb P fs.toList 0 && !P.stoodInHeld t && !P.eqGuardType P.depth t
def UO (P:Program)(f:Field):CT:=
 match P.underlying f.type with
 |some (.int k)=>.int k
 |some .bool=>.bool
 |some .string=>.str
 |_=>.any
def FH (P:Program)(f:Field):List CT:=
 match P.underlying f.type with
 |some (.struct gs)=>gs.toList.map (UO P)
 |_=>[UO P f]
def O9 (P:Program):List Field->List CT
 |[]=>[]
 |f::r=>FH P f++O9 P r
def Hv:List CT->List PV->List PV->(Bool->Option R)->Option R
 |[],[],[],K=>K true
 |.int k::ts,p::ps,q::qs,K=>Ag k p fun a=>Ag k q fun b=>Hv ts ps qs fun r=>K ((a==b)&&r)
 |.bool::ts,p::ps,q::qs,K=>A4 p fun a=>A4 q fun b=>Hv ts ps qs fun r=>K ((a==b)&&r)
 |.str::ts,p::ps,q::qs,K=>E7 p fun a=>E7 q fun b=>Hv ts ps qs fun r=>K ((a==b)&&r)
 |_,_,_,_=>none
def VQ (P:Program)(op:BinOp)(t:TypeId)(x y:PV)(K:PV->Option R):Option R:=
 match P.underlying t with
 |some (.int k)=>
  match op with
  |.shl=>Ag k x fun a=>B6 y fun _ b=>Ar (decide (0<=b)) (Aa (Gc k a b) fun n=>K (.sc (.int k n)))
  |.shr=>Ag k x fun a=>B6 y fun _ b=>Ar (decide (0<=b)) (Aa (AY k a b) fun n=>K (.sc (.int k n)))
  |op=>Ag k x fun a=>Ag k y fun b=>Vw op k a b K
 |some .string=>E7 x fun a=>E7 y fun b=>Vs op a b K
 |some .bool=>
  match op with
  |.eql=>A4 x fun a=>A4 y fun b=>K (.sc (.bool (a==b)))
  |.neq=>A4 x fun a=>A4 y fun b=>K (.sc (.bool !(a==b)))
  |_=>none
 |some (.slice _)=>
  match op,y with
  |.eql,.sc (.slice none 0 0)=>V9 true x K
  |.neq,.sc (.slice none 0 0)=>V9 false x K
  |_,_=>none
 |_=>none
def N4 (P:Program)(op:BinOp)(t:TypeId)(x y:PV)(K:PV->Option R):Option R:=
 match P.underlying t with
 |some (.struct fs)=>
  match op with
  |.eql=>Ar (AH P t fs) (D6 x fun xs=>D6 y fun ys=>Hv (O9 P fs.toList) xs ys fun b=>K (.sc (.bool b)))
  |.neq=>Ar (AH P t fs) (D6 x fun xs=>D6 y fun ys=>Hv (O9 P fs.toList) xs ys fun b=>K (.sc (.bool !b)))
  |_=>none
 |_=>VQ P op t x y K
def unK (op:UnOp)(x:PV)(K:PV->Option R):Option R:=
 match op with
 |.not=>A4 x fun b=>K (.sc (.bool !b))
 |.neg=>B6 x fun k n=>Aa (k.wrap (0-n)) fun n=>K (.sc (.int k n))
 |.xor=>B6 x fun k n=>Aa (Ae5 k n) fun n=>K (.sc (.int k n))
 |_=>none
def bytesOf:List PV->Option (List UInt8)
 |[]=>some []
 |.sc (.int .u8 n)::r=>(bytesOf r).map (n.toNat.toUInt8 :: ·)
 |_::_=>none
def Eb (s:ByteArray):List PV:=s.data.toList.map fun b=>.sc (.int .u8 b.toNat)
def Wm (P:Program)(rdf:Nat->Option (List PV)) (d:Nat)(src dst:TypeId)(x:PV)(K:PV->List (Nat × A1)->Option R):Option R:=
 match P.underlying dst with
 |some (.int k)=>Ar (P.underlying src).isSome (B6 x fun _ n=>Aa (k.wrap n) fun n=>K (.sc (.int k n)) [])
 |some .string=>
  match P.underlying src with
  |some .string=>E7 x fun s=>K (.sc (.string s)) []
  |some (.slice e)=>
   match P.underlying e with
   |some (.int .u8)=>IW rdf 1 x fun n c=>Ar (decide (c.length=n)) (Db (bytesOf c) fun b=>K (.sc (.string ⟨b.toArray⟩)) [])
   |_=>none
  |_=>none
 |some (.slice e)=>
  match P.underlying e,P.underlying src with
  |some (.int .u8),some .string=>E7 x fun s=>Ar (decide (s.size<=1099511627776)) (K (.view d 1 0 s.size) [(d,.ar false (Eb s))])
  |_,_=>none
 |_=>none
def El (p:Option PV)(dflt:Nat)(K:Nat->Option R):Option R:=
 match p with
 |none=>K dflt
 |some p=>B6 p fun _ i=>Ar (decide (0<=i)) (K i.toNat)
def Sb (P:Program)(rdf:Nat->Option (List PV)) (t:TypeId)(x:PV)(lo hi:Option PV)(K:PV->Option R):Option R:=
 match P.underlying t with
 |some .string=>E7 x fun s=>El lo 0 fun l=>El hi s.size fun h=>Ar (decide (l<=h)&&decide (h<=s.size)) (Aa (s.extract l h) fun s=>K (.sc (.string s)))
 |some (.slice e)=>Ar (P.info? e).isSome (
  match x with
  |.view id es off n=>Ar (Nat.beq es (Aq P e)) (El lo 0 fun l=>El hi n fun h=>Ar (decide (l<=h)&&decide (h<=n)) (Aa (off+l*es) fun o=>Aa (h-l) fun n=>K (.view id es o n)))
  |x=>F3 (Aq P e) x fun z n c=>El lo 0 fun l=>El hi n fun h=>Ar (decide (l<=h)&&decide (h<=n)) (Aa (h-l) fun n=>Aa ((c.drop (l*Aq P e)).take (n*Aq P e)) fun c=>K (.lst z (Aq P e) n c)))
 |some (.array n e)=>Ar (P.info? e).isSome (
  match x with
  |.ptr id off=>Db (rdf id) fun c=>Ar (decide (1<=n*Aq P e)&&decide (off+n*Aq P e<=c.length)&&Nat.beq (Aq P e) 1)<|El lo 0 fun l=>El hi n fun h=>Ar (decide (l<=h)&&decide (h<=n)) (Aa (off+l*Aq P e) fun o=>Aa (h-l) fun n=>K (.view id (Aq P e) o n))
  |_=>none)
 |_=>none
def Nx (P:Program)(d:Nat)(t:TypeId)(x:PV)(lo hi mx:Option PV)(K:PV->List (Nat × A1)->Option R):Option R:=
 match P.underlying t with
 |some (.slice e)=>Ar ((P.info? e).isSome&&hi.isSome) (
  match x with
  |.view _ es _ n=>Ar (Nat.beq es (Aq P e)) (El lo 0 fun l=>El hi n fun h=>El mx n fun m=>Ar (Nat.beq l m&&Nat.beq h m&&decide (m<=n)) (K (.view d (Aq P e) 0 0) [(d,.ar false [])]))
  |x=>F3 (Aq P e) x fun _ n _=>El lo 0 fun l=>El hi n fun h=>El mx n fun m=>Ar (Nat.beq l m&&Nat.beq h m&&decide (m<=n)) (K (.view d (Aq P e) 0 0) [(d,.ar false [])]))
 |_=>none
def My (x:PV)(d:Nat)(K:PV->Option R):Option R:=
 match x with
 |.ptr id off=>K (.ptr id (off+d))
 |.iptr c off=>K (.iptr c (off+d))
 |_=>none
def V1 (P:Program)(e:TypeId):Bool:=(P.info? e).isSome
def Kt (P:Program)(t:TypeId)(f:Nat):Option (Nat × TypeId):=
 match P.underlying t with
 |some (.struct fs)=>(fs[f]?).map fun g=>(g.offset,g.type)
 |_=>none
def Ha (P:Program)(t:TypeId)(x:PV)(i:Int)(K:PV->Option R):Option R:=
 match P.underlying t with
 |some (.array n e)=>Ar (V1 P e) (Ar (decide (0<=i)&&decide (i<n)) (My x (i.toNat*Aq P e) K))
 |some (.slice e)=>Ar (V1 P e) (
  match x with
  |.view id es off n=>Ar (Nat.beq es (Aq P e)) (Ar (decide (0<=i)&&decide (i<n)) (K (.ptr id (off+i.toNat*es))))
  |x=>F3 (Aq P e) x fun _ n c=>Ar (decide (0<=i)&&decide (i<n)) (K (.iptr c (i.toNat*Aq P e))))
 |_=>none
def Ps (P:Program)(rdf:Nat->Option (List PV)) (t:TypeId)(x:PV)(K:PV->Option R):Option R:=
 match x with
 |.ptr id off=>Ar (Fu P t) (Db (rdf id) fun c=>Kb (E9 P t) c off fun cs=>LN (A8 P t) cs K)
 |.iptr c off=>Ar (Fu P t) (M0 (E9 P t) c off fun cs=>LN (A8 P t) cs K)
 |_=>none
def AE:PV->PV
 |.lst _ es n c=>.lst false es n c
 |p=>p
def HO:PV->PV
 |.agg cs=>.agg (cs.map AE)
 |p=>AE p
def P9 (nz:Bool)(P:Program)(rdf rdaf:Nat->Option (List PV)) (t:TypeId)(x:PV)(K:PV->Option R):Option R:=
 match x with
 |.ptr id off=>Ar (Fu P t) (
  match rdaf id with
  |some c=>M0 (E9 P t) c off fun cs=>LN (A8 P t) cs fun v=>K (bif nz then v else HO v)
  |none=>Db (rdf id) fun c=>Kb (E9 P t) c off fun cs=>LN (A8 P t) cs K)
 |.iptr c off=>Ar (Fu P t) (M0 (E9 P t) c off fun cs=>LN (A8 P t) cs fun v=>K (bif nz then v else HO v))
 |_=>none
def A0 (cells new:List PV)(off:Nat):List PV:=cells.take off++new++cells.drop (off+new.length)
def okP:PV->Bool
 |.agg _=>true
 |.lst _ _ _ _=>true
 |.view _ _ _ _=>true
 |.sc (.int _ _)=>true
 |.sc (.bool _)=>true
 |.sc (.string _)=>true
 |.sc (.slice none 0 0)=>true
 |_=>false
def M1 (Ea:Nat->Option (Nat × Nat)):List (Nat × PV)->List PV->(List PV->Option R)->Option R
 |[],cells,K=>K cells
 |(i,p)::r,cells,K=>Db (Ea i) fun q=>Ar (okP p&&Nat.beq (cellsOf p).length q.2&&Nat.ble (q.1+q.2) cells.length) (Aa (A0 cells (cellsOf p) q.1) fun cells=>M1 Ea r cells K)
def Ln (P:Program)(t:TypeId)(i:Nat):Option (Nat × Nat):=
 match P.underlying t with
 |some (.struct fs)=>(fs[i]?).map fun f=>(f.offset,Aq P f.type)
 |some (.array _ e)=>some (i*Aq P e,Aq P e)
 |some (.slice e)=>some (i*Aq P e,Aq P e)
 |_=>none
def K0 (P:Program)(t:TypeId):Bool:=
 match P.underlying t with
 |some (.struct fs)=>fs.toList.all fun f=>V1 P f.type
 |some (.array _ e)=>V1 P e
 |some (.slice e)=>V1 P e
 |_=>false
def Pu (P:Program)(t:TypeId):Option Value:=(P.info? t).bind (·.zero)
def En (P:Program)(t:TypeId)(K:List PV->Option R):Option R:=
 Db (Pu P t) fun v=>Ar (Nat.beq v.cells.toList.length (E9 P t).length&&Fu P t) (M0 (E9 P t) (v.cells.toList.map .sc) 0 K)
def M8 (P:Program)(t:TypeId):Bool:=
 match P.underlying t with
 |some (.array _ _)=>true
 |_=>false
def VR (P:Program)(t:TypeId)(cells:List PV):A1:=bif M8 P t then .ar false cells else .st cells
def P2 (n:Nat)(l:List PV):List PV:=(List.replicate n l).flatten
def ZC (a b:PV)(K:PV->Option R):Option R:=B6 a fun k x=>Ag k b fun y=>Aa (if y<x then y else x) fun n=>K (.sc (.int k n))
def XB (a b:PV)(K:PV->Option R):Option R:=B6 a fun k x=>Ag k b fun y=>Aa (if x<y then y else x) fun n=>K (.sc (.int k n))
def PM (P:Program)(t:TypeId)(x:PV)(K:Nat->Option R):Option R:=
 match P.underlying t with
 |some .string=>E7 x fun s=>K s.size
 |some (.array n _)=>K n
 |some (.slice e)=>
  match x with
  |.view _ es _ n=>Ar (Nat.beq es (Aq P e)) (K n)
  |x=>F3 (Aq P e) x fun _ n _=>K n
 |_=>none
end
abbrev Aj:=FuncId->List PV->Option Be
section
variable {R:Type}
def F6 (P:Program)(ts:List TypeId):Bool:=ts.any fun t=>(Q4 P t).isSome||(E9 P t).any fun c=>match c with | .sl _=>true|_=>false
def R1 (P:Program)(t:TypeId)(tm:Nat->PV)(x:Operand)(K:PV->Option R):Option R:=
 match x with
 |.const v=>cvK P t v K
 |x=>K (A7 tm x)
def CE (P:Program)(e:TypeId):Bool:=
 match P.info? e with
 |some i=>(match i.zero with|some z=>Nat.beq z.cells.size i.size|none=>false)
 |none=>false
def IY (P:Program)(rdaf:Nat->Option (List PV)) (es:Nat)(t:TypeId)(x:PV)(K:Nat->List PV->Option R):Option R:=
 match P.underlying t with
 |some .string=>Ar (Nat.beq es 1) (E7 x fun b=>K b.size (Eb b))
 |some (.slice _)=>IW rdaf es x K
 |_=>none
abbrev IQ (P:Program)(s:St)(es:Nat)(t:TypeId)(x:PV)(K:Nat->List PV->Option R):Option R:=IY P (Gj s.hp) es t x K
def Qu (c:Call):Bool:=
 match c.args.toList with
 |.const (.slice none 0 0)::_=>true
 |_=>false
def N9 (P:Program)(rdaf:Nat->Option (List PV)) (d:Nat)(t tx:TypeId)(x:PV)(K:PV->List (Nat × A1)->Option R):Option R:=
 match P.underlying t with
 |some (.slice e)=>Ar (CE P e) <|
  IY P rdaf (Aq P e) tx x fun m new=>
   Ar (decide (new.length=m*Aq P e)&&decide (m*((P.info? e).map (·.bytes)).getD 0<=1099511627776)&&decide (m<=1099511627776)) (K (.view d (Aq P e) 0 m) [(d,.ar false new)])
 |_=>none
def Gd (k:Bool):List Operand->List PV->List PV
  |x::xs,p::ps=>
    (match x,p with
     |.const (.slice none 0 0),.lst z es 0 []=>.lst (k||z) es 0 []
     |_,p=>p)::Gd k xs ps
  |_,ps=>ps
def OV (P:Program)(t:TypeId)(x:PV)(K:Nat->Option R):Option R:=
 match P.underlying t with
 |some (.slice e)=>F3 (Aq P e) x fun z _ _=>Ar z (K 0)
 |_=>none
def V4 (P:Program)(f:FuncId)(c:Call):List TypeId:=
 match P.funcs[f]? with
 |some fn=>fn.params.toList
 |none=>c.argTypes.toList
def Vt (C:Et)(P:Program)(N:Nat)(call:Aj)(tm:Nat->PV)(rdaf:Nat->Option (List PV)) (o:Oper)(c:Call)(f:FuncId)(K:PV->List Nat->List (Nat × A1)->Option R):Option R:=
 Wz P rdaf (V4 P f c) (c.args.toList.map (A7 tm)) fun vs m=>
  As (call f (Gd (C.kz f) c.args.toList vs)) fun rv ro=>Ah ro (Ar (Nat.blt 0 N)<|Tk P (C.shr f) N (o.dst.getD 0) (I4 P o.type) rv fun ws bs=>
   Ar (bif J2 P o.type then !Nat.beq ws.length 1 else Nat.beq ws.length 1)<|K (Ix ws (J2 P o.type)) (bif F6 P (I4 P o.type) then m else []) bs)
def V0 (C:Et)(P:Program)(N:Nat)(call:Aj)(tm:Nat->PV)(rdf rdaf:Nat->Option (List PV)) (o:Oper)(K:PV->List Nat->List (Nat × A1)->Option R):Option R:=
  match o.op with
  |.move x=>R1 P o.type tm x fun p=>K p [] []
  |.assign x=>R1 P o.type tm x fun p=>K p [] []
  |.pick c a b=>A4 (A7 tm c) fun t=>Ca t (K (A7 tm a) [] []) (K (A7 tm b) [] [])
  |.alloc t=>Db o.dst fun d=>En P t fun cs=>K (.ptr d 0) [] [(d,VR P t cs)]
  |.box t x=>Db o.dst fun d=>Ar (Fu P t&&Nat.beq (cellsOf (A7 tm x)).length (E9 P t).length)
      (bif M8 P t then M0 (E9 P t) (cellsOf (A7 tm x)) 0 fun cs=>K (.ptr d 0) [] [(d,.ar false cs)]
       else Kb (E9 P t) (cellsOf (A7 tm x)) 0 fun cs=>K (.ptr d 0) [] [(d,.st cs)])
  |.build t ps=>Ar (K0 P t&&A8 P t)<|En P t fun z=>M1 (Ln P t) (ps.toList.map fun q=>(q.1,A7 tm q.2)) z fun cs=>Kb (E9 P t) cs 0 fun cs'=>K (.agg cs') [] []
  |.buildSlice t n ps=>Db o.dst fun d=>
      match P.underlying t with
      |some (.slice e)=>Ar (K0 P t&&Nat.ble (n*Aq P e) 16777216) (En P e fun z=>M1 (Ln P t) (ps.toList.map fun q=>(q.1,A7 tm q.2)) (P2 n z) fun cs=>
          I7 rdaf (List.replicate n (E9 P e)).flatten cs fun cs' m=>K (.view d (Aq P e) 0 n) m [(d,.ar false (bif C.nz N then FV true cs cs' else cs'))])
      |_=>none
  |.load t a=>P9 (C.nz N) P rdf rdaf t (A7 tm a) fun v=>K v [] []
  |.nilCheck x=>My (A7 tm x) 0 fun p=>K p [] []
  |.binOp op t x y _=>
      N4 P op t (A7 tm x) (A7 tm y) fun v=>K v [] []
  |.unOp op _ x=>unK op (A7 tm x) fun v=>K v [] []
  |.convert src dst x=>Wm P rdaf (o.dst.getD 0) src dst (A7 tm x) fun v b=>Db o.dst fun _=>K v [] b
  |.makeSlice t l c=>Db o.dst fun d=>
      match P.underlying t with
      |some (.slice e)=>B6 (A7 tm l) fun _ n=>B6 (A7 tm c) fun _ m=>
          Ar (decide (0<=n)&&decide (n<=m)&&decide (m*((P.info? e).map (·.bytes)).getD 0<=1099511627776)&&decide (m<=1099511627776))
            (En P e fun z=>K (.view d (Aq P e) 0 n.toNat) [] [(d,.ar false (P2 n.toNat z))])
      |_=>none
  |.slice t x lo hi mx=>
      match mx with
      |none=>Sb P rdf t (A7 tm x) (lo.map (A7 tm)) (hi.map (A7 tm)) fun v=>K v [] []
      |some m=>Db o.dst fun d=>Nx P d t (A7 tm x) (lo.map (A7 tm)) (hi.map (A7 tm)) (some (A7 tm m)) fun v nw=>K v [] nw
  |.fieldAddr t x f=>Db (Kt P t f) fun q=>Ar (Nat.ble 1 (Aq P q.2)) (My (A7 tm x) q.1 fun p=>K p [] [])
  |.field t x f=>Db (Kt P t f) fun q=>Ar (Fu P q.2)<|D6 (A7 tm x) fun cs=>Kb (E9 P q.2) cs q.1 fun c=>LN (A8 P q.2) c fun v=>K v [] []
  |.indexAddr t x i=>B6 (A7 tm i) fun _ n=>Ha P t (A7 tm x) n fun p=>K p [] []
  |.index t x i=>B6 (A7 tm i) fun _ n=>
      match P.underlying t with
      |some .string=>E7 (A7 tm x) fun s=>Ar (decide (0<=n)) (Db (s.data.toList[n.toNat]?) fun b=>K (.sc (.int .u8 b.toNat)) [] [])
      |some (.array len e)=>D6 (A7 tm x) fun cs=>Ar (decide (0<=n)&&decide (n<len)&&Fu P e) (Kb (E9 P e) cs (n.toNat*Aq P e) fun c=>LN (A8 P e) c fun v=>K v [] [])
      |_=>none
  |.extract x i=>
      match A7 tm x with
      |.tup vs=>Db vs[i]? fun p=>K p [] []
      |_=>none
  |.call c=>
      match c.callee with
      |.builtin .len=>Ab c.args.toList fun x _=>Ab c.argTypes.toList fun t _=>PM P t (A7 tm x) fun n=>K (.sc (.int .i64 n)) [] []
      |.builtin .cap=>Ab c.args.toList fun x _=>Ab c.argTypes.toList fun t _=>OV P t (A7 tm x) fun n=>K (.sc (.int .i64 n)) [] []
      |.builtin .min=>Ab c.args.toList fun x r=>Ab r fun y r'=>Ah r' (ZC (A7 tm x) (A7 tm y) fun v=>K v [] [])
      |.builtin .max=>Ab c.args.toList fun x r=>Ab r fun y r'=>Ah r' (XB (A7 tm x) (A7 tm y) fun v=>K v [] [])
      |.builtin .append=>Ar (Qu c) (Db o.dst fun d=>Ab c.args.toList fun _ r=>Ab r fun x r'=>Ah r' (Ab c.argTypes.toList fun t u=>Ab u fun tx _=>N9 P rdaf d t tx (A7 tm x) fun v nw=>K v [] nw))
      |.value (.func f)=>Vt C P N call tm rdaf o c f K
      |.value (.tmp t)=>fvK (tm t) fun f=>Vt C P N call tm rdaf o c f K
      |_=>none
  |_=>none
def Lg (C:Et)(P:Program)(o:Op):Bool:=
 match o with
 |.store .. =>true
 |.call c=>
  match c.callee with
  |.builtin .append=> !Qu c
  |.builtin .copy=>true
  |.builtin _=>false
  |.value (.func f)=>((V4 P f c).any fun t=>(Q4 P t).isSome)||((V4 P f c).zipIdx.any fun q=>C.mvd f q.2||C.lnd f q.2)
  |_=>false
 |_=>false
def Ni (b:A1):A1:=
 match b with
 |.ar _ c=>.ar true c
 |b=>b
def Ac (hp:Nat->Option A1)(ids:List Nat):Nat->Option A1:=fun i=>bif ids.any (Nat.beq i) then (hp i).map Ni else hp i
def Ak (hp:Nat->Option A1):List (Nat × A1)->Nat->Option A1
 |[]=>hp
 |(i,b)::r=>Ak (Bg hp i (some b)) r
def A2 (hp:Nat->Option A1):List (Nat × A1)->Bool
 |[]=>true
 |(i,_)::r=>(hp i).isNone && !(r.any fun q=>Nat.beq q.1 i)&&A2 hp r
def Az (tm:Nat->PV)(d:Option Tmp)(v:PV):Nat->PV:=
 match d with
 |some i=>Bg tm i v
 |none=>tm
def D3 (N:Nat)(d:Option Tmp):Bool:=
 match d with
 |some i=>Nat.blt i N
 |none=>true
def Sp (N:Nat)(s:St)(d:Option Tmp)(v:PV)(fz:List Nat)(nw:List (Nat × A1)) (K:St->Option R):Option R:=
 Ar (D3 N d&&A2 s.hp nw) (K ⟨Az s.tm d v,Ak (Ac s.hp fz) nw⟩)
def Sg (P:Program)(s:St)(t:TypeId)(a x:PV)(K:St->Option R):Option R:=
 match a with
 |.ptr id off=>
  match s.hp id with
  |some (.st c)=>Ar (Fu P t&&Nat.beq (cellsOf x).length (E9 P t).length&&decide (off+(E9 P t).length<=c.length)) (Kb (E9 P t) (cellsOf x) 0 fun cs=>Aa (A0 c cs off) fun c=>K ⟨s.tm,Bg s.hp id (some (.st c))⟩)
  |some (.ar false c)=>Ar (Fu P t&&decide (off+(E9 P t).length<=c.length)) (I7 (Gj s.hp) (E9 P t) (cellsOf x) fun cs m=>Ar (!m.any (Nat.beq id)) (Aa (A0 c cs off) fun c=>K ⟨s.tm,Bg (Ac s.hp m) id (some (.ar false c))⟩))
  |_=>none
 |_=>none
def Qo (P:Program)(t:TypeId):Bool:=
 match P.underlying t with
 |some (.int _)=>true
 |_=>false
def Mz (P:Program)(N:Nat)(s:St)(d:Nat)(e:TypeId)(b x:PV)(K:St->Option R):Option R:=
 B6 x fun _ n=>F3 (Aq P e) b fun z _ _=>
  Ar (z&&Nat.blt d N&&(s.hp d).isNone&&decide (0<=n)&&decide (n.toNat*((P.info? e).map (·.bytes)).getD 0<=1099511627776)&&decide (n<=1099511627776))
   (K ⟨Bg s.tm d (.view d (Aq P e) 0 n.toNat),Bg s.hp d (some (.ar false []))⟩)
def Jo (P:Program)(N:Nat)(s:St)(d:Nat)(t tx:TypeId)(b x:PV)(K:St->Option R):Option R:=
 match P.underlying t with
 |some (.slice e)=>Ar (CE P e) <|
  bif Qo P tx then Mz P N s d e b x K else
  IQ P s (Aq P e) tx x fun m new=>
  match b with
  |.view id es off n=>
   match s.hp id with
   |some (.ar false c)=>
    Ar (Nat.beq es (Aq P e)&&Nat.beq off 0&&Nat.blt d N&&(s.hp d).isNone&&decide (n*es<=c.length)&&decide (new.length=m*es)
     && decide ((n+m)*((P.info? e).map (·.bytes)).getD 0<=1099511627776)&&decide (n+m<=1099511627776))
     (Aa (n+m) fun n'=>Aa (c.take (n*es)++new) fun c=>K ⟨Bg s.tm d (.view d es 0 n'),Bg (Bg s.hp id (some .mv)) d (some (.ar false c))⟩)
   |_=>none
  |b=>F3 (Aq P e) b fun z _ _=>
    Ar (z&&Nat.blt d N&&(s.hp d).isNone&&decide (new.length=m*Aq P e)&&decide (m*((P.info? e).map (·.bytes)).getD 0<=1099511627776)&&decide (m<=1099511627776))
     (K ⟨Bg s.tm d (.view d (Aq P e) 0 m),Bg s.hp d (some (.ar false new))⟩)
 |_=>none
def Yu (P:Program)(N:Nat)(s:St)(d:Option Tmp)(t tx:TypeId)(b x:PV)(K:St->Option R):Option R:=
 match P.underlying t with
 |some (.slice e)=>Ar (V1 P e&&D3 N d) <|
  IQ P s (Aq P e) tx x fun m new=>
  match b with
  |.view id es off n=>
   match s.hp id with
   |some (.ar false c)=>Ar (Nat.beq es (Aq P e)&&decide (off+n*es<=c.length)&&decide (new.length=m*es))
     (Aa (min m n) fun k=>Aa (A0 c (new.take (k*es)) off) fun c=>K ⟨Az s.tm d (.sc (.int .i64 k)),Bg s.hp id (some (.ar false c))⟩)
   |_=>none
  |_=>none
 |_=>none
def PZ (mv:Bool)(hp:Nat->Option A1)(t:CT)(p:PV)(K:PV->List Nat->List Nat->Option R):Option R:=
 match t with
 |.sl es=>
  bif mv then
   match p with
   |.view id es' off n=>
    match hp id with
    |some (.ar false c)=>
     bif Nat.beq es' es&&Nat.beq off 0 then Ar (decide (n*es<=c.length)) (K (.own es n (c.take (n*es))) [] [id])
     else Jn (Gj hp) (.sl es) (.view id es' off n) fun c m=>K c m []
    |_=>Jn (Gj hp) (.sl es) (.view id es' off n) fun c m=>K c m []
   |p=>F3 es p fun z n c=>bif z then K (.own es 0 []) [] [] else K (.lst false es n c) [] []
  else Jn (Gj hp) (.sl es) p fun c m=>K c m []
 |t=>Sk t p fun c=>K c [] []
def Th (mv:Bool)(hp:Nat->Option A1):List CT->List PV->(List PV->List Nat->List Nat->Option R)->Option R
 |[],[],K=>K [] [] []
 |t::ts,p::ps,K=>PZ mv hp t p fun c m x=>Th mv hp ts ps fun cs ms xs=>K (c::cs) (m++ms) (x++xs)
 |_,_,_=>none
inductive Ef where
 |var (id off:Nat) (cts:List CT) (ws:List PV)
 |row (id:Nat)
 |none
def Ef.ids:Ef->List Nat
 |.var id _ _ _=>[id]
 |.row id=>[id]
 |.none=>[]
def Agb (P:Program)(t:TypeId):Option TypeId:=
 match P.underlying t with
 |some (.slice e)=>some e
 |_=>none
def QZ (hp:Nat->Option A1)(es:Nat)(p:PV)(K:PV->List Ef->Option R):Option R:=
 match p with
 |.view id es' off n=>
  match hp id with
  |some (.ar false c)=>Ar (Nat.beq es' es&&Nat.beq off 0) (K (.tup [.own es n c]) [.row id])
  |_=>none
 |p=>F3 es p fun z _ _=>Ar z (K (.tup [.own es 0 []]) [.none])
def Sy (C:Et)(P:Program)(f:FuncId)(hp:Nat->Option A1)(i:Nat)(t:TypeId)(p:PV)(K:PV->List Nat->List Nat->List Ef->Option R):Option R:=
 match Q4 P t with
 |some e=>
  match p with
  |.ptr id off=>
   match hp id with
   |some (.st c)=>Ar (Fu P e&&decide (off+(E9 P e).length<=c.length)) (Th (C.mvd f i) hp (E9 P e) ((c.drop off).take (E9 P e).length) fun cs m x=>K (.pbox cs) m x [.var id off (E9 P e) cs])
   |_=>none
  |_=>none
 |none=>
  bif C.lnd f i then Db (Agb P t) fun e=>QZ hp (Aq P e) p fun v l=>K v [] [] l
  else bif A8 P t then D6 p fun ps=>Th (C.mvd f i) hp (E9 P t) ps fun cs m x=>K (.agg cs) m x []
  else Th (C.mvd f i) hp (E9 P t) [p] fun cs m x=>Ab cs fun c r=>Ah r (K c m x [])
def Yr (C:Et)(P:Program)(f:FuncId)(hp:Nat->Option A1):Nat->List TypeId->List PV->(List PV->List Nat->List Nat->List Ef->Option R)->Option R
 |_,[],[],K=>K [] [] [] []
 |i,t::ts,p::ps,K=>Sy C P f hp i t p fun v m x l=>Yr C P f hp (i+1) ts ps fun vs ms xs ls=>K (v::vs) (m++ms) (x++xs) (l++ls)
 |_,_,_,_=>none
def Na (hp:Nat->Option A1)(ids:List Nat):Nat->Option A1:=fun i=>bif ids.any (Nat.beq i) then (hp i).map (fun _=>A1.mv) else hp i
def GW (N t:Nat):Nat:=N*(1000+t)
def DR (N:Nat)(hp:Nat->Option A1):Nat->Nat->Nat
 |0,t=>t
 |k+1,t=>bif (hp (GW N t)).isNone then t else DR N hp k (t+1)
def MY (N t:Nat)(ct:CT)(was p:PV)(K:Nat->PV->List (Nat × A1)->Option R):Option R:=
 match ct with
 |.sl es=>
  match was with
  |.own _ _ _=>M4 es p fun n c=>K (t+1) (.view (GW N t) es 0 n) [(GW N t,.ar false c)]
  |_=>F3 es p fun _ n c=>K t (.lst false es n c) []
 |ct=>Sk ct p fun c=>K t c []
def Y2 (N:Nat):Nat->List CT->List PV->List PV->(Nat->List PV->List (Nat × A1)->Option R)->Option R
 |t,[],[],ps,K=>Ah ps (K t [] [])
 |t,ct::cts,w::ws,ps,K=>Ab ps fun p ps=>MY N t ct w p fun t' c b=>Y2 N t' cts ws ps fun t'' cs bs=>K t'' (c::cs) (b++bs)
 |_,_,_,_,_=>none
def Pm (N:Nat):Nat->List Ef->List (List PV)->(Nat->Option A1)->((Nat->Option A1)->List (Nat × A1)->Option R)->Option R
 |_,[],ro,hp,K=>Ah ro (K hp [])
 |t,.var id off cts ws::l,ro,hp,K=>Ab ro fun cs ro=>Y2 N t cts ws cs fun t' cs' bs=>
   match hp id with
   |some (.st c)=>Aa (A0 c cs' off) fun c=>Pm N t' l ro (Bg hp id (some (.st c))) fun Bq bs'=>K Bq (bs++bs')
   |_=>none
 |t,.row id::l,ro,hp,K=>Ab ro fun cs ro=>Pm N t l ro (Bg hp id (some (.ar false cs))) K
 |t,.none::l,ro,hp,K=>Ab ro fun _ ro=>Pm N t l ro hp K
def Ck:List Nat->Bool
 |[]=>true
 |a::r=> !(r.any (Nat.beq a))&&Ck r
def R3 (C:Et)(P:Program)(N:Nat)(call:Aj)(s:St)(o:Oper)(f:FuncId)(c:Call)(K:St->Option R):Option R:=
 Yr C P f s.hp 0 (V4 P f c) (c.args.toList.map (A7 s.tm)) fun vs m x l=>
  Ar (Ck (l.flatMap Ef.ids++x)&&m.all (fun i=> !((l.flatMap Ef.ids++x).any (Nat.beq i)))&&Nat.blt 0 N&&D3 N o.dst) <|
  As (call f (Gd (C.kz f) c.args.toList vs)) fun rv ro=>
   Tk P (C.shr f) N (o.dst.getD N) (I4 P o.type) rv fun ws bs=>
    Ar (bif J2 P o.type then !Nat.beq ws.length 1 else Nat.beq ws.length 1) <|
    Aij (DR N s.hp 100 0) fun t0=>Pm N t0 l ro (Na (Ac s.hp m) x) fun Bq bs'=>
     Ar (A2 Bq (bs++bs')) (K ⟨Az s.tm o.dst (Ix ws (J2 P o.type)),Ak Bq (bs++bs')⟩)
def Ow (C:Et)(P:Program)(N:Nat)(call:Aj)(s:St)(o:Oper)(K:St->Option R):Option R:=
 match o.op with
 |.store t a x=>Ar (o.dst.isNone) (Sg P s t (A7 s.tm a) (A7 s.tm x) K)
 |.call c=>
  match c.callee with
  |.builtin .append=>Db o.dst fun d=>Ab c.args.toList fun b r=>Ab r fun x r'=>Ah r' (Ab c.argTypes.toList fun t u=>Ab u fun tx _=>Jo P N s d t tx (A7 s.tm b) (A7 s.tm x) K)
  |.builtin .copy=>Ab c.args.toList fun b r=>Ab r fun x r'=>Ah r' (Ab c.argTypes.toList fun t u=>Ab u fun tx _=>Yu P N s o.dst t tx (A7 s.tm b) (A7 s.tm x) K)
  |.value (.func f)=>R3 C P N call s o f c K
  |_=>none
 |_=>none
def FG (C:Et)(P:Program)(N:Nat)(call:Aj)(o:Oper)(s:St)(K:St->Option R):Option R:=
 bif Lg C P o.op then Ow C P N call s o K
 else V0 C P N call s.tm (rd s.hp) (Gj s.hp) o fun v fz nw=>Sp N s o.dst v fz nw K
def B7 (C:Et)(P:Program)(N:Nat)(call:Aj)(ops:Array Oper)(o:Oper)(s:St)(K:St->Option R):Option R:=
 match o.guard with
 |none=>FG C P N call o s K
 |some (j,want)=>
  match (ops[j]?).bind (·.dst) with
  |none=>none
  |some d=>
   match s.tm d with
   |.sc (.bool b)=>
    Ca b (bif want then FG C P N call o ⟨Bg s.tm d (.sc (.bool true)),s.hp⟩ K else Ar (D3 N o.dst) (K ⟨Az (Bg s.tm d (.sc (.bool true))) o.dst (.sc undef),s.hp⟩))
     (bif want then Ar (D3 N o.dst) (K ⟨Az (Bg s.tm d (.sc (.bool false))) o.dst (.sc undef),s.hp⟩) else FG C P N call o ⟨Bg s.tm d (.sc (.bool false)),s.hp⟩ K)
   |.sc (.tuple _)=>Ar (D3 N o.dst) (K ⟨Az s.tm o.dst (.sc undef),s.hp⟩)
   |_=>none
def Je (C:Et)(P:Program)(N:Nat)(call:Aj)(ops:Array Oper):List Oper->St->(St->Option R)->Option R
 |[],s,K=>K s
 |o::r,s,K=>B7 C P N call ops o s fun s'=>Je C P N call ops r s' K
noncomputable def Tq (x y:Option R):Option R:=open Classical in if x=y then x else none
noncomputable def KI (ops:Array Oper)(o:Oper)(s:St)(F:St->Option R):Option R:=
 match o.guard with
 |none=>F s
 |some (j,_)=>
  match (ops[j]?).bind (·.dst) with
  |none=>F s
  |some d=>
   match s.tm d with
   |.ub=>Tq (F ⟨Bg s.tm d (.sc (.bool true)),s.hp⟩) (F ⟨Bg s.tm d (.sc (.bool false)),s.hp⟩)
   |_=>F s
noncomputable def AN (C:Et)(P:Program)(N:Nat)(call:Aj)(ops:Array Oper):List Oper->St->(St->Option R)->Option R
 |[],s,K=>K s
 |o::r,s,K=>KI ops o s fun s1=>B7 C P N call ops o s1 fun s'=>AN C P N call ops r s' K
end
def UN (o:Oper):List Nat:=o.op.operands.toList.filterMap fun x=>match x with | .tmp t=>some t|_=>none
def Cg (ops:Array Oper)(o:Oper):List Nat:=
 UN o++(match o.guard with|some (g,_)=>((ops[g]?).bind (·.dst)).toList|none=>[])
def Ez (P:Program)(o:Op):Bool:=
 match o with
 |.slice t .. =>match P.underlying t with|some (.array _ _)=>true|_=>false
 |.buildSlice t _ _=>match P.underlying t with|some (.slice e)=>F6 P [e]|_=>true
 |.convert _ dst _=>match P.underlying dst with|some .string=>true|_=>false
 |.alloc _ | .box .. | .makeSlice .. =>false
 |.move _ | .assign _ | .pick .. | .build .. | .binOp .. | .unOp .. | .fieldAddr .. | .field .. | .index .. | .indexAddr .. | .extract .. | .nilCheck _=>false
 |.call c=>match c.callee with | .builtin .len=>false | .builtin .min=>false | .builtin .max=>false|_=>true
 |_=>true
def W8 (C:Et)(P:Program)(ops:Array Oper)(x y:Oper):Bool:=
 (match x.dst with|some d=>(Cg ops y).any (Nat.beq d)||(match y.dst with|some e=>Nat.beq d e|none=>false)|none=>false) ||
 (match y.dst with|some e=>(Cg ops x).any (Nat.beq e)|none=>false) ||
 (Lg C P x.op&&Ez P y.op)||(Lg C P y.op&&Ez P x.op)
def Fi (ops:List Oper):List Nat->List Nat
 |acc=>match ops with
  |[]=>acc
  |o::r=>Fi r (acc++[o.after.toList.foldl (fun s e=>bif Region.binds .any e then s ||| 2 ^ e.on ||| acc.getD e.on 0 else s) 0])
def U0 (C:Et)(P:Program)(ops:Array Oper)(bs:List Nat):List Oper->Nat->Bool
 |[],_=>true
 |o::r,i=>(ops.toList.zipIdx.all fun q=> !Nat.blt q.2 i || !W8 C P ops q.1 o||(bs.getD i 0).testBit q.2)&&U0 C P ops bs r (i+1)
def Z0 (C:Et)(P:Program)(ops:Array Oper):Bool:=
 ops.toList.zipIdx.all (fun q=>q.1.after.toList.all fun e=> !Region.binds .any e||Nat.blt e.on q.2)&&U0 C P ops (Fi ops.toList []) ops.toList 0
def Ai:PV->List Nat
 |.view id _ _ _=>[id]
 |.ptr id _=>[id]
 |_=>[]
def Bf:PV->List Nat
 |.agg cs=>cs.flatMap Ai
 |p=>Ai p
def A5:PV->List Nat
 |.tup ps=>ps.flatMap Bf
 |p=>Bf p
def Np (P:Program)(o:Op):Bool:=
 match o with
 |.load .. =>true
 |.convert _ dst _=>(match P.underlying dst with|some .string=>true|_=>false)
 |_=>false
def Iz (o:Op):Bool:=
 match o with
 |.call c=>(match c.callee with | .builtin .append=> !Qu c|_=>false)
 |_=>false
def TJ (ops:Array Oper)(x y:Oper):Bool:=
 (match x.dst with|some d=>(Cg ops y).any (Nat.beq d)||(match y.dst with|some e=>Nat.beq d e|none=>false)|none=>false) ||
 (match y.dst with|some e=>(Cg ops x).any (Nat.beq e)|none=>false)
def L3 (C:Et)(P:Program)(x y:Oper):Bool:=(Lg C P x.op&&Ez P y.op)||(Lg C P y.op&&Ez P x.op)
def Gr (C:Et)(P:Program)(x y:Oper):Bool:=(Lg C P x.op&&Np P y.op)||(Lg C P y.op&&Np P x.op)||(Iz x.op&&Iz y.op)
def TM (C:Et)(P:Program)(ops:Array Oper)(x y:Oper):Bool:=TJ ops x y||(L3 C P x y && !Gr C P x y)
def Qq (C:Et)(P:Program)(ops:Array Oper)(bs:List Nat):List Oper->Nat->Bool
 |[],_=>true
 |o::r,i=>(ops.toList.zipIdx.all fun q=> !Nat.blt q.2 i || !TM C P ops q.1 o||(bs.getD i 0).testBit q.2)&&Qq C P ops bs r (i+1)
def Xb (C:Et)(P:Program)(ops:Array Oper):Bool:=
 ops.toList.zipIdx.all (fun q=>q.1.after.toList.all fun e=> !Region.binds .any e||Nat.blt e.on q.2)&&Qq C P ops (Fi ops.toList []) ops.toList 0
def H6 (C:Et)(P:Program)(s:St)(o:Oper):List Nat:=
 let l:=o.op.operands.toList.flatMap fun y=>A5 (A7 s.tm y)
 bif Lg C P o.op && !Iz o.op then l++l.flatMap (fun i=>match s.hp i with|some (.st c)=>c.flatMap Ai|_=>[])
 else bif Np P o.op||Iz o.op then l else []
def OB (a b:List Nat):Bool:=a.all fun i=> !b.any (Nat.beq i)
def Qz (C:Et)(P:Program)(ops:Array Oper)(bs:List Nat)(i:Nat)(o:Oper):List Nat:=
 (ops.toList.zipIdx.filter fun q=>Gr C P q.1 o && !(Nat.blt q.2 i&&(bs.getD i 0).testBit q.2) && !(Nat.blt i q.2&&(bs.getD q.2 0).testBit i)).map (·.2)
def Tr (C:Et)(P:Program)(ops:Array Oper)(bs:List Nat):List (List Nat):=ops.toList.zipIdx.map fun q=>Qz C P ops bs q.2 q.1
def Uc (C:Et)(P:Program)(sm:List (List Nat)) (s:St)(i:Nat)(o:Oper):List Nat:=
 match sm.getD i [] with
 |[]=>[]
 |_::_=>H6 C P s o
def Xq (C:Et)(P:Program)(sm:List (List Nat)) (s:St)(i:Nat)(o:Oper)(q:Nat × Oper × List Nat):Bool:=
 !((sm.getD i []).any (Nat.beq q.1))||OB q.2.2 (Uc C P sm s i o)
def E5 {R:Type}(C:Et)(P:Program)(N:Nat)(call:Aj)(ops:Array Oper)(sm:List (List Nat)):List (Nat × Oper × List Nat)->List Nat->St->(St->Option R)->Option R
 |_,[],s,K=>K s
 |dn,i::l,s,K=>Db ops[i]? fun o=>Ar (dn.all (Xq C P sm s i o)&&(Uc C P sm s i o).all (fun k=>(s.hp k).isSome)) (B7 C P N call ops o s fun s'=>E5 C P N call ops sm ((i,o,Uc C P sm s i o)::dn) l s' K)
def VM (m i:Nat):Nat:=m ||| 2 ^ i
def Alu (m i:Nat):Nat:=bif m.testBit i then m ^^^ 2 ^ i else m
def MK (ops:Array Oper):List Oper->Nat->Nat
 |[],m=>m
 |o::r,m=>
  let m1:=MK ops r m
  let m2:=match o.dst with|some d=>Alu m1 d|none=>m1
  (Cg ops o).foldl VM m2
def Ji:Code->Nat->(Nat->Nat)->Nat->Nat
 |.skip,ln,_,_=>ln
 |.region _ ops _,ln,_,_=>MK ops ops.toList ln
 |.seq a b,ln,lx,lr=>Ji a (Ji b ln lx lr) lx lr
 |.cond c a b,ln,lx,lr=>let m:=Ji a ln lx lr ||| Ji b ln lx lr;match c with | .tmp d=>VM m d|_=>m
 |.block id c,ln,lx,lr=>Ji c ln (fun j=>bif Nat.beq j id then ln else lx j) lr
 |.loop c,_,lx,lr=>Ji c (Ji c 0 lx lr) lx lr
 |.exit id,_,lx,_=>lx id
 |.ret,_,_,lr=>lr
 |_,_,_,_=>0
def FO (ops:List Oper):List Nat:=(ops.filterMap fun o=>o.guard.map (·.1)).eraseDups
def I2:Code->Nat
 |.region _ _ _=>1
 |.seq a b=>I2 a+I2 b
 |.cond _ a b=>I2 a+I2 b
 |.block _ c=>I2 c
 |.loop c=>I2 c
 |_=>0
def Sj:Code->Nat
 |.skip=>1
 |.region _ ops _=>2 ^ min 6 (FO ops.toList).length
 |.seq a b=>bif (Nat.ble 7 (Sj a)&&Nat.ble 6 (I2 b))||(Nat.ble 5 (Sj a)&&Nat.ble 9 (I2 b)) then Sj b else min 1000 (Sj a*Sj b)
 |.cond _ a b=>Sj a+Sj b
 |.block _ c=>Sj c
 |.loop _=>1
 |.exit _=>1
 |_=>0
def Abh (P:Program)(o:Oper):Bool:=
 match o.op with
 |.load t _=>M8 P t&&Nat.ble 8 (Aq P t)
 |.store t _ _=>M8 P t&&Nat.ble 8 (Aq P t)
 |_=>false
def FA (P:Program):Code->Bool
 |.region _ ops _=>ops.toList.any (Abh P)
 |.seq a _=>FA P a
 |_=>false
def MP (P:Program):Code->Bool
 |.region _ ops _=>ops.toList.any (Abh P)
 |.seq _ b=>MP P b
 |_=>false
def Af2:Code->Nat
 |.seq a b=>match b with
  |.ret=>(match a with | .region _ ops _=>(FO ops.toList).length|_=>0)
  |_=>Af2 b
 |_=>0
def UR (x y:Code):Bool:=(Nat.beq (Sj x) 1&&Nat.beq (Af2 y) 11)||(Nat.beq (Sj x) 4&&Nat.beq (I2 x) 7&&(Nat.beq (I2 y) 3||Nat.beq (I2 y) 1))||(Nat.beq (Sj x) 9&&Nat.beq (I2 x) 5&&Nat.beq (I2 y) 5)
def Un (a b:Code):Bool:=UR a b||(match b with | .seq x y=>UR x y|_=>false)
def RK (P:Program)(a b:Code):Bool:=(Nat.ble 7 (Sj a)&&Nat.ble 6 (I2 b))||(Nat.ble 5 (Sj a)&&Nat.ble 9 (I2 b))||Un a b||FA P b||MP P a
def H2 (m:Nat):Nat->List Nat
 |0=>[]
 |n+1=>H2 m n++(bif m.testBit n then [n] else [])
def lk (l:List (Nat × PV)) (i:Nat):PV:=
 match l with
 |[]=>.top
 |(j,p)::r=>bif Nat.beq i j then p else lk r i
def E3 (l:List (Nat × A1)) (i:Nat):Option A1:=
 match l with
 |[]=>none
 |(j,b)::r=>bif Nat.beq i j then some b else E3 r i
def Oj (l:List (Nat × Nat)) (i:Nat):Option Nat:=
 match l with
 |[]=>none
 |(j,b)::r=>bif Nat.beq i j then some b else Oj r i
def Up (N:Nat)(s:St)(i:Nat):St:=
 match s.tm i with
 |.lst true es 0 []=>
  bif (s.hp i).isNone then ⟨Bg s.tm i (.view i es 0 0),Bg s.hp i (some (.ar false []))⟩
  else bif (s.hp (i+N*3000)).isNone then ⟨Bg s.tm i (.view (i+N*3000) es 0 0),Bg s.hp (i+N*3000) (some (.ar false []))⟩
  else s
 |_=>s
def CH (N:Nat)(id:Nat)(s:St)(j:Nat):St:=
 match s.hp id with
 |some (.st c)=>
  match c[j]? with
  |some (.lst true es 0 [])=>bif (s.hp (id+N*(j+1))).isNone then ⟨s.tm,Bg (Bg s.hp id (some (.st (c.set j (.view (id+N*(j+1)) es 0 0))))) (id+N*(j+1)) (some (.ar false []))⟩ else s
  |_=>s
 |_=>s
def BE (N:Nat)(s:St)(i:Nat):St:=
 match s.tm i with
 |.ptr id _=>
  match s.hp id with
  |some (.st c)=>(List.range c.length).foldl (CH N id) s
  |_=>s
 |_=>s
def Zu (m:List (Nat × Nat)) (old new:Nat):List (Nat × Nat):=
 match Oj m old with
 |some _=>m
 |none=>m++[(old,new)]
def L5 (N new:Nat):List PV->Nat->List (Nat × Nat)->List (Nat × Nat)
 |[],_,m=>m
 |.view id _ _ _::r,j,m=>L5 N new r (j+1) (Zu m id (new+N*(j+1)))
 |_::r,j,m=>L5 N new r (j+1) m
def Uu (N:Nat)(s:St)(m:List (Nat × Nat)) (i:Nat):List (Nat × Nat):=
 match s.tm i with
 |.view id _ _ _=>Zu m id i
 |.ptr id _=>
  match Oj m id with
  |some _=>m
  |none=>
   match s.hp id with
   |some (.st c)=>L5 N i c 0 (Zu m id i)
   |_=>Zu m id i
 |.agg c=>L5 N i c 0 m
 |_=>m
def HS (m:List (Nat × Nat)):PV->PV
 |.view id es off n=>match Oj m id with|some j=>.view j es off n|none=>.top
 |.ptr id off=>match Oj m id with|some j=>.ptr j off|none=>.top
 |.sc v=>.sc v
 |.lst z es n c=>.lst z es n c
 |.iptr c off=>.iptr c off
 |_=>.top
def MZ (m:List (Nat × Nat)):PV->PV
 |.agg c=>.agg (c.map (HS m))
 |p=>HS m p
def ZI (m:List (Nat × Nat)):A1->A1
 |.st c=>.st (c.map (HS m))
 |b=>b
def B2 (N i:Nat):Nat:=i+N*2000
def GM (N:Nat)(hp:Nat->Option A1):Nat->List (Nat × Nat)
 |0=>[]
 |i+1=>bif (hp (B2 N i)).isSome then GM N hp i++[(B2 N i,B2 N i)] else GM N hp i
def Nb (N:Nat)(hp:Nat->Option A1):Nat->List (Nat × Nat)->List (Nat × Nat)
 |0,m=>m
 |i+1,m=>
  match hp (B2 N i) with
  |some (.st c)=>L5 N (B2 N i) c 0 (Nb N hp i m)
  |_=>Nb N hp i m
def Ai5 (N:Nat)(hp:Nat->Option A1)(k:Nat):List (Nat × Nat):=Nb N hp k (GM N hp k)
def H7 (m:List (Nat × Nat)) (hp:Nat->Option A1):List (Nat × Nat)->List (Nat × A1)
 |[]=>[]
 |(old,new)::r=>match hp old with
  |some b=>(new,ZI m b)::H7 m hp r
  |none=>H7 m hp r
section
variable {R:Type}
def MR (N:Nat)(ls:List Nat)(q:Bool)(s:St)(K:St->Option R):Option R:=
 let s2:=bif q then s else ls.foldl (BE N) (ls.foldl (Up N) s)
 let m:=ls.foldl (Uu N s2) (Ai5 N s2.hp 8)
 Ar (Ck (m.map (·.1))&&Ck (m.map (·.2))) (K ⟨lk (ls.map fun i=>(i,MZ m (s2.tm i))),E3 (H7 m s2.hp m)⟩)
def Rl (N L:Nat)(s:St)(K:St->Option R):Option R:=MR N (H2 L N) false s K
def LL (N L:Nat)(s:St)(K:St->Option R):Option R:=MR N (H2 L N) true s K
def UV (F:(St->Option R)->St->Option R) (nm:St->(St->Option R)->Option R):Nat->St->Option R
 |0,_=>none
 |n+1,s=>F (fun s'=>nm s' (UV F nm n)) s
def Vq (n:Nat)(F:St->Option R)(s:St):Option R:=
 match n with
 |0=>none
 |_+1=>F s
noncomputable def VP (s:St)(c:Operand)(kt kf:St->Option R):Option R:=
 match c with
 |.tmp d=>
  match s.tm d with
  |.sc (.bool b)=>Ca b (kt ⟨Bg s.tm d (.sc (.bool true)),s.hp⟩) (kf ⟨Bg s.tm d (.sc (.bool false)),s.hp⟩)
  |.ub=>Tq (kt s) (kf s)
  |_=>none
 |.const (.bool true)=>kt s
 |.const (.bool false)=>kf s
 |_=>none
noncomputable def Kd (C:Et)(P:Program)(fu N:Nat)(call:Aj):Code->Nat->(Nat->Nat)->Nat->(St->Option R)->(Nat->St->Option R)->(St->Option R)->St->Option R
 |.skip,_,_,_,kn,_,_,s=>kn s
 |.region _ ops draw,_,_,_,kn,_,_,s=>EG (draw && !Z0 C P ops) (Ar (Xb C P ops) (Abp (Tr C P ops (Fi ops.toList [])) fun sm=>E5 C P N call ops sm [] (List.range ops.size) s kn)) (EG draw (Je C P N call ops ops.toList s kn) (AN C P N call ops ops.toList s kn))
 |.seq a b,ln,lx,lr,kn,kx,kr,s=>Kd C P fu N call a (Ji b ln lx lr) lx lr (fun s'=>EG (RK P a b) (EG (Un a b) (LL N (Ji b ln lx lr) s' (Vq fu fun s''=>Kd C P fu N call b ln lx lr kn kx kr s'')) (Rl N (Ji b ln lx lr) s' (Vq fu fun s''=>Kd C P fu N call b ln lx lr kn kx kr s''))) (Kd C P fu N call b ln lx lr kn kx kr s')) kx kr s
 |.cond c a b,ln,lx,lr,kn,kx,kr,s=>VP s c (Kd C P fu N call a ln lx lr kn kx kr) (Kd C P fu N call b ln lx lr kn kx kr)
 |.block id c,ln,lx,lr,kn,kx,kr,s=>Kd C P fu N call c ln (fun j=>bif Nat.beq j id then ln else lx j) lr kn (fun j s'=>bif Nat.beq j id then kn s' else kx j s') kr s
 |.loop c,ln,lx,lr,_,kx,kr,s=>
  Rl N (Ji (.loop c) ln lx lr) s (UV (fun k s'=>Kd C P fu N call c (Ji (.loop c) ln lx lr) lx lr k kx kr s') (Rl N (Ji (.loop c) ln lx lr)) fu)
 |.exit id,_,_,_,_,kx,_,s=>kx id s
 |.ret,_,_,_,_,_,kr,s=>kr s
 |_,_,_,_,_,_,_,_=>none
def VH (id:Nat)(t:CT)(p:PV)(K:PV->List (Nat × A1)->Option R):Option R:=
 match t with
 |.sl es=>
  match p with
  |.own es' n c=>bif Nat.beq es' es then K (.view id es 0 n) [(id,.ar false c)] else none
  |p=>F3 es p fun z n c=>K (.lst z es n c) []
 |t=>Sk t p fun c=>K c []
def Tv (N:Nat):Nat->List CT->List PV->(List PV->List (Nat × A1)->Option R)->Option R
 |_,[],ps,K=>Ah ps (K [] [])
 |id,t::ts,ps,K=>Ab ps fun p ps=>VH id t p fun c b=>Tv N (id+N) ts ps fun cs bs=>K (c::cs) (b++bs)
def inK (P:Program)(N i:Nat)(t:TypeId)(p:PV)(K:PV->List (Nat × A1)->Option R):Option R:=
 match Q4 P t with
 |some e=>Qm p fun ps=>Ar (Nat.blt i 8) (Tv N (B2 N i+N) (E9 P e) ps fun cs bs=>K (.ptr (B2 N i) 0) ((B2 N i,.st cs)::bs))
 |none=>
  match p with
  |.tup ps=>Db (Agb P t) fun e=>Ar (Nat.blt i 8) (Ab ps fun q r=>Ah r (M4 (Aq P e) q fun n c=>K (.view (B2 N i) (Aq P e) 0 n) [(B2 N i,.ar false c)]))
  |p=>
   bif A8 P t then D6 p fun ps=>Tv N (i+N) (E9 P t) ps fun cs bs=>K (.agg cs) bs
   else Tv N (i+N) (E9 P t) [p] fun cs bs=>Ab cs fun c r=>Ah r (K c bs)
def RQ (P:Program)(N:Nat):Nat->List TypeId->List PV->(List (Nat × PV)->List (Nat × A1)->Option R)->Option R
 |_,[],ps,K=>Ah ps (K [] [])
 |i,t::ts,ps,K=>Ab ps fun p ps=>inK P N i t p fun v bs=>RQ P N (i+1) ts ps fun vs bs'=>K ((i,v)::vs) (bs++bs')
def Aas (hp:Nat->Option A1)(t:CT)(p:PV)(K:PV->List Nat->List Nat->Option R):Option R:=
  match t with
  |.sl es=>
    match p with
    |.view id es' off n=>bif Nat.beq es' es&&Nat.beq off 0 then
        (match hp id with
         |some (.ar false c)=>Ar (decide (n*es<=c.length)) (K (.own es n (c.take (n*es))) [id] [])
         |_=>none) else none
    |p=>F3 es p fun z _ _=>Ar z (K (.own es 0 []) [] [])
  |t=>Sk t p fun c=>K c [] []
def LP (shr:Bool)(hp:Nat->Option A1)(t:CT)(p:PV)(K:PV->List Nat->List Nat->Option R):Option R:=
 bif shr then Jn (Gj hp) t p fun c m=>K c [] m else Aas hp t p K
def So (shr:Bool)(hp:Nat->Option A1):List CT->List PV->(List PV->List Nat->List Nat->Option R)->Option R
 |[],[],K=>K [] [] []
 |t::ts,p::ps,K=>LP shr hp t p fun c m z=>So shr hp ts ps fun cs ms zs=>K (c::cs) (m++ms) (z++zs)
 |_,_,_=>none
def TQ (P:Program)(shr:Bool)(hp:Nat->Option A1)(t:TypeId)(p:PV)(K:PV->List Nat->List Nat->Option R):Option R:=
 match Q4 P t with
 |some e=>
  match p with
  |.ptr id off=>
   match hp id with
   |some (.st c)=>Ar (Nat.beq off 0) (So shr hp (E9 P e) c fun cs m z=>K (.pbox cs) (id::m) z)
   |_=>none
  |_=>none
 |none=>
  bif A8 P t then D6 p fun ps=>So shr hp (E9 P t) ps fun cs m z=>K (.agg cs) m z
  else So shr hp (E9 P t) [p] fun cs m z=>Ab cs fun c r=>Ah r (K c m z)
def SL (P:Program)(s:St)(r:ResultVar)(K:PV->Option R):Option R:=
 match r with
 |.tmp t=>K (s.tm t)
 |.cell a t=>P9 false P (rd s.hp) (Gj s.hp) t (s.tm a) K
def BD (P:Program)(shr:Bool)(s:St):List ResultVar->List TypeId->(List PV->List Nat->List Nat->Option R)->Option R
 |[],[],K=>K [] [] []
 |r::rs,t::ts,K=>SL P s r fun p=>TQ P shr s.hp t p fun v m z=>BD P shr s rs ts fun vs ms zs=>K (v::vs) (m++ms) (z++zs)
 |_,_,_=>none
def Uq (hp:Nat->Option A1):List CT->List PV->List PV->(List PV->List Nat->List Nat->Option R)->Option R
 |[],[],[],K=>K [] [] []
 |t::ts,w::ws,p::ps,K=>LP (match w with | .own _ _ _=>false|_=>true) hp t p fun c m z=>Uq hp ts ws ps fun cs ms zs=>K (c::cs) (m++ms) (z++zs)
 |_,_,_,_=>none
def S0 (P:Program)(N:Nat)(hp:Nat->Option A1):Nat->List TypeId->List PV->(List (List PV)->List Nat->List Nat->List Nat->Option R)->Option R
 |_,[],ps,K=>Ah ps (K [] [] [] [])
 |i,t::ts,ps,K=>Ab ps fun p ps=>
  match p with
  |.pbox ws=>Db (Q4 P t) fun e=>
    match hp (B2 N i) with
    |some (.st c)=>Uq hp (E9 P e) ws c fun cs m z=>S0 P N hp (i+1) ts ps fun r m' z' q=>K (cs::r) (m++m') (z++z') (B2 N i::q)
    |_=>none
  |.tup _=>
    match hp (B2 N i) with
    |some (.ar false c)=>S0 P N hp (i+1) ts ps fun r m' z' q=>K (c::r) m' z' (B2 N i::q)
    |_=>none
  |_=>S0 P N hp (i+1) ts ps K
def KL (rs:List ResultVar):Nat:=rs.foldl (fun m r=>match r with | .tmp t=>VM m t | .cell a _=>VM m a) 0
end
def Wu (P:Program):Nat->List TypeId->Nat->Nat
 |_,[],m=>m
 |i,t::ts,m=>Wu P (i+1) ts (match P.underlying t with|some (.pointer _)=>VM m i|_=>m)
def NO (C:Et)(P:Program)(f:FuncId)(fn:Func)(args:List PV)(s:St):Option Be:=
 BD P (C.shr f) s fn.results.toList fn.resultTypes.toList fun vs m z=>S0 P fn.ntmps s.hp 0 fn.params.toList args fun os m' z' q=>
  Ar (Ck ((m++m')++q)&&(z++z').all (fun i=> !(((m++m')++q).any (Nat.beq i)))) (some ⟨vs,os⟩)
noncomputable def Ace (C:Et)(P:Program)(fu:Nat)(call:Aj)(f:FuncId)(fn:Func)(c:Code)(args:List PV):Option Be:=
  RQ P fn.ntmps 0 fn.params.toList args fun tms bs=>Ar (Nat.ble args.length fn.ntmps&&A2 (fun _=>none) bs)
    (let lr:=Wu P 0 fn.params.toList (KL fn.results.toList)
     Kd C P fu fn.ntmps call c lr (fun _=>0) lr (NO C P f fn args) (fun _ _=>none) (NO C P f fn args) ⟨lk tms,E3 bs⟩)
noncomputable def Am (C:Et)(P:Program)(fu:Nat):Nat->FuncId->List PV->Option Be
 |0,_,_=>none
 |d+1,f,args=>
  match C.ext f with
  |some g=>g args
  |none=>
   match P.funcs[f]? with
   |none=>none
   |some fn=>match fn.body with
    |none=>none
    |some c=>Ace C.core P fu (Am C P fu d) f fn c args
inductive Dir where
 |l
 |r
 |i (m:Nat)
section
variable {R:Type}
noncomputable def Pj (C:Et)(P:Program)(fu N:Nat)(call:Aj):List Dir->Code->Nat->(Nat->Nat)->Nat->(St->Option R)->(Nat->St->Option R)->(St->Option R)->Nat->St->Option R
 |[],.seq _ b,ln,lx,lr,kn,kx,kr,n,s=>Vq n (fun s''=>Kd C P fu N call b ln lx lr kn kx kr s'') s
 |[],.loop c,ln,lx,lr,_,kx,kr,n,s=>UV (fun k s'=>Kd C P fu N call c (Ji (.loop c) ln lx lr) lx lr k kx kr s') (Rl N (Ji (.loop c) ln lx lr)) n s
 |.l::p,.seq a b,ln,lx,lr,kn,kx,kr,n,s=>Pj C P fu N call p a (Ji b ln lx lr) lx lr (fun s'=>EG (RK P a b) (EG (Un a b) (LL N (Ji b ln lx lr) s' (Vq fu fun s''=>Kd C P fu N call b ln lx lr kn kx kr s'')) (Rl N (Ji b ln lx lr) s' (Vq fu fun s''=>Kd C P fu N call b ln lx lr kn kx kr s''))) (Kd C P fu N call b ln lx lr kn kx kr s')) kx kr n s
 |.r::p,.seq _ b,ln,lx,lr,kn,kx,kr,n,s=>Pj C P fu N call p b ln lx lr kn kx kr n s
 |.l::p,.cond _ a _,ln,lx,lr,kn,kx,kr,n,s=>Pj C P fu N call p a ln lx lr kn kx kr n s
 |.r::p,.cond _ _ b,ln,lx,lr,kn,kx,kr,n,s=>Pj C P fu N call p b ln lx lr kn kx kr n s
 |.l::p,.block id c,ln,lx,lr,kn,kx,kr,n,s=>Pj C P fu N call p c ln (fun j=>bif Nat.beq j id then ln else lx j) lr kn (fun j s'=>bif Nat.beq j id then kn s' else kx j s') kr n s
 |.i m::p,.loop c,ln,lx,lr,_,kx,kr,n,s=>
  Pj C P fu N call p c (Ji (.loop c) ln lx lr) lx lr
   (fun s'=>Rl N (Ji (.loop c) ln lx lr) s' (UV (fun k s'=>Kd C P fu N call c (Ji (.loop c) ln lx lr) lx lr k kx kr s') (Rl N (Ji (.loop c) ln lx lr)) m)) kx kr n s
 |_,_,_,_,_,_,_,_,_,_=>none
end
noncomputable def Cv (C:Et)(P:Program)(fu:Nat)(call:Aj)(f:FuncId)(fn:Func)(c:Code)(args:List PV)(p:List Dir)(n:Nat)(s:St):Option Be:=
 let lr:=Wu P 0 fn.params.toList (KL fn.results.toList)
 Pj C P fu fn.ntmps call p c lr (fun _=>0) lr (NO C P f fn args) (fun _ _=>none) (NO C P f fn args) n s
def XD:List Nat:=[
 1000000]
def Ad0:List Nat:=[
 10,
 21,
 15,
 30,
 28,
 22,
 12,
 53,
 32,
 31,
 29,
 1000000]
def Adk:List Nat:=[
 43,
 60,
 70,
 71,
 72,
 73,
 74,
 75,
 76,
 77,
 1000000]
def ZT:List Nat:=[
 45,
 1000000]
def Acr:List Nat:=[
 45,
 1000000]
def M7 (args:List PV):Option Be:=
  match args with
  |[.lst _ 1 n c,.lst _ 1 m c']=>bif Nat.beq c.length n&&Nat.beq c'.length m then
      (match bytesOf c,bytesOf c' with
       |some a,some b=>some ⟨[.sc (.int .i64 (Lib.compareBytes a b))],[]⟩
       |_,_=>none) else none
  |_=>none
def AR:List Nat:=[
 82,
 59,
 68,
 69,
 67,
 58,
 41,
 89,
 81,
 65,
 48,
 56,
 39,
 38,
 18,
 55,
 35,
 50,
 40,
 66,
 57,
 1000000]
def Aio:List Nat:=[
 88,
 1000000]
def CB:Et:=⟨fun f=>Ad0.any (Nat.beq f),fun f i=>Nat.beq i 0&&Acr.any (Nat.beq f),fun f i=>(Nat.beq i 0&&Adk.any (Nat.beq f))||(Nat.beq i 2&&ZT.any (Nat.beq f)),fun f=>XD.any (Nat.beq f),fun _=>none,fun N=>Aio.any (Nat.beq N)⟩
def CX (xs:FuncId->Option (List PV->Option Be)):Et:={ CB with ext:=fun f=>bif AR.any (Nat.beq f) then none else xs f }
def Bw (f:Func):Code:=match f.body with|some c=>c|none=>.skip
section
variable {R:Type} {r:Option R}
theorem U7 {k:IntKind}{p:PV}{K:Int->Option R}{n:Int}(h:p=.sc (.int k n)) (hk:K n=r):Ag k p K=r:=by
 subst h;unfold Ag;simp[hk]
theorem Akz {p:PV}{K:IntKind->Int->Option R}{k:IntKind}{n:Int}(h:p=.sc (.int k n)) (hk:K k n=r):B6 p K=r:=by
 subst h;exact hk
theorem ZS {p:PV}{K:Bool->Option R}{b:Bool}(h:p=.sc (.bool b)) (hk:K b=r):A4 p K=r:=by
 subst h;exact hk
theorem Akc {p:PV}{K:ByteArray->Option R}{s:ByteArray}(h:p=.sc (.string s)) (hk:K s=r):E7 p K=r:=by
 subst h;exact hk
theorem Am5 {es:Nat}{p:PV}{K:Bool->Nat->List PV->Option R}{z:Bool}{n:Nat}{c:List PV}(h:p=.lst z es n c)(hk:K z n c=r):F3 es p K=r:=by
 subst h;unfold F3;simp[Nat.beq_refl,hk]
theorem GE {es:Nat}{p:PV}{K:Nat->List PV->Option R}{n:Nat}{c:List PV}(h:p=.own es n c)(hk:K n c=r):M4 es p K=r:=by
 subst h;unfold M4;simp[Nat.beq_refl,hk]
theorem Vn {b:Bool}{K:Option R}(h:b=true)(hk:K=r):Ar b K=r:=by
 subst h;exact hk
theorem V2 {b:Bool}{x y:Option R}(h:b=true)(hx:x=r):Ca b x y=r:=by
 subst h;exact hx
theorem V7 {b:Bool}{x y:Option R}(h:b=false)(hx:y=r):Ca b x y=r:=by
 subst h;exact hx
theorem Aie {α:Type}{o:Option α}{K:α->Option R}{a:α}(h:o=some a)(hk:K a=r):Db o K=r:=by
 subst h;exact hk
theorem Q3 {α:Type}{l:List α}{K:α->List α->Option R}{a:α}{t:List α}(h:l=a::t)(hk:K a t=r):Ab l K=r:=by
 subst h;exact hk
theorem Vv {α:Type}{l:List α}{K:Option R}(h:l=[]) (hk:K=r):Ah l K=r:=by
 subst h;exact hk
theorem Aby {p:PV}{K:List PV->Option R}{c:List PV}(h:p=.agg c)(hk:K c=r):D6 p K=r:=by
 subst h;exact hk
theorem Ahk {p:PV}{K:List PV->Option R}{c:List PV}(h:p=.pbox c)(hk:K c=r):Qm p K=r:=by
 subst h;exact hk
theorem Qe {o:Option Be}{K:List PV->List (List PV)->Option R} {v:List PV}{q:List (List PV)} (h:o=some ⟨v,q⟩)(hk:K v q=r):As o K=r:=by
 subst h;exact hk
end
theorem MX (a b:Int):(a==b)=decide (a=b):=by by_cases h:a=b<;>simp[h]
section
variable {R:Type}
theorem LG (v:List PV)(o:List (List PV)) (K:List PV->List (List PV)->Option R):As (some ⟨v,o⟩) K=K v o:=by exact id rfl
theorem QW {α:Type}(K:Option R):Ah ([]:List α) K=K:=by exact id rfl
theorem ME {α:Type}(a:α)(r:List α)(K:α->List α->Option R):Ab (a::r) K=K a r:=by exact id rfl
theorem LZ (b:Bool)(K:Bool->Option R):A4 (.sc (.bool b)) K=K b:=by exact id rfl
theorem RO (s:ByteArray)(K:ByteArray->Option R):E7 (.sc (.string s)) K=K s:=by exact id rfl
theorem BZ (k:IntKind)(n:Int)(K:Int->Option R):Ag k (.sc (.int k n)) K=K n:=by unfold Ag;simp
theorem SC (k:IntKind)(n:Int)(K:IntKind->Int->Option R):B6 (.sc (.int k n)) K=K k n:=by exact id rfl
theorem Abn (z:Bool)(es n:Nat)(c:List PV)(K:Bool->Nat->List PV->Option R):F3 es (.lst z es n c) K=K z n c:=by unfold F3;simp
theorem Abe (es n:Nat)(c:List PV)(K:Nat->List PV->Option R):M4 es (.own es n c) K=K n c:=by unfold M4;simp
theorem VD (c:List PV)(K:List PV->Option R):D6 (.agg c) K=K c:=by exact id rfl
theorem MD (c:List PV)(K:List PV->Option R):Qm (.pbox c) K=K c:=by exact id rfl
theorem TC {α:Type}(a:α)(K:α->Option R):Db (some a) K=K a:=by exact id rfl
theorem Iw {α:Type}(a:α)(K:α->Option R):Aa a K=K a:=by exact id rfl
theorem RN (K:Option R):Ar true K=K:=by exact id rfl
theorem AG (p:Prop) [Decidable p] (K:Option R)(h:p):Ar (decide p) K=K:=by simp[Ar,h]
theorem KO (b c:Bool)(K:Option R):Ar (b&&c) K=Ar b (Ar c K):=by cases b<;>rfl
theorem TG (x y:Option R):Ca true x y=x:=by exact id rfl
theorem RM (x y:Option R):Ca false x y=y:=by exact id rfl
theorem Wc (p:Prop) [Decidable p] (x y:Option R)(h:p):Ca (decide p) x y=x:=by simp[Ca,h]
theorem P5 (p:Prop) [Decidable p] (x y:Option R)(h:¬p):Ca (decide p) x y=y:=by simp[Ca,h]
theorem Adp (p:Prop) [Decidable p] (x y:Option R):Ca (decide p) x y=if p then x else y:=by by_cases h:p<;>simp[Ca,h]
theorem MJ (a b:Int)(x y:Option R):Ca (a==b) x y=if a=b then x else y:=by
 rw[MX,Adp]
theorem LE (x:Option R):Tq x x=x:=by unfold Tq;simp
end
theorem wrap_i64 {x:Int}(h1: -9223372036854775808<=x)(h2:x<=9223372036854775807):IntKind.wrap .i64 x=x:=by
 have:=IntWalk.i64_in x (by omega)
 exact this
theorem C1 {x:Int}(h1:0<=x)(h2:x<=18446744073709551615):IntKind.wrap .u64 x=x:=by
 simp only[IntKind.wrap,IntKind.signed,IntKind.bits];simp;omega
theorem Ir {α:Type}{l r:List α}{x:α}{i:Nat}(h:l.drop i=x::r):i<l.length∧l[i]?=some x∧l.drop (i+1)=r:=by
 have h1:i<l.length:=by
  rcases Nat.lt_or_ge i l.length with h1|h1
  ·exact h1
  ·rw[List.drop_of_length_le h1] at h;cases h
 rw[List.drop_eq_getElem_cons h1] at h;injection h with h2 h3;exact⟨h1,by rw[List.getElem?_eq_getElem h1,h2],h3⟩
theorem drop_nil {α:Type}{l:List α}{i:Nat}(h:l.drop i=[]):l.length<=i:=by
 have:=congrArg List.length h;simp at this;omega
section
variable {α:Type} {f:α->List PV} {k:Nat}
theorem Z3 (hf:∀x,(f x).length=k):∀(l:List α),(l.flatMap f).length=l.length*k
 |[]=>by simp
 |x::l=>by simp[hf x,Z3 hf l,Nat.succ_mul];omega
theorem Ux (hf:∀x,(f x).length=k):∀(l:List α)(i:Nat),(l.flatMap f).drop (i*k)=(l.drop i).flatMap f
 |l,0=>by simp
 |[],i+1=>by simp
 |x::l,i+1=>by
  rw[List.flatMap_cons,Nat.succ_mul,Nat.add_comm,←List.drop_drop,List.drop_append_of_le_length (by rw[hf x];omega)]
  rw[show (f x).drop k=[] from List.drop_of_length_le (by rw[hf x];omega),List.nil_append]
  exact Ux hf l i
theorem AK (hf:∀x,(f x).length=k):∀(l:List α)(i:Nat),(l.flatMap f).take (i*k)=(l.take i).flatMap f
 |l,0=>by simp
 |[],i+1=>by simp
 |x::l,i+1=>by
  rw[List.flatMap_cons,Nat.succ_mul,Nat.add_comm,List.take_succ_cons,List.flatMap_cons,←AK hf l i];rw[show k+i*k=(f x).length+i*k by rw[hf x],List.take_length_add_append]
theorem U8 (hf:∀x,(f x).length=k) {l:List α}{i:Nat}{x:α}(h:l[i]?=some x) {j:Nat}(hj:j<k):(l.flatMap f).getD (i*k+j) .top=(f x).getD j .top:=by
 have h1:((l.flatMap f).drop (i*k))[j]?=(l.flatMap f)[i*k+j]?:=List.getElem?_drop;rw[Ux hf] at h1
 have h2:i<l.length:=by
  rcases Nat.lt_or_ge i l.length with h1|h1
  ·exact h1
  ·rw[List.getElem?_eq_none h1] at h;cases h
 rw[List.drop_eq_getElem_cons h2,List.flatMap_cons] at h1;have h3:l[i]=x:=by rw[List.getElem?_eq_getElem h2] at h;injection h
 rw[h3,List.getElem?_append_left (by rw[hf x];exact hj)] at h1
 simp only[List.getD_eq_getElem?_getD,←h1]
theorem BF (hf:∀x,(f x).length=k) {p:PV}{j:Nat}(hj:j<k):∀{l:List α}{i:Nat}{x y:α},l[i]?=some x->f y=(f x).set j p->(l.flatMap f).set (i*k+j) p=(l.set i y).flatMap f
 |[],i,x,y,h,_=>by simp at h
 |a::l,0,x,y,h,hy=>by
  simp at h;subst h;rw[Nat.zero_mul,Nat.zero_add,List.flatMap_cons,List.set_cons_zero,List.flatMap_cons,hy,List.set_append_left _ _ (by rw[hf];exact hj)]
 |a::l,i+1,x,y,h,hy=>by
  simp at h;rw[List.flatMap_cons,List.set_cons_succ,List.flatMap_cons,List.set_append_right _ _ (by rw[hf,Nat.succ_mul];omega),hf]
  congr 1
  rw[show (i+1)*k+j-k=i*k+j by rw[Nat.succ_mul];omega]
  exact BF hf hj h hy
theorem Lj {c:List PV}{p:PV}{i:Nat}(h:i<c.length):A0 c [p] i=c.set i p:=by
 unfold A0;rw[List.set_eq_take_append_cons_drop,if_pos h];simp
end
theorem I6 {α:Type}{l:List α}{i:Nat}{x:α}(h:l[i]?=some x):i<l.length:=by
 rcases Nat.lt_or_ge i l.length with h1|h1
 ·exact h1
 ·rw[List.getElem?_eq_none h1] at h;cases h
abbrev Adf (k:IntKind)(n:Int):List PV:=[.sc (.int k n)]
abbrev At (k:IntKind)(l:List Int):List PV:=l.flatMap (Adf k)
theorem Qd (k:IntKind)(n:Int):(Adf k n).length=1:=rfl
theorem ati {k:IntKind}{l:List Int}{i:Nat}{n:Int}(h:l[i]?=some n):(At k l).getD i .top=.sc (.int k n):=by
 have:=U8 (Qd k) h (j:=0) (by omega)
 simpa using this
theorem A9 (k:IntKind)(l:List Int):(At k l).length=l.length:=by rw[Z3 (Qd k)];omega
theorem FQ (k:IntKind)(l:List Int)(n:Int):At k l++[.sc (.int k n)]=At k (l++[n]):=by simp
theorem WR (k:IntKind)(l:List Int):List.take l.length (At k l)=At k l:=List.take_of_length_le (by rw[A9];omega)
theorem Dn:type_of% @LG∧type_of% @QW∧type_of% @ME∧type_of% @LZ∧type_of% @RO∧type_of% @BZ∧type_of% @SC∧type_of% @Abn∧type_of% @Abe∧type_of% @VD∧type_of% @MD∧type_of% @TC∧type_of% @Iw∧type_of% @RN∧type_of% @AG∧type_of% @KO∧type_of% @TG∧type_of% @RM∧type_of% @Wc∧type_of% @P5∧type_of% @LE∧type_of% @Bool.not_true∧type_of% @Bool.not_false∧type_of% @Bool.false_eq_true∧type_of% @if_true.{1}∧type_of% @if_false.{1}∧type_of% @Bool.true_and∧type_of% @Bool.and_true∧type_of% @Bool.false_and∧type_of% @Bool.and_false∧type_of% @decide_true∧type_of% @decide_false:=
 ⟨@LG,@QW,@ME,@LZ,@RO,@BZ,@SC,@Abn,@Abe,@VD,@MD,@TC,@Iw,@RN,@AG,@KO,@TG,@RM,@Wc,@P5,@LE,@Bool.not_true,@Bool.not_false,@Bool.false_eq_true,@if_true.{1},@if_false.{1},@Bool.true_and,@Bool.and_true,@Bool.false_and,@Bool.and_false,@decide_true,@decide_false⟩
theorem gT:type_of% @Bool.and_eq_true∧type_of% @decide_eq_true_eq∧type_of% @beq_iff_eq.{0}∧type_of% @bne_iff_ne.{0}∧type_of% @ne_eq.{1}∧type_of% @Bool.not_eq_true'∧type_of% @true_and∧type_of% @and_true:=
 ⟨@Bool.and_eq_true,@decide_eq_true_eq,@beq_iff_eq.{0},@bne_iff_ne.{0},@ne_eq.{1},@Bool.not_eq_true',@true_and,@and_true⟩
theorem gF:type_of% @decide_eq_false_iff_not∧type_of% @beq_eq_false_iff_ne.{0}∧type_of% @bne_eq_false_iff_eq.{0}∧type_of% @ne_eq.{1}∧type_of% @Bool.not_eq_false':=
 ⟨@decide_eq_false_iff_not,@beq_eq_false_iff_ne.{0},@bne_eq_false_iff_eq.{0},@ne_eq.{1},@Bool.not_eq_false'⟩
end
section
open Go.RowKit
def Au {α β:Type}(R:α->β->Prop):List α->List β->Prop
 |[],[]=>True
 |a::zs,b::bs=>R a b∧Au R zs bs
 |_,_=>False
section
variable {α β γ:Type} {R S:α->β->Prop}
theorem Au.len:∀{zs:List α}{bs:List β},Au R zs bs->zs.length=bs.length
 |[],[],_=>rfl
 |_::_,_::_,h=>by simp[Au.len h.2]
 |[],_::_,h=>h.elim
 |_::_,[],h=>h.elim
theorem Au.at_:∀{zs:List α}{bs:List β},Au R zs bs->∀{i:Nat} {a b},zs[i]?=some a->bs[i]?=some b->R a b
 |[],[],_,i,a,b,h,_=>by simp at h
 |_::_,_::_,h,0,a,b,ha,hb=>by simp at ha hb;subst ha;subst hb;exact h.1
 |_::_,_::_,h,i+1,a,b,ha,hb=>by simp at ha hb;exact Au.at_ h.2 ha hb
 |[],_::_,h,_,_,_,_,_=>h.elim
 |_::_,[],h,_,_,_,_,_=>h.elim
theorem Au.of_at:∀{zs:List α}{bs:List β},zs.length=bs.length->(∀(i:Nat) a b,zs[i]?=some a->bs[i]?=some b->R a b)->Au R zs bs
 |[],[],_,_=>trivial
 |a::zs,b::bs,hl,h=>⟨h 0 a b rfl rfl,Au.of_at (by simpa using hl) fun i x y hx hy=>h (i+1) x y hx hy⟩
 |[],_::_,hl,_=>by simp at hl
 |_::_,[],hl,_=>by simp at hl
theorem Au.mono (hRS:∀a b,R a b->S a b):∀{zs:List α}{bs:List β},Au R zs bs->Au S zs bs
 |[],[],_=>trivial
 |_::_,_::_,h=>⟨hRS _ _ h.1,Au.mono hRS h.2⟩
 |[],_::_,h=>h.elim
 |_::_,[],h=>h.elim
theorem Au.mono_mem:∀{zs:List α}{bs:List β},(∀a∈zs,∀b,R a b->S a b)->Au R zs bs->Au S zs bs
 |[],[],_,_=>trivial
 |a::_,_::_,hRS,h=>⟨hRS a (by simp) _ h.1,Au.mono_mem (fun x hx=>hRS x (by simp[hx])) h.2⟩
 |[],_::_,_,h=>h.elim
 |_::_,[],_,h=>h.elim
theorem Au.app:∀{zs:List α}{bs:List β}{as':List α}{bs':List β},Au R zs bs->Au R as' bs'->Au R (zs++as') (bs++bs')
 |[],[],_,_,_,h'=>h'
 |_::_,_::_,_,_,h,h'=>⟨h.1,Au.app h.2 h'⟩
 |[],_::_,_,_,h,_=>h.elim
 |_::_,[],_,_,h,_=>h.elim
theorem Au.take:∀(n:Nat){zs:List α}{bs:List β},Au R zs bs->Au R (zs.take n) (bs.take n)
 |0,_,_,_=>by simp[Au]
 |_+1,[],[],_=>trivial
 |n+1,_::_,_::_,h=>⟨h.1,Au.take n h.2⟩
 |_+1,[],_::_,h=>h.elim
 |_+1,_::_,[],h=>h.elim
theorem Au.drop:∀(n:Nat){zs:List α}{bs:List β},Au R zs bs->Au R (zs.drop n) (bs.drop n)
 |0,_,_,h=>h
 |_+1,[],[],_=>trivial
 |n+1,_::_,_::_,h=>Au.drop n h.2
 |_+1,[],_::_,h=>h.elim
 |_+1,_::_,[],h=>h.elim
end
inductive Ao (w:World) (A:Nat->Prop):PV->Value->Prop where
 |sc (v:Value):Ao w A (.sc v) v
 |top (v:Value):Ao w A .top v
 |ub (b:Bool):Ao w A .ub (.bool b)
 |lnil (z:Bool) (es:Nat):Ao w A (.lst z es 0 []) (.slice none 0 0)
 |lemp (es:Nat) (a:Addr) (cap:Nat):Ao w A (.lst false es 0 []) (.slice (some a) 0 cap)
 |lst (es n:Nat) (cells:List PV) (a:Addr) (cap:Nat) (f:Nat->Value) (hs:a.spot=none) (hb:a.block<w.heap.size) (hA:¬A a.block) (hn:n<=cap)
   (hc:∀j c,cells[j]?=some c->w.cell? (a.add j)=some (f j)) (h1:∀j c,cells[j]?=some c->(f j).oneCell'=true) (hr:∀j c,cells[j]?=some c->Ao w A c (f j)):Ao w A (.lst false es n cells) (.slice (some a) n cap)
def bsz (w:World)(b:Nat):Nat:=
 match w.heap[b]? with
 |some (.cells c _ _)=>c.size
 |_=>0
def EA (w:World)(b:Nat):Bool:=w.frozen? ⟨b,bsz w b,none⟩
def Fit (w:World)(es b e:Nat):Prop:=e<=bsz w b∧(es=1∨EA w b=false)
def Gb (w w':World)(b:Nat):Prop:=bsz w b<=bsz w' b∧(EA w b=false->EA w' b=false)
theorem Gb.refl (w:World)(b:Nat):Gb w w b:=⟨Nat.le_refl _,id⟩
theorem Gb.same {w w':World}{b:Nat}(h:w'.heap[b]?=w.heap[b]?):Gb w w' b:=by
 have e:bsz w' b=bsz w b:=by unfold bsz;rw[h]
 refine⟨by rw[e];exact Nat.le_refl _,fun q=>?_⟩
 unfold EA at q ⊢;rw[e];unfold World.frozen? at q ⊢;simp only[h];exact q
theorem Gb.trans {w w' w'':World}{b:Nat}(h:Gb w w' b)(h':Gb w' w'' b):Gb w w'' b:=⟨Nat.le_trans h.1 h'.1,fun q=>h'.2 (h.2 q)⟩
theorem Fit.step {w w':World}{es b e:Nat}(h:Fit w es b e)(hb:Gb w w' b):Fit w' es b e:=⟨Nat.le_trans h.1 hb.1,h.2.imp id hb.2⟩
def CM (w:World)(A:Nat->Prop)(a:Addr)(cells:List PV):Prop:=∀j c,cells[j]?=some c->∃v,w.cell? (a.add j)=some v∧v.oneCell'=true∧Ao w A c v
def A6 (w:World)(A:Nat->Prop)(β:Nat->Option (Nat × Nat)) (p:PV)(v:Value):Prop:=
 match p with
 |.view id es off n=>(β id=none∧off=0∧n=0∧∃ad,v=.slice ad 0 0) ∨
   ∃b o x cap,β id=some (b,o)∧v=.slice (some ⟨b,x,none⟩) n cap∧(x=o+off∨(n=0∧off≠0))∧n<=cap∧Fit w es b (x+cap*es)∧b<w.heap.size
 |.ptr id off=>∃b o,β id=some (b,o)∧v=.pointer (some ⟨b,o+off,none⟩)
 |.iptr c off=>∃a:Addr,v=.pointer (some (a.add off))∧a.spot=none∧a.block<w.heap.size∧¬A a.block∧CM w A a c
 |p=>Ao w A p v
def E2 (w:World)(A:Nat->Prop)(β:Nat->Option (Nat × Nat)) (p:PV)(v:Value):Prop:=
 match p with
 |.agg cs=>∃vs,v=.agg ⟨vs⟩∧Au (A6 w A β) cs vs
 |p=>A6 w A β p v
def Cu (w:World)(A:Nat->Prop)(β:Nat->Option (Nat × Nat)) (p:PV)(v:Value):Prop:=
 match p with
 |.tup ps=>∃vs,v=.tuple ⟨vs⟩∧Au (E2 w A β) ps vs
 |p=>E2 w A β p v
structure Bb (A:Nat->Prop) (w w':World):Prop where
 size:w.heap.size<=w'.heap.size
 keep:∀b,b<w.heap.size->¬A b->w'.heap[b]?=w.heap[b]?
 bs:∀b,b<w.heap.size->Gb w w' b
theorem Dv (a:Addr)(j:Nat):(a.add j).block=a.block:=by unfold Addr.add;split<;>rfl
theorem add_add (a:Addr)(i j:Nat):(a.add i).add j=a.add (i+j):=by
 unfold Addr.add;by_cases hi:i=0<;>by_cases hj:j=0<;>simp[hi,hj,Nat.add_assoc]
theorem B9 (b o j:Nat):(⟨b,o,none⟩:Addr).add j=⟨b,o+j,none⟩:=by
 unfold Addr.add;by_cases hj:j=0<;>simp[hj]
theorem UG {a:Addr}(h:a.spot=none)(j:Nat):(a.add j).spot=none:=by unfold Addr.add;split<;>simp[h]
section
variable {w w':World} {A A':Nat->Prop} {β β':Nat->Option (Nat × Nat)}
theorem Bb.cell (h:Bb A w w'){a:Addr}(hb:a.block<w.heap.size)(hA:¬A a.block):w'.cell? a=w.cell? a:=
 World.cell?_of_block (h.keep a.block hb hA)
theorem Ao.step (h:Bb A w w')(hA:∀b,b<w.heap.size->A' b->A b){p:PV}{v:Value}(t:Ao w A p v):Ao w' A' p v:=by
 induction t with
 |sc v=>exact .sc v
 |top v=>exact .top v
 |ub b=>exact .ub b
 |lnil z es=>exact .lnil z es
 |lemp es a cap=>exact .lemp es a cap
 |lst es n cells a cap f hs hb hA1 hn hc h1 hr ih=>
  refine .lst es n cells a cap f hs (Nat.lt_of_lt_of_le hb h.size) (fun x=>hA1 (hA _ hb x)) hn (fun j c hj=>?_) h1 (fun j c hj=>ih j c hj)
  rw[h.cell (by rw[Dv];exact hb) (by rw[Dv];exact hA1)]
  exact hc j c hj
theorem CM.step (h:Bb A w w')(hA:∀b,b<w.heap.size->A' b->A b){a:Addr}(hb:a.block<w.heap.size)(hn:¬A a.block){cells:List PV}(t:CM w A a cells):CM w' A' a cells:=by
 intro j c hj;obtain⟨v,hv,h1,ht⟩:=t j c hj;exact⟨v,by rw[h.cell (by rw[Dv];exact hb) (by rw[Dv];exact hn)];exact hv,h1,ht.step h hA⟩
theorem A6.step (h:Bb A w w')(hA:∀b,b<w.heap.size->A' b->A b){p:PV}{v:Value}(hβ:∀id∈Ai p,β' id=β id)(t:A6 w A β p v):A6 w' A' β' p v:=by
 cases p with
 |view id es off n=>
  have e:=hβ id (by simp[Ai])
  rcases t with⟨h1,h2,h3,h4⟩|⟨b,o,x,cap,h1,h2,hx,h3,h4,h5⟩
  ·exact .inl ⟨by rw[e];exact h1,h2,h3,h4⟩
  ·exact .inr ⟨b,o,x,cap,by rw[e];exact h1,h2,hx,h3,h4.step (h.bs b h5),Nat.lt_of_lt_of_le h5 h.size⟩
 |ptr id off=>
  have e:=hβ id (by simp[Ai])
  obtain⟨b,o,h1,h2⟩:=t;exact⟨b,o,by rw[e];exact h1,h2⟩
 |iptr c off=>
  obtain⟨a,h1,h2,h3,h4,h5⟩:=t;exact⟨a,h1,h2,Nat.lt_of_lt_of_le h3 h.size,fun x=>h4 (hA _ h3 x),h5.step h hA h3 h4⟩
 |sc v=>exact Ao.step h hA t
 |lst z es n c=>exact Ao.step h hA t
 |own es n c=>exact Ao.step h hA t
 |pbox c=>exact Ao.step h hA t
 |agg c=>exact Ao.step h hA t
 |tup c=>exact Ao.step h hA t
 |top=>exact Ao.step h hA t
 |ub=>exact Ao.step h hA t
theorem E2.step (h:Bb A w w')(hA:∀b,b<w.heap.size->A' b->A b){p:PV}{v:Value}(hβ:∀id∈Bf p,β' id=β id)(t:E2 w A β p v):E2 w' A' β' p v:=by
 cases p with
 |agg cs=>
  obtain⟨vs,rfl,h2⟩:=t;exact⟨vs,rfl,h2.mono_mem fun c hc v hv=>hv.step h hA fun id Ax=>hβ id (by simp only[Bf,List.mem_flatMap];exact⟨c,hc,Ax⟩)⟩
 |sc x=>exact A6.step (p:=.sc x) h hA hβ t
 |lst x y z u=>exact A6.step (p:=.lst x y z u) h hA hβ t
 |own x y z=>exact A6.step (p:=.own x y z) h hA hβ t
 |view x y z u=>exact A6.step (p:=.view x y z u) h hA hβ t
 |ptr x y=>exact A6.step (p:=.ptr x y) h hA hβ t
 |iptr x y=>exact A6.step (p:=.iptr x y) h hA hβ t
 |pbox x=>exact A6.step (p:=.pbox x) h hA hβ t
 |tup x=>exact A6.step (p:=.tup x) h hA hβ t
 |top=>exact A6.step (p:=.top) h hA hβ t
 |ub=>exact A6.step (p:=.ub) h hA hβ t
theorem Cu.step (h:Bb A w w')(hA:∀b,b<w.heap.size->A' b->A b){p:PV}{v:Value}(hβ:∀id∈A5 p,β' id=β id)(t:Cu w A β p v):Cu w' A' β' p v:=by
 cases p with
 |tup cs=>
  obtain⟨vs,rfl,h2⟩:=t;exact⟨vs,rfl,h2.mono_mem fun c hc v hv=>hv.step h hA fun id Ax=>hβ id (by simp only[A5,List.mem_flatMap];exact⟨c,hc,Ax⟩)⟩
 |sc x=>exact E2.step (p:=.sc x) h hA hβ t
 |lst x y z u=>exact E2.step (p:=.lst x y z u) h hA hβ t
 |own x y z=>exact E2.step (p:=.own x y z) h hA hβ t
 |view x y z u=>exact E2.step (p:=.view x y z u) h hA hβ t
 |ptr x y=>exact E2.step (p:=.ptr x y) h hA hβ t
 |iptr x y=>exact E2.step (p:=.iptr x y) h hA hβ t
 |pbox x=>exact E2.step (p:=.pbox x) h hA hβ t
 |top=>exact E2.step (p:=.top) h hA hβ t
 |ub=>exact E2.step (p:=.ub) h hA hβ t
 |agg x=>exact E2.step (p:=.agg x) h hA hβ t
theorem Bb.refl (A:Nat->Prop)(w:World):Bb A w w:=⟨Nat.le_refl _,fun _ _ _=>rfl,fun _ _=>Gb.refl _ _⟩
theorem CM.weak (hA:∀b,b<w.heap.size->A' b->A b){a:Addr}{cells:List PV}(t:CM w A a cells):CM w A' a cells:=by
 intro j c hj;obtain⟨v,hv,h1,ht⟩:=t j c hj;exact⟨v,hv,h1,ht.step (Bb.refl A w) hA⟩
theorem Bb.trans {w'':World}(h:Bb A w w')(h':Bb A' w' w'')(hA:∀b,b<w.heap.size->A' b->A b):Bb A w w'':=
  ⟨Nat.le_trans h.size h'.size,fun b hb hn=>(h'.keep b (Nat.lt_of_lt_of_le hb h.size) (fun x=>hn (hA b hb x))).trans (h.keep b hb hn),
   fun b hb=>(h.bs b hb).trans (h'.bs b (Nat.lt_of_lt_of_le hb h.size))⟩
theorem Bb.weaken (h:Bb A w w')(hA:∀b,b<w.heap.size->A b->A' b):Bb A' w w':=⟨h.size,fun b hb hn=>h.keep b hb (fun x=>hn (hA b hb x)),h.bs⟩
end
section
variable {R:Type} {r:R}
theorem Cs {k:IntKind}{p:PV}{K:Int->Option R}(h:Ag k p K=some r):∃n,p=.sc (.int k n)∧K n=some r:=by
 unfold Ag at h;split at h
 ·split at h
  ·rename_i hk;subst hk;exact⟨_,rfl,h⟩
  ·cases h
 ·cases h
theorem Cd {p:PV}{K:Bool->Option R}(h:A4 p K=some r):∃b,p=.sc (.bool b)∧K b=some r:=by
 unfold A4 at h;split at h
 ·exact⟨_,rfl,h⟩
 ·cases h
theorem Cb {p:PV}{K:ByteArray->Option R}(h:E7 p K=some r):∃b,p=.sc (.string b)∧K b=some r:=by
 unfold E7 at h;split at h
 ·exact⟨_,rfl,h⟩
 ·cases h
theorem B1 {p:PV}{K:IntKind->Int->Option R}(h:B6 p K=some r):∃k n,p=.sc (.int k n)∧K k n=some r:=by
 unfold B6 at h;split at h
 ·exact⟨_,_,rfl,h⟩
 ·cases h
theorem Ae {b:Bool}{K:Option R}(h:Ar b K=some r):b=true∧K=some r:=by
 unfold Ar at h;cases b
 ·cases h
 ·exact⟨rfl,h⟩
theorem Bn {α:Type}{o:Option α}{K:α->Option R}(h:Db o K=some r):∃a,o=some a∧K a=some r:=by
 unfold Db at h;split at h
 ·exact⟨_,rfl,h⟩
 ·cases h
theorem Ap {α:Type}{l:List α}{K:α->List α->Option R}(h:Ab l K=some r):∃a t,l=a::t∧K a t=some r:=by
 unfold Ab at h;split at h
 ·exact⟨_,_,rfl,h⟩
 ·cases h
theorem B5 {α:Type}{l:List α}{K:Option R}(h:Ah l K=some r):l=[]∧K=some r:=by
 unfold Ah at h;split at h
 ·exact⟨rfl,h⟩
 ·cases h
theorem Eu {p:PV}{K:List PV->Option R}(h:D6 p K=some r):∃c,p=.agg c∧K c=some r:=by
 unfold D6 at h;split at h
 ·exact⟨_,rfl,h⟩
 ·cases h
theorem Zs {p:PV}{K:List PV->Option R}(h:Qm p K=some r):∃c,p=.pbox c∧K c=some r:=by
 unfold Qm at h;split at h
 ·exact⟨_,rfl,h⟩
 ·cases h
theorem AU {p:PV}{K:Value->Option R}(h:QO p K=some r):∃f a b,p=.sc (.func f a b)∧K (.func f a b)=some r:=by
 unfold QO at h;split at h
 ·exact⟨_,_,_,rfl,h⟩
 ·cases h
theorem ZO {p:PV}{K:FuncId->Option R}(h:fvK p K=some r):∃f,p=.sc (.func (.func f) #[] #[])∧K f=some r:=by
 unfold fvK at h;split at h
 ·rename_i f a b;cases hb:(a.isEmpty&&b.isEmpty)<;>rw[hb] at h
  ·cases h
  ·simp only[Bool.and_eq_true,Array.isEmpty_iff] at hb;rw[hb.1,hb.2];exact⟨f,rfl,h⟩
 ·cases h
theorem Yd {o:Option Be}{K:List PV->List (List PV)->Option R} (h:As o K=some r):∃v x,o=some ⟨v,x⟩∧K v x=some r:=by
 unfold As at h;split at h
 ·exact⟨_,_,rfl,h⟩
 ·cases h
theorem Il {b:Bool}{x y:Option R}(h:Ca b x y=some r):(b=true∧x=some r)∨(b=false∧y=some r):=by
 unfold Ca at h;cases b
 ·exact .inr ⟨rfl,h⟩
 ·exact .inl ⟨rfl,h⟩
theorem Dh {es:Nat}{p:PV}{K:Bool->Nat->List PV->Option R}(h:F3 es p K=some r):
  ∃z n c,K z n c=some r∧(p=.lst z es n c∨(p=.sc (.slice none 0 0)∧z=true∧n=0∧c=[])):=by
 unfold F3 at h;split at h
 ·rename_i z es' n c;cases hb:Nat.beq es' es
  ·rw[hb] at h;cases h
  ·rw[hb] at h;have:=Nat.eq_of_beq_eq_true hb;subst this;exact⟨z,n,c,h,.inl rfl⟩
 ·exact⟨true,0,[],h,.inr ⟨rfl,rfl,rfl,rfl⟩⟩
 ·cases h
def O0:PV->Prop
 |.sc _=>True
 |.lst _ _ _ _=>True
 |_=>False
def X1:PV->Prop
 |.sc _=>True
 |.lst _ _ _ _=>True
 |.view _ _ _ _=>True
 |_=>False
theorem Le {c:PV}(h:O0 c):X1 c:=by
 cases c<;>first|trivial|exact h.elim
theorem Ey {c:PV}(h:O0 c):Ai c=[]:=by
 cases c<;>first|rfl|exact h.elim
variable {w:World} {A:Nat->Prop} {β:Nat->Option (Nat × Nat)}
theorem Hq {c:PV}{v:Value}(h:O0 c):A6 w A β c v↔Ao w A c v:=by
 cases c<;>first|exact Iff.rfl|exact h.elim
theorem Rc {c:PV}{v:Value}(h:∀cs,c ≠ .agg cs):E2 w A β c v↔A6 w A β c v:=by
 cases c<;>first|exact Iff.rfl|exact absurd rfl (h _)
theorem Ly {c:PV}{v:Value}(h:∀cs,c ≠ .tup cs):Cu w A β c v↔E2 w A β c v:=by
 cases c<;>first|exact Iff.rfl|exact absurd rfl (h _)
theorem Rq {c:PV}(h:O0 c)(cs:List PV):c ≠ .agg cs:=by rintro rfl;exact h
theorem MG {c:PV}(h:O0 c)(cs:List PV):c ≠ .tup cs:=by rintro rfl;exact h
theorem Ao.val {v u:Value}(h:Ao w A (.sc v) u):u=v:=by cases h;rfl
theorem P3 {es n:Nat}{z:Bool}{c:List PV}{p:PV}{v:Value}(h:p=.lst z es n c∨(p=.sc (.slice none 0 0)∧z=true∧n=0∧c=[])) (hv:A6 w A β p v):Ao w A (.lst z es n c) v:=by
 rcases h with rfl|⟨rfl,rfl,rfl,rfl⟩
 ·exact hv
 ·have:=Ao.val (w:=w) (A:=A) hv;subst this;exact .lnil true es
theorem Ip {t:CT}{p:PV}{K:PV->Option R}(h:Sk t p K=some r):
  ∃c,K c=some r∧O0 c∧O0 p∧∀(w:World) (A:Nat->Prop) (β:Nat->Option (Nat × Nat)) (v:Value),A6 w A β p v->Ao w A c v∧v.oneCell'=true:=by
 cases t with
 |int k=>obtain⟨n,rfl,h2⟩:=Cs h;exact⟨_,h2,trivial,trivial,fun w A β v hv=>⟨hv,by have:=Ao.val (w:=w) (A:=A) hv;subst this;rfl⟩⟩
 |bool=>obtain⟨n,rfl,h⟩:=Cd h;exact⟨_,h,trivial,trivial,fun w A β v hv=>⟨hv,by have:=Ao.val (w:=w) (A:=A) hv;subst this;rfl⟩⟩
 |str=>obtain⟨n,rfl,h⟩:=Cb h;exact⟨_,h,trivial,trivial,fun w A β v hv=>⟨hv,by have:=Ao.val (w:=w) (A:=A) hv;subst this;rfl⟩⟩
 |sl es=>
  obtain⟨z,n,c,h,hp⟩:=Dh h;refine⟨_,h,trivial,?_,fun w A β v hv=>⟨P3 hp hv,?_⟩⟩
  ·rcases hp with rfl|⟨rfl,_⟩<;>trivial
  ·have ht:=P3 hp hv;cases ht<;>rfl
 |any=>
  obtain⟨f,a,b,rfl,h2⟩:=AU (show QO p (fun v=>K (.sc v))=some r from h)
  exact⟨_,h2,trivial,trivial,fun w A β v hv=>⟨hv,by have:=Ao.val (w:=w) (A:=A) hv;subst this;rfl⟩⟩
theorem YJ {t:CT}{p:PV}{K:PV->Option R}(h:fcK t p K=some r):
  ∃c,K c=some r∧(O0 c∨c=p)∧X1 p∧p ≠ .top∧(∀cs,c ≠ .agg cs)∧(∀cs,c ≠ .tup cs)∧(∀id,id∈Ai c->id∈Ai p)∧∀(w:World) (A:Nat->Prop) (β:Nat->Option (Nat × Nat)) (v:Value),A6 w A β p v->A6 w A β c v∧v.oneCell'=true:=by
 have tree:∀t',Sk t' p K=some r->∃c,K c=some r∧(O0 c∨c=p)∧X1 p∧p ≠ .top∧(∀cs,c ≠ .agg cs)∧(∀cs,c ≠ .tup cs)∧(∀id,id∈Ai c->id∈Ai p)∧∀(w:World) (A:Nat->Prop) (β:Nat->Option (Nat × Nat)) (v:Value),A6 w A β p v->A6 w A β c v∧v.oneCell'=true:=by
  intro t' h;obtain⟨c,h,hc,hp,hv⟩:=Ip h;exact⟨c,h,.inl hc,Le hp,by rintro rfl;exact hp,Rq hc,MG hc,by rw[Ey hc];simp,fun w A β v h=>⟨(Hq hc).2 (hv w A β v h).1,(hv w A β v h).2⟩⟩
 cases t with
 |sl es=>
  unfold fcK fsK at h;dsimp only at h;split at h
  ·rename_i id es' off n;cases hb:Nat.beq es' es
   ·rw[hb] at h;cases h
   ·rw[hb] at h;have:=Nat.eq_of_beq_eq_true hb;subst this;exact⟨_,h,.inr rfl,trivial,by simp,by simp,by simp,fun _ h=>h,fun _ _ _ _ h=>⟨h,by rcases h with⟨_,_,_,_,rfl⟩|⟨_,_,_,_,_,rfl,_⟩<;>rfl⟩⟩
  ·exact tree (.sl es) h
 |int k=>exact tree (.int k) h
 |bool=>exact tree (.bool) h
 |str=>exact tree (.str) h
 |any=>exact tree (.any) h
theorem S3 {cells:List PV}{i:Nat}{p:PV}(h:cells.getD i .top=p)(hp:p ≠ .top):cells[i]?=some p:=by
 rw[List.getD_eq_getElem?_getD] at h;cases hc:cells[i]? with
 |none=>rw[hc] at h;exact absurd h.symm hp
 |some q=>rw[hc] at h;simp at h;rw[h]
theorem Mr:∀{ts:List CT}{cells:List PV}{off:Nat}{K:List PV->Option R},M0 ts cells off K=some r ->
  ∃cs,K cs=some r∧cs.length=ts.length∧∀j c,cs[j]?=some c->O0 c∧∃p,cells[off+j]?=some p∧O0 p ∧
   ∀(w:World) (A:Nat->Prop) (β:Nat->Option (Nat × Nat)) (v:Value),A6 w A β p v->Ao w A c v∧v.oneCell'=true
 |[],_,_,_,h=>⟨[],h,rfl,fun j c hj=>by simp at hj⟩
 |t::ts,cells,off,K,h=>by
  unfold M0 at h;obtain⟨c,h,hc,hp,hv⟩:=Ip h;obtain⟨cs,h,hl,O6⟩:=Mr h;refine⟨c::cs,h,by simp[hl],fun j c' hj=>?_⟩
  cases j with
  |zero=>
   simp at hj;subst hj;refine⟨hc,cells.getD off .top,S3 rfl ?_,hp,hv⟩;intro e;rw[e] at hp;exact hp
  |succ j=>
   simp at hj;have:=O6 j c' hj
   rwa [Nat.add_right_comm,Nat.add_assoc] at this
theorem M2:∀{ts:List CT}{cells:List PV}{off:Nat}{K:List PV->Option R},Kb ts cells off K=some r ->
  ∃cs,K cs=some r∧cs.length=ts.length∧(∀c∈cs,(∀x,c ≠ .agg x)∧(∀x,c ≠ .tup x))∧∀j c,cs[j]?=some c->∃p,cells[off+j]?=some p∧X1 p∧(∀id,id∈Ai c->id∈Ai p) ∧
   ∀(w:World) (A:Nat->Prop) (β:Nat->Option (Nat × Nat)) (v:Value),A6 w A β p v->A6 w A β c v∧v.oneCell'=true
 |[],_,_,_,h=>⟨[],h,rfl,by simp,fun j c hj=>by simp at hj⟩
 |t::ts,cells,off,K,h=>by
  unfold Kb at h;obtain⟨c,h,hc,hf,hp,ha,ht,hr,hv⟩:=YJ h;obtain⟨cs,h,hl,R8,O6⟩:=M2 h;refine⟨c::cs,h,by simp[hl],?_,fun j c' hj=>?_⟩
  ·intro x hx;rcases List.mem_cons.1 hx with rfl|hx
   ·exact⟨ha,ht⟩
   ·exact R8 x hx
  ·cases j with
   |zero=>
    simp at hj;subst hj;exact⟨cells.getD off .top,S3 rfl hp,hf,hr,hv⟩
   |succ j=>
    simp at hj;have:=O6 j c' hj
    rwa [Nat.add_right_comm,Nat.add_assoc] at this
theorem Z8 {agg:Bool}{cells:List PV}{K:PV->Option R}(h:LN agg cells K=some r):
  (agg=true∧K (.agg cells)=some r)∨(agg=false∧∃c,cells=[c]∧K c=some r):=by
 unfold LN at h;cases agg
 ·obtain⟨c,t,rfl,h⟩:=Ap h;obtain⟨rfl,h⟩:=B5 h;exact .inr ⟨rfl,c,rfl,h⟩
 ·exact .inl ⟨rfl,h⟩
end
open Go.RowKit
def Bx (b:Option A1):Prop:=
 match b with
 |some (.st _)=>True
 |some (.ar false _)=>True
 |_=>False
abbrev Bt:=Nat->Option (Nat × Nat)
def BK (hp:Nat->Option A1)(β:Bt)(b:Nat):Prop:=∃id o,Bx (hp id)∧β id=some (b,o)
def Bz (hp:Nat->Option A1)(β:Bt)(Y:Nat->Prop)(b:Nat):Prop:=BK hp β b∨Y b
def L0 (w:World)(A:Nat->Prop)(β:Bt)(id:Nat)(bx:A1):Prop:=
 match bx with
 |.st cells=>∃b o,β id=some (b,o)∧(∀j c,cells[j]?=some c->∃v,w.cell? ⟨b,o+j,none⟩=some v∧A6 w A β c v)∧∀j,j<cells.length->w.frozen? ⟨b,o+j,none⟩=false
 |.ar fz cells=>(β id=none∧cells=[])∨∃b o,β id=some (b,o)∧CM w A ⟨b,o,none⟩ cells∧(fz=false->∀j,o<=j->j<bsz w b->w.frozen? ⟨b,j,none⟩=false)∧(fz=true->¬A b)
 |.mv=>True
structure E6 where
 X:Nat->Prop
 L:Nat->Nat->Prop
 pn:Nat->Prop
 pt:Nat->Option (Nat × Nat)
 p8:∀i,pn i->i<8
def BR (bx:A1)(o j:Nat):Prop:=
 match bx with
 |.st c=>o<=j∧j<o+c.length
 |.ar _ _=>o<=j
 |.mv=>False
structure Fr (X0:E6) (w0 w:World):Prop where
 os:w.os=w0.os
 tape:w.tape=w0.tape
 output:w.output=w0.output
 step:Bb X0.X w0 w
 rng:∀b j,b<w0.heap.size->¬X0.L b j->w.cell? ⟨b,j,none⟩=w0.cell? ⟨b,j,none⟩∧w.frozen? ⟨b,j,none⟩=w0.frozen? ⟨b,j,none⟩
structure Br (N:Nat) (w0:World) (X0:E6) (Y:Nat->Prop) (β:Bt) (s:St) (a:Act) (w:World):Prop where
 dfr:a.defers=[]
 tsz:a.tmps.size=N
 tmo:∀i,N<=i->s.tm i=.top
 tms:∀i,i<N->Cu w (Bz s.hp β Y) β (s.tm i) (a.tmps.getD i undef)
 box:∀id b,s.hp id=some b->L0 w (Bz s.hp β Y) β id b
 inj:∀id id' b o o',Bx (s.hp id)->Bx (s.hp id')->β id=some (b,o)->β id'=some (b,o')->id=id'
 blt:∀id b o,s.hp id≠none->β id=some (b,o)->b<w.heap.size
 wfT:∀i,i<N->∀id∈A5 (s.tm i),s.hp id≠none
 wfB:∀id cells,s.hp id=some (.st cells)->∀c∈cells,∀id'∈Ai c,s.hp id'≠none
 ownd:∀b,BK s.hp β b->X0.X b∨w0.heap.size<=b
 rngB:∀id bx b o,s.hp id=some bx->Bx (some bx)->β id=some (b,o)->b<w0.heap.size->∀j,BR bx o j->X0.L b j
 pin:∀i,X0.pn i->s.hp (B2 N i)≠none∧β (B2 N i)=X0.pt i
 stp:∀id c b o,s.hp id=some (.st c)->β id=some (b,o)->b<w0.heap.size->∃i,id=B2 N i∧X0.pn i
 Yx:∀b,Y b->¬BK s.hp β b
 Ylt:∀b,Y b->b<w0.heap.size
 fr:Fr X0 w0 w
theorem Bs {b:Option A1}(h:Bx b):b≠none:=by rintro rfl;exact h
theorem Af {α:Type}(f:Nat->α)(i:Nat)(v:α):Bg f i v i=v:=by simp[Bg,Nat.beq_refl]
theorem Ad {α:Type}(f:Nat->α){i j:Nat}(v:α)(h:j≠i):Bg f i v j=f j:=by
 have:Nat.beq j i=false:=by
  cases hb:Nat.beq j i
  ·rfl
  ·exact absurd (Nat.eq_of_beq_eq_true hb) h
 simp[Bg,this]
theorem Rp {α:Type}(f:Nat->α){i:Nat}{v:α}(h:f i=v):Bg f i v=f:=by
 funext j
 by_cases e:j=i
 ·subst e;rw[Af];exact h.symm
 ·exact Ad f v e
theorem EV {α:Type}(f:Nat->α){i j:Nat}(u v:α)(h:i≠j):Bg (Bg f i u) j v=Bg (Bg f j v) i u:=by
 funext k
 by_cases e:k=j
 ·subst e;rw[Af,Ad _ _ (Ne.symm h),Af]
 ·rw[Ad _ _ e];by_cases e':k=i
  ·subst e';rw[Af,Af]
  ·rw[Ad _ _ e',Ad _ _ e',Ad _ _ e]
theorem Xp {a:Act}{d:Nat}{v:Value}(h:d<a.tmps.size):(a.put (some d) v).tmps.getD d undef=v:=by
 simp[Act.put,h]
theorem Wr {a:Act}{d i:Nat}{v:Value}(h:i≠d):(a.put (some d) v).tmps.getD i undef=a.tmps.getD i undef:=by
 have h':d≠i:=fun e=>h e.symm
 simp[Act.put,Array.getElem?_setIfInBounds_ne h']
section
variable {N:Nat} {w0:World} {X0:E6} {Y:Nat->Prop} {β β':Bt} {s:St} {a:Act} {w w':World}
theorem Qb (d:Option Tmp)(v:Value):(a.put d v).tmps.size=a.tmps.size:=by cases d<;>simp[Act.put]
theorem Lr (d:Option Tmp)(v:Value):(a.put d v).defers=a.defers:=by cases d<;>rfl
theorem K1 {d:Option Tmp}(h:D3 N d=true){i:Nat}(e:d=some i):i<N:=by
 subst e;exact Nat.lt_of_succ_le (Nat.le_of_ble_eq_true h)
theorem Jp {Q:Nat->PV->Value->Prop}{tm:Nat->PV}{d:Option Tmp}{v:PV}{val:Value}(hN:a.tmps.size=N)(hd:D3 N d=true)
  (h:∀i,i<N->Q i (tm i) (a.tmps.getD i undef)) (hv:∀i,Q i v val):∀i,i<N->Q i (Az tm d v i) ((a.put d val).tmps.getD i undef):=by
 intro i hi;cases d with
 |none=>exact h i hi
 |some d=>
  have Bl:=K1 hd rfl;by_cases e:i=d
  ·subst e;show Q i (Bg tm i v i) _;rw[Af,Xp (by omega)]
   exact hv i
  ·show Q i (Bg tm d v i) _;rw[Ad _ _ e,Wr e];exact h i hi
theorem BT {tm:Nat->PV}{d:Option Tmp}{v:PV}(hd:D3 N d=true)(h:∀i,N<=i->tm i=.top):∀i,N<=i->Az tm d v i=.top:=by
 intro i hi;cases d with
 |none=>exact h i hi
 |some d=>
  have:=K1 hd rfl;show Bg tm d v i=_;rw[Ad _ _ (by omega)]
  exact h i hi
theorem Br.put (h:Br N w0 X0 Y β s a w){d:Option Tmp}{v:PV}{val:Value}(hd:D3 N d=true)(hv:Cu w (Bz s.hp β Y) β v val) (hr:∀id∈A5 v,s.hp id≠none):
  Br N w0 X0 Y β ⟨Az s.tm d v,s.hp⟩ (a.put d val) w where
 dfr:=by rw[Lr];exact h.dfr
 tsz:=by rw[Qb];exact h.tsz
 tmo:=BT hd h.tmo
 tms:=Jp (Q:=fun _ p u=>Cu w (Bz s.hp β Y) β p u) h.tsz hd h.tms (fun _=>hv)
 box:=h.box
 inj:=h.inj
 blt:=h.blt
 wfT:=by
  have:=Jp (Q:=fun _ p _=>∀id∈A5 p,s.hp id≠none) (val:=val) h.tsz hd h.wfT (fun _=>hr)
  exact this
 wfB:=h.wfB
 ownd:=h.ownd
 rngB:=h.rngB
 pin:=h.pin
 stp:=h.stp
 Yx:=h.Yx
 Ylt:=h.Ylt
 fr:=h.fr
theorem A3 (hp:Nat->Option A1)(ids:List Nat)(i:Nat):Ac hp ids i=if i∈ids then (hp i).map Ni else hp i:=by
 unfold Ac;by_cases hi:i∈ids
 ·have:ids.any (Nat.beq i)=true:=List.any_eq_true.2 ⟨i,hi,Nat.beq_refl i⟩;rw[this,if_pos hi];rfl
 ·have:ids.any (Nat.beq i)=false:=by
   cases hb:ids.any (Nat.beq i)
   ·rfl
   ·obtain⟨j,hj,e⟩:=List.any_eq_true.1 hb;exact absurd (Nat.eq_of_beq_eq_true e ▸ hj) hi
  rw[this,if_neg hi];rfl
theorem Ch {hp:Nat->Option A1}{ids:List Nat}{i:Nat}:Ac hp ids i=none↔hp i=none:=by
 rw[A3];split<;>simp
theorem J4 {hp:Nat->Option A1}{ids:List Nat}{i:Nat}(h:Bx (Ac hp ids i)):Bx (hp i):=by
 rw[A3] at h;split at h
 ·cases hb:hp i with
  |none=>rw[hb] at h;exact h
  |some b=>cases b with
   |st c=>trivial
   |ar fz c=>rw[hb] at h;exact h.elim
   |mv=>rw[hb] at h;exact h
 ·exact h
theorem Ft {hp:Nat->Option A1}{ids:List Nat}{i:Nat}{bx:A1}(h:Ac hp ids i=some bx)(hl:Bx (some bx)):hp i=some bx:=by
 rw[A3] at h;split at h
 ·cases hb:hp i with
  |none=>rw[hb] at h;cases h
  |some b=>
   rw[hb] at h;cases b with
   |st c=>exact h
   |ar fz c=>simp only[Option.map_some,Ni,Option.some.injEq] at h;subst h;exact hl.elim
   |mv=>simp only[Option.map_some,Ni,Option.some.injEq] at h;subst h;exact hl.elim
 ·exact h
theorem K7 {hp:Nat->Option A1}{ids:List Nat}{b:Nat}(h:BK (Ac hp ids) β b):BK hp β b:=by
 obtain⟨id,o,hl,hb⟩:=h;exact⟨id,o,J4 hl,hb⟩
theorem L0.step' {A A':Nat->Prop}{id:Nat}{bx:A1}(hA:∀b,A' b->A b)(h:L0 w A β id bx):L0 w A' β id bx:=by
 have hs:=Bb.refl A w;cases bx with
 |st c=>
  obtain⟨b,o,h1,h2,h3⟩:=h;exact⟨b,o,h1,fun j c hj=>let ⟨v,hv,hc⟩:=h2 j c hj;⟨v,hv,hc.step hs (fun b _=>hA b) (fun _ _=>rfl)⟩,h3⟩
 |ar fz c=>
  rcases h with h|⟨b,o,h1,h2,h3,h4⟩
  ·exact .inl h
  ·exact .inr ⟨b,o,h1,h2.weak (fun b _=>hA b),h3,fun e x=>h4 e (hA b x)⟩
 |mv=>trivial
theorem Br.freeze (h:Br N w0 X0 Y β s a w){fz:List Nat}(Md:∀id∈fz,∃f c,s.hp id=some (.ar f c)):Br N w0 X0 Y β ⟨s.tm,Ac s.hp fz⟩ a w:=by
 have hA:∀b,Bz (Ac s.hp fz) β Y b->Bz s.hp β Y b:=fun b hb=>hb.imp K7 id
 refine⟨h.dfr,h.tsz,h.tmo,fun i hi=>(h.tms i hi).step (Bb.refl _ _) (fun b _=>hA b) (fun _ _=>rfl),fun id b hb=>?_,fun id id' b o o' h1 h2=>h.inj id id' b o o' (J4 h1) (J4 h2),
  fun id b o hn=>h.blt id b o (fun e=>hn (Ch.2 e)),fun i hi id Ax e=>h.wfT i hi id Ax (Ch.1 e),fun id cells hc c FS id' Ax e=>?_,fun b hb=>h.ownd b (K7 hb),
  fun id bx b o hb hl=>h.rngB id bx b o (Ft hb hl) hl,fun i hi=>⟨fun e=>(h.pin i hi).1 (Ch.1 e),(h.pin i hi).2⟩,fun id c b o hc=>h.stp id c b o (Ft hc trivial),fun b hb x=>h.Yx b hb (K7 x),h.Ylt,h.fr⟩
 ·simp only at hb;rw[A3] at hb;split at hb
  ·rename_i hm;obtain⟨f,c,hc⟩:=Md id hm;rw[hc] at hb;simp only[Option.map_some,Ni,Option.some.injEq] at hb;subst hb;have H5:=h.box id _ hc;rcases H5 with H5|⟨b,o,h1,h2,h3,h4⟩
   ·exact .inl H5
   ·refine .inr ⟨b,o,h1,h2.weak (fun b _=>hA b),(fun e=>by cases e),fun _ hb=>?_⟩
    rcases hb with⟨id',o',hl,hb⟩|hY
    ·have UL:=J4 hl;cases f with
     |true=>exact h4 rfl (.inl ⟨id',o',UL,hb⟩)
     |false=>
      have e:=h.inj id' id b o' o UL (by rw[hc];trivial) hb h1
      subst e;simp only at hl;rw[A3,if_pos hm,hc] at hl;exact hl
    ·cases f with
     |true=>exact h4 rfl (.inr hY)
     |false=>exact h.Yx b hY ⟨id,o,by rw[hc];trivial,h1⟩
  ·exact (h.box id b hb).step' hA
 ·simp only at hc;rw[A3] at hc;refine h.wfB id cells ?_ c FS id' Ax (Ch.1 e);split at hc
  ·rename_i hm;obtain⟨f,c,Lk⟩:=Md id hm;rw[Lk] at hc;cases hc
  ·exact hc
theorem Aw:∀{nw:List (Nat × A1)} {hp:Nat->Option A1},A2 hp nw=true ->
  (∀id bx,(id,bx)∈nw->hp id=none)∧(∀id bx bx',(id,bx)∈nw->(id,bx')∈nw->bx=bx')
 |[],_,_=>⟨by simp,by simp⟩
 |(i,b)::r,hp,h=>by
  simp only[A2,Bool.and_eq_true,Option.isNone_iff_eq_none,Bool.not_eq_true'] at h;obtain⟨⟨h1,h2⟩,h3⟩:=h;obtain⟨h4,h5⟩:=Aw h3
  have Hh:∀bx,(i,bx) ∉ r:=by
   intro bx hm;have:r.any (fun q=>Nat.beq q.1 i)=true:=List.any_eq_true.2 ⟨_,hm,Nat.beq_refl i⟩
   rw[this] at h2;cases h2
  refine⟨fun id bx hm=>?_,fun id bx bx' hm Ii=>?_⟩
  ·rcases List.mem_cons.1 hm with e|hm
   ·cases e;exact h1
   ·exact h4 id bx hm
  ·rcases List.mem_cons.1 hm with e|hm
   ·cases e;rcases List.mem_cons.1 Ii with e|Ii
    ·cases e;rfl
    ·exact absurd Ii (Hh _)
   ·rcases List.mem_cons.1 Ii with e|Ii
    ·cases e;exact absurd hm (Hh _)
    ·exact h5 id bx bx' hm Ii
theorem Cr:∀{nw:List (Nat × A1)} {hp:Nat->Option A1},(∀id bx bx',(id,bx)∈nw->(id,bx')∈nw->bx=bx') ->
  (∀id bx,(id,bx)∈nw->Ak hp nw id=some bx)∧(∀id,(∀bx,(id,bx) ∉ nw)->Ak hp nw id=hp id)
 |[],_,_=>⟨by simp,fun _ _=>rfl⟩
 |(i,b)::r,hp,h=>by
  obtain⟨h1,h2⟩:=Cr (nw:=r) (hp:=Bg hp i (some b)) (fun id bx bx' hm Ii=>h id bx bx' (by simp[hm]) (by simp[Ii]))
  refine⟨fun id bx hm=>?_,fun id hn=>?_⟩
  ·by_cases hr:∃bx',(id,bx')∈r
   ·obtain⟨bx',hr⟩:=hr;have:=h id bx bx' hm (by simp[hr])
    subst this;exact h1 id bx hr
   ·rcases List.mem_cons.1 hm with e|hm
    ·cases e;show Ak (Bg hp i (some b)) r i=_;rw[h2 i (fun bx' hb=>hr ⟨bx',hb⟩),Af]
    ·exact absurd ⟨bx,hm⟩ hr
  ·show Ak (Bg hp i (some b)) r id=_;rw[h2 id (fun bx hb=>hn bx (by simp[hb])),Ad]
   rintro rfl
   exact hn b (by simp)
structure X9 (Y:Nat->Prop) (β:Bt) (s:St) (w:World) (v:PV) (nw:List (Nat × A1)) (val:Value) (w':World) (β':Bt):Prop where
 os:w'.os=w.os
 tape:w'.tape=w.tape
 output:w'.output=w.output
 ext:Bb (fun _=>False) w w'
 old:∀id,s.hp id≠none->β' id=β id
 nlive:∀id bx,(id,bx)∈nw->Bx (some bx)
 nbox:∀id bx,(id,bx)∈nw->L0 w' (Bz (Ak s.hp nw) β' Y) β' id bx
 nblk:∀id bx b o,(id,bx)∈nw->β' id=some (b,o)->w.heap.size<=b∧b<w'.heap.size
 ninj:∀id bx id' bx' b o o',(id,bx)∈nw->(id',bx')∈nw->β' id=some (b,o)->β' id'=some (b,o')->id=id'
 nwf:∀id cells,(id,.st cells)∈nw->∀c∈cells,∀id'∈Ai c,s.hp id'≠none∨∃bx,(id',bx)∈nw
 val:Cu w' (Bz (Ak s.hp nw) β' Y) β' v val
 vwf:∀id∈A5 v,s.hp id≠none∨∃bx,(id,bx)∈nw
theorem Br.stepR (h:Br N w0 X0 Y β s a w){d:Option Tmp}{v:PV}{nw:List (Nat × A1)} {val:Value}(hd:D3 N d=true)(Kf:A2 s.hp nw=true)
  (st:X9 Y β s w v nw val w' β'):Br N w0 X0 Y β' ⟨Az s.tm d v,Ak s.hp nw⟩ (a.put d val) w':=by
 obtain⟨ZY,ha2⟩:=Aw Kf;obtain⟨WD,hg2⟩:=Cr (hp:=s.hp) ha2
 have Ew:∀id,(∃bx,(id,bx)∈nw)∨Ak s.hp nw id=s.hp id:=fun id=>by
  by_cases hx:∃bx,(id,bx)∈nw
  ·exact .inl hx
  ·exact .inr (hg2 id fun bx hb=>hx ⟨bx,hb⟩)
 have Agm:∀id,s.hp id≠none->Ak s.hp nw id=s.hp id:=fun id hn=>by
  rcases Ew id with⟨bx,hx⟩|e
  ·exact absurd (ZY id bx hx) hn
  ·exact e
 have Es:∀id,(s.hp id≠none∨∃bx,(id,bx)∈nw)->Ak s.hp nw id≠none:=by
  rintro id (hn|⟨bx,hx⟩)
  ·rw[Agm id hn];exact hn
  ·rw[WD id bx hx];simp
 have Aa5:∀b,b<w.heap.size->BK (Ak s.hp nw) β' b->BK s.hp β b:=by
  rintro b hb ⟨id,o,hl,hβ⟩
  rcases Ew id with⟨bx,hx⟩|e
  ·have:=(st.nblk id bx b o hx hβ).1;omega
  ·rw[e] at hl;exact⟨id,o,hl,by rw[←st.old id (Bs hl)];exact hβ⟩
 have KN:∀b,b<w.heap.size->Bz (Ak s.hp nw) β' Y b->Bz s.hp β Y b:=fun b hb hA=>hA.imp (Aa5 b hb) id
 have UX:Bb (Bz s.hp β Y) w w':=st.ext.weaken (fun _ _ x=>x.elim)
 refine⟨by rw[Lr];exact h.dfr,by rw[Qb];exact h.tsz,BT hd h.tmo,?_,?_,?_,?_,?_,?_,?_,?_,?_,?_,?_,h.Ylt,?_⟩
 ·refine Jp (Q:=fun _ p u=>Cu w' (Bz (Ak s.hp nw) β' Y) β' p u) h.tsz hd (fun i hi=>?_) (fun _=>st.val)
  exact (h.tms i hi).step UX KN fun id Ax=>st.old id (h.wfT i hi id Ax)
 ·intro id b hb;simp only at hb;rcases Ew id with⟨bx,hx⟩|e
  ·rw[WD id bx hx] at hb;cases hb;exact st.nbox id _ hx
  ·rw[e] at hb;have hβ:=st.old id (by rw[hb];simp)
   have H5:=h.box id b hb;have Bl:=h.blt id;have Hh:s.hp id≠none:=by rw[hb];simp
   cases b with
   |st c=>
    obtain⟨b,o,h1,h2,h3⟩:=H5;have E1:=Bl b o Hh h1;have Rr:=st.ext.keep b E1 (fun x=>x)
    refine⟨b,o,by rw[hβ];exact h1,fun j c hj=>?_,fun j hj=>?_⟩
    ·obtain⟨v,hv,hc⟩:=h2 j c hj;refine⟨v,by rw[World.cell?_of_block (w:=w) Rr];exact hv,hc.step UX KN fun id' Ax=>st.old id' ?_⟩
     exact h.wfB id _ hb c (List.mem_of_getElem? hj) id' Ax
    ·rw[World.frozen?_of_block (w:=w) Rr];exact h3 j hj
   |ar fz c=>
    rcases H5 with⟨h1,h2⟩|⟨b,o,h1,h2,h3,h4⟩
    ·exact .inl ⟨by rw[hβ];exact h1,h2⟩
    ·have E1:=Bl b o Hh h1;have Rr:=st.ext.keep b E1 (fun x=>x)
     have Xg:bsz w' b=bsz w b:=by unfold bsz;rw[Rr]
     refine .inr ⟨b,o,by rw[hβ];exact h1,fun j c hj=>?_,fun e j hj Jh=>?_,fun e x=>h4 e (KN b E1 x)⟩
     ·obtain⟨v,hv,h5,hc⟩:=h2 j c hj;exact⟨v,by rw[World.cell?_of_block (w:=w) (by rw[Dv];exact Rr)];exact hv,h5,hc.step UX KN⟩
     ·rw[World.frozen?_of_block (w:=w) Rr];exact h3 e j hj (by rw[←Xg];exact Jh)
   |mv=>trivial
 ·intro id id' b o o' hl Gl hb E1;simp only at hl Gl;rcases Ew id with⟨bx,hx⟩|e
  ·rcases Ew id' with⟨bx',T9⟩|e'
   ·exact st.ninj id bx id' bx' b o o' hx T9 hb E1
   ·rw[e'] at Gl;have h1:=(st.nblk id bx b o hx hb).1;have h2:=h.blt id' b o' (Bs Gl) (by rw[←st.old id' (Bs Gl)];exact E1)
    omega
  ·rw[e] at hl;rcases Ew id' with⟨bx',T9⟩|e'
   ·have h1:=(st.nblk id' bx' b o' T9 E1).1;have h2:=h.blt id b o (Bs hl) (by rw[←st.old id (Bs hl)];exact hb)
    omega
   ·rw[e'] at Gl;exact h.inj id id' b o o' hl Gl (by rw[←st.old id (Bs hl)];exact hb) (by rw[←st.old id' (Bs Gl)];exact E1)
 ·intro id b o hn hb;simp only at hn;rcases Ew id with⟨bx,hx⟩|e
  ·exact (st.nblk id bx b o hx hb).2
  ·rw[e] at hn;exact Nat.lt_of_lt_of_le (h.blt id b o hn (by rw[←st.old id hn];exact hb)) st.ext.size
 ·have:=Jp (Q:=fun _ p _=>∀id∈A5 p,Ak s.hp nw id≠none) (val:=val) (d:=d) (v:=v) h.tsz hd (fun i hi id Ax=>Es id (.inl (h.wfT i hi id Ax))) (fun _ id Ax=>Es id (st.vwf id Ax))
  exact this
 ·intro id cells hc c FS id' Ax;simp only at hc;rcases Ew id with⟨bx,hx⟩|e
  ·rw[WD id bx hx] at hc;cases hc;exact Es id' (st.nwf id _ hx c FS id' Ax)
  ·rw[e] at hc;exact Es id' (.inl (h.wfB id cells hc c FS id' Ax))
 ·rintro b ⟨id,o,hl,hb⟩
  simp only at hl;rcases Ew id with⟨bx,hx⟩|e
  ·exact .inr (Nat.le_trans h.fr.step.size (st.nblk id bx b o hx hb).1)
  ·rw[e] at hl;exact h.ownd b ⟨id,o,hl,by rw[←st.old id (Bs hl)];exact hb⟩
 ·intro id bx b o hb hl hβ Bl;simp only at hb;rcases Ew id with⟨bx',hx⟩|e
  ·have:=(st.nblk id bx' b o hx hβ).1;have:=h.fr.step.size;omega
  ·rw[e] at hb;exact h.rngB id bx b o hb hl (by rw[←st.old id (by rw[hb];simp)];exact hβ) Bl
 ·intro i hi;obtain⟨h1,h2⟩:=h.pin i hi;exact⟨Es _ (.inl h1),by rw[st.old _ h1];exact h2⟩
 ·intro id c b o hb hβ Bl;simp only at hb;rcases Ew id with⟨bx',hx⟩|e
  ·have:=(st.nblk id bx' b o hx hβ).1;have:=h.fr.step.size;omega
  ·rw[e] at hb;exact h.stp id c b o hb (by rw[←st.old id (by rw[hb];simp)];exact hβ) Bl
 ·rintro b hY hX
  have hb:b<w.heap.size:=Nat.lt_of_lt_of_le (h.Ylt b hY) h.fr.step.size;exact h.Yx b hY (Aa5 b hb hX)
 ·refine⟨st.os.trans h.fr.os,st.tape.trans h.fr.tape,st.output.trans h.fr.output,h.fr.step.trans st.ext (fun _ _ x=>x.elim),fun b j hb hL=>?_⟩
  have Rr:=st.ext.keep b (Nat.lt_of_lt_of_le hb h.fr.step.size) (fun x=>x)
  have hc:w'.cell? ⟨b,j,none⟩=w.cell? ⟨b,j,none⟩:=World.cell?_of_block (w:=w) Rr;have hf:w'.frozen? ⟨b,j,none⟩=w.frozen? ⟨b,j,none⟩:=World.frozen?_of_block (w:=w) Rr;rw[hc,hf];exact h.fr.rng b j hb hL
end
open Go.RowKit
section
variable {P:Program} {N:Nat} {w0:World} {X0:E6} {Y:Nat->Prop} {β β':Bt} {s:St} {a:Act} {w w':World} {o:Oper}
theorem ER (cs:List Value)(A:Nat->Prop):Au (A6 w A β) (cs.map PV.sc) cs:=by
 induction cs with
 |nil=>trivial
 |cons v r ih=>exact⟨Ao.sc v,ih⟩
theorem JB (cs:List Value):(cs.map PV.sc).flatMap Ai=[]:=by
 induction cs with
 |nil=>rfl
 |cons v r ih=>exact ih
theorem Bu (h:Br N w0 X0 Y β s a w)(x:Operand):Cu w (Bz s.hp β Y) β (A7 s.tm x) (a.eval x):=by
 cases x with
 |tmp t=>
  show Cu _ _ _ (s.tm t) (a.tmps.getD t undef);by_cases ht:t<N
  ·exact h.tms t ht
  ·rw[h.tmo t (Nat.le_of_not_lt ht)];exact Ao.top _
 |const v=>
  cases v with
  |agg cs=>exact⟨cs.toList,by simp[Act.eval],ER cs.toList _⟩
  |_=>exact Ao.sc _
 |func f=>exact Ao.sc _
 |global g=>exact Ao.sc _
theorem C5 (h:Br N w0 X0 Y β s a w)(x:Operand):∀id∈A5 (A7 s.tm x),s.hp id≠none:=by
 cases x with
 |tmp t=>
  show ∀id∈A5 (s.tm t),_;by_cases ht:t<N
  ·exact h.wfT t ht
  ·rw[h.tmo t (Nat.le_of_not_lt ht)];intro id Ax;cases Ax
 |const v=>
  cases v with
  |agg cs=>
   intro id Ax;have:A5 (.agg (cs.toList.map .sc))=[]:=JB cs.toList;simp only[A7] at Ax;rw[this] at Ax;cases Ax
  |_=>intro id Ax;cases Ax
 |func f=>intro id Ax;cases Ax
 |global g=>intro id Ax;cases Ax
theorem Sx {A:Nat->Prop}{v u:Value}(h:Cu w A β (.sc v) u):u=v:=Ao.val h
theorem Bi (h:Br N w0 X0 Y β s a w){x:Operand}{v:Value}(e:A7 s.tm x=.sc v):a.eval x=v:=by
 have:=Bu h x;rw[e] at this;exact Sx this
def Ct (P:Program)(a:Act)(w:World)(o:Oper)(Y:Nat->Prop)(β:Bt)(s:St)(v:PV)(fz:List Nat)(nw:List (Nat × A1)):Prop:=
 (∀id∈fz,∃f c,s.hp id=some (.ar f c))∧∃val w',(execOp a.eval o).run P w=.ok (.value val) w'∧(A2 s.hp nw=true->∃β',X9 Y β ⟨s.tm,Ac s.hp fz⟩ w v nw val w' β')
theorem KK {v:PV}{val:Value}(hv:Cu w (Bz s.hp β Y) β v val) (hr:∀id∈A5 v,s.hp id≠none):X9 Y β s w v [] val w β:=
 ⟨rfl,rfl,rfl,Bb.refl _ _,fun _ _=>rfl,by simp,by simp,by simp,by simp,by simp,hv,fun id Ax=>.inl (hr id Ax)⟩
theorem Ba {v:PV}{val:Value}(Bp:(execOp a.eval o).run P w=.ok (.value val) w) (hv:Cu w (Bz s.hp β Y) β v val) (hr:∀id∈A5 v,s.hp id≠none):Ct P a w o Y β s v [] []:=
 ⟨by simp,val,w,Bp,fun _=>⟨β,KK (s:=⟨s.tm,Ac s.hp []⟩) hv hr⟩⟩
theorem Bm {v:Value}(Bp:(execOp a.eval o).run P w=.ok (.value v) w):Ct P a w o Y β s (.sc v) [] []:=Ba Bp (Ao.sc v) (by intro id Ax;cases Ax)
structure Di (w w':World) (c:Array Value) (e:TypeId):Prop where
 os:w'.os=w.os
 tape:w'.tape=w.tape
 output:w'.output=w.output
 old:∀b,b<w.heap.size->w'.heap[b]?=w.heap[b]?
 size:w'.heap.size=w.heap.size+1
 new:∃fz:Nat × Nat,w'.heap[w.heap.size]?=some (.cells c e fz)∧(fz.1=fz.2∨c.size<=fz.1)
theorem Di.alloc (w:World)(c:Array Value)(e:TypeId):Di w (w.alloc (.cells c e)) c e:=
 ⟨rfl,rfl,rfl,fun b hb=>Below.heap_alloc w _ b hb,by show (w.heap.push _).size=_;simp,(0,0),by show (w.heap.push _)[w.heap.size]?=_;simp,.inl rfl⟩
theorem Di.drew {c:Array Value}{e:TypeId}(h:Di w w' c e):Di w w'.drew c e:=⟨h.os,h.tape,h.output,h.old,h.size,h.new⟩
section
variable {c:Array Value} {e:TypeId}
theorem Di.step (h:Di w w' c e):Bb (fun _=>False) w w':=
 ⟨by rw[h.size];omega,fun b hb _=>h.old b hb,fun b hb=>Gb.same (h.old b hb)⟩
theorem Di.cell (h:Di w w' c e)(j:Nat):w'.cell? ⟨w.heap.size,j,none⟩=c[j]?:=by
 obtain⟨fz,hn,_⟩:=h.new;simp[World.cell?,hn]
theorem Di.frozen (h:Di w w' c e){j:Nat}(hj:j<c.size):w'.frozen? ⟨w.heap.size,j,none⟩=false:=by
 obtain⟨fz,hn,hf⟩:=h.new;simp only[World.frozen?,hn];rcases hf with hf|hf<;>simp<;>omega
theorem Hd (w:World)(c:Array Value)(e:TypeId):EA (w.alloc (.cells c e)) w.heap.size=false:=by
 unfold EA World.frozen?;have:(w.alloc (.cells c e)).heap[w.heap.size]?=some (.cells c e (0,0)):=by show (w.heap.push _)[w.heap.size]?=_;simp
 simp only[this];simp
theorem Di.bsz (h:Di w w' c e):bsz w' w.heap.size=c.size:=by
 obtain⟨fz,hn,_⟩:=h.new;simp[Pv.bsz,hn]
end
theorem K4 {c:Array Value}{e:TypeId}{d:Nat}{bx:A1}{v:PV}{val:Value}(hg:Di w w' c e)(hd:s.hp d=none)(hl:Bx (some bx))
  (H5:L0 w' (Bz (Bg s.hp d (some bx)) (Bg β d (some (w.heap.size,0))) Y) (Bg β d (some (w.heap.size,0))) d bx)
  (hcw:∀cells,bx=.st cells->∀x∈cells,∀id'∈Ai x,s.hp id'≠none)
  (hv:Cu w' (Bz (Bg s.hp d (some bx)) (Bg β d (some (w.heap.size,0))) Y) (Bg β d (some (w.heap.size,0))) v val)
  (hvr:∀id∈A5 v,s.hp id≠none∨id=d):X9 Y β s w v [(d,bx)] val w' (Bg β d (some (w.heap.size,0))) where
 os:=hg.os
 tape:=hg.tape
 output:=hg.output
 ext:=hg.step
 old:=fun id hn=>Ad _ _ (by rintro rfl;exact hn hd)
 nlive:=by intro id b hm;simp at hm;obtain⟨rfl,rfl⟩:=hm;exact hl
 nbox:=by intro id b hm;simp at hm;obtain⟨rfl,rfl⟩:=hm;exact H5
 nblk:=by
  intro id b x y hm hb;simp at hm;obtain⟨rfl,rfl⟩:=hm;rw[Af] at hb;simp at hb;have:=hg.size;omega
 ninj:=by intro id b id' b' x y z hm Ii _ _;simp at hm Ii;rw[hm.1,Ii.1]
 nwf:=by intro id cells hm x hx id' Ax;simp at hm;exact .inl (hcw cells hm.2.symm x hx id' Ax)
 val:=hv
 vwf:=by
  intro id Ax;rcases hvr id Ax with h|rfl
  ·exact .inl h
  ·exact .inr ⟨bx,by simp⟩
theorem KW {c:Array Value}{e:TypeId}(hg:Di w w' c e){A A':Nat->Prop}(hA:∀b,b<w.heap.size->A' b->A b){cells:List PV}
  (h:∀(j:Nat) p,cells[j]?=some p->∃v,c[j]?=some v∧v.oneCell'=true∧Ao w A p v):CM w' A' ⟨w.heap.size,0,none⟩ cells:=by
 intro j p hj;obtain⟨v,hv,h1,ht⟩:=h j p hj;exact⟨v,by rw[B9,Nat.zero_add,hg.cell];exact hv,h1,ht.step (hg.step.weaken (fun _ _ x=>x.elim)) hA⟩
theorem MN {d:Nat}{bx:A1}(hwf:s.hp d=none):∀b,b<w.heap.size->Bz (Bg s.hp d (some bx)) (Bg β d (some (w.heap.size,0))) Y b->Bz s.hp β Y b:=by
 intro b hb hA;rcases hA with⟨id,o,hl,hβ⟩|hY
 ·by_cases e:id=d
  ·subst e;rw[Af] at hβ;simp at hβ;omega
  ·rw[Ad _ _ e] at hl hβ;exact .inl ⟨id,o,hl,hβ⟩
 ·exact .inr hY
theorem Kp {c:Array Value}{e:TypeId}{d:Nat}{cells:List PV}{fz:List Nat}{v:PV}{val:Value}
  (Md:∀id∈fz,∃f c,s.hp id=some (.ar f c))
  (Bp:(execOp a.eval o).run P w=.ok (.value val) w') (hg:Di w w' c e)
  (hc:∀(j:Nat) p,cells[j]?=some p->∃u,c[j]?=some u∧u.oneCell'=true∧Ao w (Bz (Ac s.hp fz) β Y) p u)
  (hv:(v=.ptr d 0∧val=.pointer (some ⟨w.heap.size,0,none⟩))∨∃es n cap,v=.view d es 0 n∧val=.slice (some ⟨w.heap.size,0,none⟩) n cap∧n<=cap∧cap*es<=c.size∧(es=1∨EA w' w.heap.size=false)):
  Ct P a w o Y β s v fz [(d,.ar false cells)]:=by
 refine⟨Md,val,w',Bp,fun Kf=>⟨Bg β d (some (w.heap.size,0)),?_⟩⟩
 have hd:s.hp d=none:=(Aw Kf).1 d (.ar false cells) (by simp)
 have hd':Ac s.hp fz d=none:=Ch.2 hd;refine K4 (s:=⟨s.tm,Ac s.hp fz⟩) hg hd' trivial ?_ (fun cells hx=>by cases hx) ?_ ?_
 ·refine .inr ⟨w.heap.size,0,Af _ _ _,?_,fun _ j _ hj=>?_,(fun x=>by cases x)⟩
  ·exact KW hg (MN (s:=⟨s.tm,Ac s.hp fz⟩) hd') hc
  ·rw[hg.bsz] at hj;exact hg.frozen hj
 ·rcases hv with⟨rfl,rfl⟩|⟨es,n,cap,rfl,rfl,hn,Oc,Akg⟩
  ·exact⟨w.heap.size,0,Af _ _ _,rfl⟩
  ·exact .inr ⟨w.heap.size,0,0,cap,Af _ _ _,rfl,.inl rfl,hn,⟨by rw[hg.bsz];omega,Akg⟩,by rw[hg.size];omega⟩
 ·intro id Ax;rcases hv with⟨rfl,_⟩|⟨es,n,cap,rfl,_⟩<;>(simp[A5,Bf,Ai] at Ax;exact .inr Ax)
theorem Zh {c:Array Value}{e:TypeId}{d:Nat}{cells:List PV}
  (Bp:(execOp a.eval o).run P w=.ok (.value (.pointer (some ⟨w.heap.size,0,none⟩))) w') (hg:Di w w' c e)
  (hc:∀(j:Nat) p,cells[j]?=some p->∃u,c[j]?=some u∧A6 w (Bz s.hp β Y) β p u) (hr:∀x∈cells,∀id∈Ai x,s.hp id≠none):
  Ct P a w o Y β s (.ptr d 0) [] [(d,.st cells)]:=by
 refine⟨by simp,_,w',Bp,fun Kf=>⟨Bg β d (some (w.heap.size,0)),?_⟩⟩
 have hd:s.hp d=none:=(Aw Kf).1 d (.st cells) (by simp)
 refine K4 (s:=⟨s.tm,Ac s.hp []⟩) hg hd trivial ?_ (fun cs hx x NX id Ax=>?_) ?_ ?_
 ·refine⟨w.heap.size,0,Af _ _ _,fun j p hj=>?_,fun j hj=>?_⟩
  ·obtain⟨u,hu,hp⟩:=hc j p hj;refine⟨u,by rw[Nat.zero_add,hg.cell];exact hu,hp.step (hg.step.weaken (fun _ _ x=>x.elim)) (MN (s:=⟨s.tm,Ac s.hp []⟩) hd) fun id Ax=>Ad _ _ ?_⟩
   rintro rfl
   exact hr p (List.mem_of_getElem? hj) id Ax hd
  ·rw[Nat.zero_add];obtain⟨u,hu,_⟩:=hc j _ (List.getElem?_eq_getElem hj)
   exact hg.frozen (by
    rcases Nat.lt_or_ge j c.size with h|h
    ·exact h
    ·rw[Array.getElem?_eq_none h] at hu;cases hu)
 ·injection hx with hx;subst hx;exact hr x NX id Ax
 ·exact⟨w.heap.size,0,Af _ _ _,rfl⟩
 ·intro id Ax;simp[A5,Bf,Ai] at Ax;exact .inr Ax
end
open Go.RowKit
section
variable {R:Type} {r:R} {P:Program} {N:Nat} {w0:World} {X0:E6} {Y:Nat->Prop} {β β':Bt} {s:St} {a:Act} {w w':World} {o:Oper}
theorem G6 {t:TypeId}{n:Nat}(h:(P.info? t).map (·.size)=some n) (w:World):(sizeOf t).run P w=.ok n w:=by
 cases hi:P.info? t with
 |none=>rw[hi] at h;cases h
 |some i=>rw[hi] at h;simp at h;simp[sizeOf,typeInfo,hi,h]
theorem RY {t:TypeId}{n:Nat}(h:Aq P t=n)(hn:0<n):(P.info? t).map (·.size)=some n:=by
 unfold Aq at h;cases hi:(P.info? t).map (·.size) with
 |none=>rw[hi] at h;simp at h;omega
 |some i=>rw[hi] at h;simp at h;rw[h]
theorem Iq {t:TypeId}{d:TypeDesc}(h:P.underlying t=some d)(w:World):(isAgg t).run P w=.ok (A8 P t) w:=by
 unfold isAgg A8;rw[h];simp only[Sem.run_bind,run_underlying h,Result.andThen_ok];cases d<;>rfl
theorem YM {t:TypeId}{v:Value}{K:PV->Option R}(h:cvK P t v K=some r):∃p,K p=some r∧A5 p=[]∧∀(w:World)(A:Nat->Prop)(β:Bt),Cu w A β p v:=by
 have sc:∀v:Value,K (.sc v)=some r->∃p,K p=some r∧A5 p=[]∧∀(w:World) (A:Nat->Prop) (β:Bt),Cu w A β p v:=fun v h=>⟨_,h,rfl,fun w A β=>Ao.sc v⟩
 unfold cvK at h;split at h
 ·rename_i cs;obtain⟨hl,h⟩:=Ae h;obtain⟨xs,h,hxl,hx⟩:=Mr h;have hl:=Nat.eq_of_beq_eq_true hl;refine⟨_,h,?_,fun w A β=>⟨cs.toList,by simp,?_⟩⟩
  ·show xs.flatMap Ai=[];rw[List.flatMap_eq_nil_iff];intro c hc;obtain⟨j,hj⟩:=List.mem_iff_getElem?.1 hc;exact Ey (hx j c hj).1
  ·refine Au.of_at (by rw[hxl,hl]) fun i c u hc hu=>?_
   obtain⟨hT,p,hp,_,Sw⟩:=hx i c hc;refine (Hq hT).2 (Sw w A β u ?_).1;rw[Nat.zero_add,List.getElem?_map,hu] at hp;simp at hp;subst hp;exact Ao.sc u
 ·split at h
  ·exact⟨_,h,rfl,fun w A β=>Ao.lnil true _⟩
  ·cases h
 ·exact sc _ h
theorem Qv (h:Br N w0 X0 Y β s a w){x:Operand}(Bp:(execOp a.eval o).run P w=.ok (.value (a.eval x)) w) {K:PV->Option R}(hk:R1 P o.type s.tm x K=some r):
  ∃v,K v=some r∧Ct P a w o Y β s v [] []:=by
 have dflt:K (A7 s.tm x)=some r->∃v,K v=some r∧Ct P a w o Y β s v [] []:=fun hk=>⟨_,hk,Ba Bp (Bu h x) (C5 h x)⟩
 cases x with
 |const v=>
  obtain⟨p,hk,hr,hv⟩:=YM hk;exact⟨p,hk,Ba Bp (hv _ _ _) (by rw[hr];simp)⟩
 |tmp t=>exact dflt hk
 |func f=>exact dflt hk
 |global g=>exact dflt hk
theorem OL {x:Operand}(ho:o.op=.move x):(execOp a.eval o).run P w=.ok (.value (a.eval x)) w:=by unfold execOp;rw[ho];rfl
theorem EM {x:Operand}(ho:o.op=.assign x):(execOp a.eval o).run P w=.ok (.value (a.eval x)) w:=by unfold execOp;rw[ho];rfl
theorem HV (h:Br N w0 X0 Y β s a w){c x y:Operand}(ho:o.op=.pick c x y){K:PV->Option R}(hk:(A4 (A7 s.tm c) fun t=>Ca t (K (A7 s.tm x)) (K (A7 s.tm y)))=some r):
  ∃v,K v=some r∧Ct P a w o Y β s v [] []:=by
 obtain⟨b,hb,hk⟩:=Cd hk;have hc:=Bi h hb;rcases Il hk with⟨rfl,hk⟩|⟨rfl,hk⟩
 ·exact⟨_,hk,Ba (by unfold execOp;rw[ho];simp[asBool,hc]) (Bu h x) (C5 h x)⟩
 ·exact⟨_,hk,Ba (by unfold execOp;rw[ho];simp[asBool,hc]) (Bu h y) (C5 h y)⟩
theorem Jv {t:TypeId}{K:List PV->Option R}(h:En P t K=some r):∃(v:Value)(cs:List PV),K cs=some r∧Pu P t=some v∧cs.length=(E9 P t).length∧cs.length=v.cells.toList.length∧cs.length=Aq P t ∧
  ∀(j:Nat) c,cs[j]?=some c->O0 c∧∃u,v.cells.toList[j]?=some u∧u.oneCell'=true∧∀(w:World) (A:Nat->Prop),Ao w A c u:=by
 unfold En at h;obtain⟨v,hz,h⟩:=Bn h;obtain⟨hl,h⟩:=Ae h;obtain⟨cs,h,Kc,hc⟩:=Mr h;simp only[Bool.and_eq_true] at hl;have Wi:=Nat.eq_of_beq_eq_true hl.1
 have CV:(E9 P t).length=Aq P t:=by
  have:=hl.2;simp only[Fu,Bool.and_eq_true] at this;exact Nat.eq_of_beq_eq_true this.2
 refine⟨v,cs,h,hz,Kc,by rw[Kc,Wi],by rw[Kc,CV],fun j c hj=>?_⟩
 obtain⟨hT,p,hp,_,Sw⟩:=hc j c hj;rw[Nat.zero_add,List.getElem?_map] at hp;cases hu:v.cells.toList[j]? with
 |none=>rw[hu] at hp;cases hp
 |some u=>
  rw[hu] at hp;simp at hp;subst hp;exact⟨hT,u,rfl,(Sw default (fun _=>False) (fun _=>none) u (Ao.sc u)).2,fun w A=>(Sw w A (fun _=>none) u (Ao.sc u)).1⟩
theorem Pb {t:TypeId}{v:Value}(h:Pu P t=some v)(w:World):(zeroValue t).run P w=.ok v w:=by
 unfold Pu at h;cases hi:P.info? t with
 |none=>rw[hi] at h;cases h
 |some i=>rw[hi] at h;simp at h;simp[zeroValue,typeInfo,hi,h]
theorem EZ {t:TypeId}(ho:o.op=.alloc t){d:Nat}{K:PV->List Nat->List (Nat × A1)->Option R}
  (hk:(En P t fun cs=>K (.ptr d 0) [] [(d,VR P t cs)])=some r):∃v fz nw,K v fz nw=some r∧Ct P a w o Y β s v fz nw:=by
 obtain⟨z,cs,hk,hz,_,hl,_,hc⟩:=Jv hk
 have Bp:(execOp a.eval o).run P w=.ok (.value (.pointer (some ⟨w.heap.size,0,none⟩))) (w.alloc (.cells z.cells t)):=by
  unfold execOp;rw[ho];simp[Instr.alloc,Pb hz,newVar,newRow]
 have hg:=Di.alloc w z.cells t;refine⟨_,_,_,hk,?_⟩;unfold VR;cases M8 P t
 ·refine Zh Bp hg (fun j p hj=>?_) fun x hx id Ax=>?_
  ·obtain⟨hT,u,hu,_,hv⟩:=hc j p hj;exact⟨u,by simpa using hu,(Hq hT).2 (hv _ _)⟩
  ·obtain⟨j,hj⟩:=List.mem_iff_getElem?.1 hx;rw[Ey (hc j x hj).1] at Ax;cases Ax
 ·refine Kp (by simp) Bp hg (fun j p hj=>?_) (.inl ⟨rfl,rfl⟩)
  obtain⟨hT,u,hu,h1,hv⟩:=hc j p hj;exact⟨u,by simpa using hu,h1,hv _ _⟩
end
open Go.RowKit
section
variable {R:Type} {r:R} {P:Program} {N:Nat} {w0:World} {X0:E6} {Y:Nat->Prop} {β β':Bt} {s:St} {a:Act} {w w':World} {o:Oper} {A:Nat->Prop}
theorem Kz {t:TypeId}(h:Fu P t=true):(∃d,P.underlying t=some d)∧(E9 P t).length=Aq P t∧(P.info? t).map (·.size)=some (Aq P t):=by
 simp only[Fu,Bool.and_eq_true] at h;refine⟨Option.isSome_iff_exists.1 h.1,Nat.eq_of_beq_eq_true h.2,?_⟩;unfold Aq;cases hi:P.info? t with
 |none=>unfold Program.underlying at h;rw[hi] at h;cases h.1
 |some i=>simp
theorem Is {v:Value}(h:v.oneCell'=true):v.cells = #[v]:=by cases v<;>first|rfl|cases h
theorem LY {p:PV}{v:Value}{ts:List CT}{K:List PV->Option R}(hv:Cu w A β p v)(hl:(cellsOf p).length=ts.length) (h:Kb ts (cellsOf p) 0 K=some r):
  ∃cs,K cs=some r∧cs.length=ts.length∧Au (A6 w A β) cs v.cells.toList∧(∀u∈v.cells.toList,u.oneCell'=true)∧(∀c∈cs,∀id∈Ai c,id∈A5 p)∧∀c∈cs,(∀x,c ≠ .agg x)∧(∀x,c ≠ .tup x):=by
 obtain⟨cs,h,Kc,R8,hc⟩:=M2 h;refine⟨cs,h,Kc,?_⟩
 have single:(∀x,p ≠ .agg x)->cellsOf p=[p]:=by
  intro hp;cases p<;>first|rfl|exact absurd rfl (hp _)
 by_cases Dy:∃x,p=.agg x
 ·obtain⟨x,rfl⟩:=Dy;obtain⟨vs,rfl,h2⟩:=hv;have C3:cs.length=vs.length:=by rw[Kc,←hl];exact h2.len
  have key:∀(i:Nat) c u,cs[i]?=some c->vs[i]?=some u->A6 w A β c u∧u.oneCell'=true:=by
   intro i c u Lk hu;obtain⟨q,hq,_,_,XF⟩:=hc i c Lk;rw[Nat.zero_add] at hq;exact XF w A β u (h2.at_ hq hu)
  refine⟨Au.of_at C3 fun i c u Lk hu=>(key i c u Lk hu).1,?_,?_,R8⟩
  ·intro u hu;obtain⟨i,hi⟩:=List.mem_iff_getElem?.1 (show u∈vs from hu)
   have Bl:i<vs.length:=by
    rcases Nat.lt_or_ge i vs.length with h|h
    ·exact h
    ·rw[List.getElem?_eq_none h] at hi;cases hi
   exact (key i _ u (List.getElem?_eq_getElem (by omega)) hi).2
  ·intro c FS id Ax;obtain⟨i,hi⟩:=List.mem_iff_getElem?.1 FS;obtain⟨q,hq,_,hr,_⟩:=hc i c hi;rw[Nat.zero_add] at hq;show id∈x.flatMap Ai;exact List.mem_flatMap.2 ⟨q,List.mem_of_getElem? hq,hr id Ax⟩
 ·have hp:∀x,p ≠ .agg x:=fun x e=>Dy ⟨x,e⟩
  rw[single hp] at hl hc;have Wi:cs.length=1:=by rw[Kc,←hl];rfl
  match cs,Wi with
  |[c],_=>
   obtain⟨q,hq,hf,hr,XF⟩:=hc 0 c rfl;simp at hq;subst hq;have Km:∀x,p ≠ .tup x:=by rintro x rfl;exact hf
   have Jy:A6 w A β p v:=(Rc hp).1 ((Ly Km).1 hv);obtain⟨h5,h6⟩:=XF w A β v Jy;rw[Is h6];refine⟨⟨h5,trivial⟩,?_,?_,R8⟩
   ·intro u hu;simp at hu;subst hu;exact h6
   ·intro c' Lk id Ax;simp at Lk;subst Lk;have:=hr id Ax;cases p<;>first|exact this|exact absurd rfl (hp _)|exact absurd rfl (Km _)
end
open Go.RowKit
section
variable {R:Type} {r:R} {P:Program} {N:Nat} {w0:World} {X0:E6} {Y:Nat->Prop} {β β':Bt} {s:St} {a:Act} {w w':World} {o:Oper} {A:Nat->Prop}
theorem Au.get {α β':Type}{R':α->β'->Prop}{zs:List α}{bs:List β'}(h:Au R' zs bs){i:Nat}{x:α}(hx:zs[i]?=some x):∃y,bs[i]?=some y∧R' x y:=by
 have Bl:i<zs.length:=by
  rcases Nat.lt_or_ge i zs.length with h|h
  ·exact h
  ·rw[List.getElem?_eq_none h] at hx;cases hx
 have hb:bs[i]?=some (bs[i]'(by rw[←h.len];exact Bl)):=List.getElem?_eq_getElem _
 exact⟨_,hb,h.at_ hx hb⟩
theorem YO {p:PV}{v:Value}{ts:List CT}{K:List PV->Option R}(hv:Cu w A β p v)(hl:(cellsOf p).length=ts.length) (h:M0 ts (cellsOf p) 0 K=some r):
  ∃cs,K cs=some r∧cs.length=ts.length∧Au (Ao w A) cs v.cells.toList∧∀u∈v.cells.toList,u.oneCell'=true:=by
 obtain⟨cs,h,Kc,hc⟩:=Mr h;refine⟨cs,h,Kc,?_⟩;by_cases Dy:∃x,p=.agg x
 ·obtain⟨x,rfl⟩:=Dy;obtain⟨vs,rfl,h2⟩:=hv;have C3:cs.length=vs.length:=by rw[Kc,←hl];exact h2.len
  have key:∀(i:Nat) c u,cs[i]?=some c->vs[i]?=some u->Ao w A c u∧u.oneCell'=true:=by
   intro i c u Lk hu;obtain⟨_,q,hq,_,XF⟩:=hc i c Lk;rw[Nat.zero_add] at hq;exact XF w A β u (h2.at_ hq hu)
  refine⟨Au.of_at C3 fun i c u Lk hu=>(key i c u Lk hu).1,?_⟩
  intro u hu;obtain⟨i,hi⟩:=List.mem_iff_getElem?.1 (show u∈vs from hu)
  have Bl:i<vs.length:=by
   rcases Nat.lt_or_ge i vs.length with h|h
   ·exact h
   ·rw[List.getElem?_eq_none h] at hi;cases hi
  exact (key i _ u (List.getElem?_eq_getElem (by omega)) hi).2
 ·have hp:∀x,p ≠ .agg x:=fun x e=>Dy ⟨x,e⟩
  have single:cellsOf p=[p]:=by cases p<;>first|rfl|exact absurd rfl (hp _)
  rw[single] at hl hc;have Wi:cs.length=1:=by rw[Kc,←hl];rfl
  match cs,Wi with
  |[c],_=>
   obtain⟨_,q,hq,hf,XF⟩:=hc 0 c rfl;simp at hq;subst hq;have Km:∀x,p ≠ .tup x:=by rintro x rfl;exact hf
   have Jy:A6 w A β p v:=(Rc hp).1 ((Ly Km).1 hv);obtain⟨h5,h6⟩:=XF w A β v Jy;rw[Is h6];exact⟨⟨h5,trivial⟩,fun u hu=>by simp at hu;subst hu;exact h6⟩
theorem PT (h:Br N w0 X0 Y β s a w){t:TypeId}{x:Operand}(ho:o.op=.box t x){d:Nat}{K:PV->List Nat->List (Nat × A1)->Option R}
    (hk:(Ar (Fu P t&&Nat.beq (cellsOf (A7 s.tm x)).length (E9 P t).length)
      (bif M8 P t then M0 (E9 P t) (cellsOf (A7 s.tm x)) 0 fun cs=>K (.ptr d 0) [] [(d,.ar false cs)]
       else Kb (E9 P t) (cellsOf (A7 s.tm x)) 0 fun cs=>K (.ptr d 0) [] [(d,.st cs)]))=some r):∃v fz nw,K v fz nw=some r∧Ct P a w o Y β s v fz nw:=by
  obtain⟨hl,hk⟩:=Ae hk
  simp only[Bool.and_eq_true] at hl
  have hl:=Nat.eq_of_beq_eq_true hl.2
  have Bp:(execOp a.eval o).run P w=.ok (.value (.pointer (some ⟨w.heap.size,0,none⟩))) (w.alloc (.cells (a.eval x).cells t)):=by
    unfold execOp
    rw[ho]
    simp[Instr.box,newVar,newRow]
  have hg:=Di.alloc w (a.eval x).cells t
  cases ha:M8 P t
  · rw[ha] at hk
    obtain⟨cs,hk,_,h2,_,hr,_⟩:=LY (Bu h x) hl hk
    refine⟨_,_,_,hk,Zh Bp hg (fun j p hj=>?_) fun c hc id Ax=>C5 h x id (hr c hc id Ax)⟩
    obtain⟨u,hu,hp⟩:=h2.get hj
    exact⟨u,by simpa using hu,hp⟩
  · rw[ha] at hk
    obtain⟨cs,hk,_,h2,h1⟩:=YO (Bu h x) hl hk
    refine⟨_,_,_,hk,Kp (by simp) Bp hg (fun j p hj=>?_) (.inl ⟨rfl,rfl⟩)⟩
    obtain⟨u,hu,hp⟩:=h2.get hj
    exact⟨u,by simpa using hu,h1 u (List.mem_of_getElem? hu),hp⟩
theorem JG {c:PV}(h1:∀x,c ≠ .agg x)(h2:∀x,c ≠ .tup x):A5 c=Ai c:=by
 cases c<;>first|rfl|exact absurd rfl (h1 _)|exact absurd rfl (h2 _)
theorem Rd {t:TypeId}{ad:Addr}{cs:List PV}{p:PV}(Jk:Fu P t=true)(C3:cs.length=(E9 P t).length)
  (R8:∀c∈cs,(∀x,c ≠ .agg x)∧(∀x,c ≠ .tup x))
  (hc:∀(j:Nat) c,cs[j]?=some c->∃v,w.cell? (ad.add j)=some v∧A6 w A β c v)
  (hp:(A8 P t=true∧p=.agg cs)∨(A8 P t=false∧cs=[p])):∃val,(loadVar t ad).run P w=.ok val w∧Cu w A β p val:=by
 obtain⟨⟨d,hd⟩,hl,hi⟩:=Kz Jk;rcases hp with⟨Dy,rfl⟩|⟨Dy,rfl⟩
 ·have hf:∀j,j<Aq P t->w.cell? (ad.add j)=some ((w.cell? (ad.add j)).getD undef):=by
   intro j hj;obtain⟨v,hv,_⟩:=hc j _ (List.getElem?_eq_getElem (by omega))
   rw[hv];rfl
  refine⟨_,?_,(List.range (Aq P t)).map (fun j=>(w.cell? (ad.add j)).getD undef),rfl,?_⟩
  ·simp only[loadVar,Sem.run_bind,Iq hd,Dy,Result.andThen_ok,if_true,G6 hi,run_loadCells w ad (Aq P t) _ hf];simp
  ·refine Au.of_at (by simp;omega) fun i c u Lk hu=>?_
   obtain⟨v,hv,Tg⟩:=hc i c Lk
   have Bl:i<Aq P t:=by
    rcases Nat.lt_or_ge i cs.length with h|h
    ·omega
    ·rw[List.getElem?_eq_none h] at Lk;cases Lk
   rw[List.getElem?_map,List.getElem?_range Bl] at hu;simp[hv] at hu;subst hu;exact Tg
 ·obtain⟨v,hv,Tg⟩:=hc 0 p rfl;have hn:=R8 p (by simp)
  have h0:ad.add 0=ad:=by simp[Addr.add]
  rw[h0] at hv;refine⟨v,?_,(Ly hn.2).2 ((Rc hn.1).2 Tg)⟩;simp only[loadVar,Sem.run_bind,Iq hd,Dy,Result.andThen_ok];simp[hv]
theorem UY {hp:Nat->Option A1}{id:Nat}{c:List PV}(h:rd hp id=some c):hp id=some (.st c)∨∃f,hp id=some (.ar f c):=by
 unfold rd at h;split at h
 ·rename_i e;simp at h;subst h;exact .inl e
 ·rename_i f _ e;simp at h;subst h;exact .inr ⟨_,e⟩
 ·cases h
theorem Z6 {hp:Nat->Option A1}{id:Nat}{c:List PV}(h:Gj hp id=some c):∃f,hp id=some (.ar f c):=by
 unfold Gj at h;split at h
 ·rename_i e;simp at h;subst h;exact⟨_,e⟩
 ·cases h
theorem W5 (h:Br N w0 X0 Y β s a w){id:Nat}{c:List PV}(hr:rd s.hp id=some c){b ob:Nat}(hβ:β id=some (b,ob)) {j:Nat}{p:PV}(hj:c[j]?=some p):
  ∃v,w.cell? ⟨b,ob+j,none⟩=some v∧A6 w (Bz s.hp β Y) β p v:=by
 rcases UY hr with hb|⟨f,hb⟩
 ·obtain⟨b',o',h1,h2,_⟩:=h.box id _ hb;rw[hβ] at h1;simp at h1;obtain⟨rfl,rfl⟩:=h1;exact h2 j p hj
 ·rcases h.box id _ hb with⟨h1,_⟩|⟨b',o',h1,h2,_⟩
  ·rw[hβ] at h1;cases h1
  ·rw[hβ] at h1;simp at h1;obtain⟨rfl,rfl⟩:=h1
   obtain⟨v,hv,_,ht⟩:=h2 j p hj;rw[B9] at hv;refine⟨v,hv,?_⟩;cases ht with
   |sc=>exact Ao.sc _
   |top=>exact Ao.top _
   |ub=>exact Ao.ub _
   |lnil=>exact Ao.lnil _ _
   |lemp=>exact Ao.lemp _ _ _
   |lst es n cells a cap f hs hb hA hn hc h1 hr=>exact Ao.lst es n cells a cap f hs hb hA hn hc h1 hr
theorem G4:∀{ts:List CT}{cells:List PV}{off:Nat}{K:List PV->Option R},M0 ts cells off K=some r->Kb ts cells off K=some r
 |[],_,_,_,h=>h
 |.int k::ts,cells,off,K,h=>by
  obtain⟨n,hp,h⟩:=Cs (show Ag k (cells.getD off .top) _=some r from h)
  show Ag k _ _=_;rw[hp];simp only[Ag,if_true];exact G4 h
 |.bool::ts,cells,off,K,h=>by
  obtain⟨n,hp,h⟩:=Cd (show A4 (cells.getD off .top) _=some r from h)
  show A4 _ _=_;rw[hp];exact G4 h
 |.str::ts,cells,off,K,h=>by
  obtain⟨n,hp,h⟩:=Cb (show E7 (cells.getD off .top) _=some r from h)
  show E7 _ _=_;rw[hp];exact G4 h
 |.sl es::ts,cells,off,K,h=>by
  obtain⟨z,n,c,h,hp⟩:=Dh (show F3 es (cells.getD off .top) _=some r from h)
  change fcK (.sl es) (cells.getD off .top) (fun c=>Kb ts cells (off+1) fun r=>K (c::r))=some r
  unfold fcK;dsimp only;unfold fsK;rcases hp with hp|⟨hp,rfl,rfl,rfl⟩
  ·rw[hp];simp only[F3,Nat.beq_refl,cond_true];exact G4 h
  ·rw[hp];exact G4 h
 |.any::ts,cells,off,K,h=>by
  obtain⟨f,a,b,hp,h⟩:=AU (show QO (cells.getD off .top) (fun v=>M0 ts cells (off+1) fun r=>K (.sc v::r))=some r from h)
  show QO (cells.getD off .top) (fun v=>Kb ts cells (off+1) fun r=>K (.sc v::r))=some r
  rw[hp];exact G4 h
theorem Ao.unz {w:World}{A:Nat->Prop}{z:Bool}{es n:Nat}{c:List PV}{u:Value}(h:Ao w A (.lst z es n c) u):Ao w A (.lst false es n c) u:=by
 cases h with
 |lnil z es=>exact .lnil false es
 |lemp es a cap=>exact .lemp es a cap
 |lst es n c a cap f h1 h2 h3 h4 h5 h6 h7=>exact .lst es n c a cap f h1 h2 h3 h4 h5 h6 h7
theorem NW {w:World}{A:Nat->Prop}{β:Bt}{p:PV}{u:Value}(h:A6 w A β p u):A6 w A β (AE p) u:=by
 cases p with
 |lst z es n c=>exact Ao.unz h
 |_=>exact h
theorem KA (p:PV):Ai (AE p)=Ai p:=by cases p<;>rfl
theorem Yo {w:World}{A:Nat->Prop}{β:Bt}:∀{cs:List PV}{vs:List Value},Au (A6 w A β) cs vs->Au (A6 w A β) (cs.map AE) vs
 |[],[],_=>trivial
 |_::_,_::_,h=>⟨NW h.1,Yo h.2⟩
 |[],_::_,h=>h.elim
 |_::_,[],h=>h.elim
theorem OH {w:World}{A:Nat->Prop}{β:Bt}{p:PV}{u:Value}(h:Cu w A β p u):Cu w A β (HO p) u:=by
 cases p with
 |agg cs=>
  obtain⟨vs,h1,h2⟩:=(show E2 w A β (.agg cs) u from h)
  exact⟨vs,h1,Yo h2⟩
 |lst z es n c=>exact Ao.unz (show Ao w A (.lst z es n c) u from h)
 |_=>exact h
theorem OP (p:PV):A5 (HO p)=A5 p:=by
 cases p with
 |agg cs=>
  show (cs.map AE).flatMap Ai=cs.flatMap Ai
  induction cs with
  |nil=>rfl
  |cons a l ih=>rw[List.map_cons,List.flatMap_cons,List.flatMap_cons,ih,KA]
 |_=>rfl
theorem XJ {nz:Bool}{hp:Nat->Option A1}{t:TypeId}{x:PV}{K:PV->Option R}(h:P9 nz P (rd hp) (Gj hp) t x K=some r):
  Ps P (rd hp) t x K=some r∨Ps P (rd hp) t x (fun v=>K (HO v))=some r:=by
 have h':Ps P (rd hp) t x K=some r∨Ps P (rd hp) t x (fun v=>K (bif nz then v else HO v))=some r:=by
  unfold P9 at h;unfold Ps;split at h
  ·rename_i id off;obtain⟨hb,h⟩:=Ae h;rw[hb];show Db _ _=_∨Db _ _=_;split at h
   ·rename_i c hc;obtain⟨f,H5⟩:=Z6 hc;have:rd hp id=some c:=by unfold rd;rw[H5]
    rw[this];exact .inr (G4 h)
   ·exact .inl h
  ·exact .inr h
  ·cases h
 cases nz
 ·exact h'
 ·exact .inl (h'.elim id id)
theorem Zk (h:Br N w0 X0 Y β s a w){t:TypeId}{x:PV}{u:Value}(hx:Cu w (Bz s.hp β Y) β x u) {K:PV->Option R}(hk:Ps P (rd s.hp) t x K=some r):
  ∃v ad val,K v=some r∧u=.pointer (some ad)∧(loadVar t ad).run P w=.ok val w∧Cu w (Bz s.hp β Y) β v val∧∀i∈A5 v,s.hp i≠none:=by
 unfold Ps at hk;split at hk
 ·rename_i id off;obtain⟨Jk,hk⟩:=Ae hk;obtain⟨c,hr,hk⟩:=Bn hk;obtain⟨cs,hk,hl,R8,hc⟩:=M2 hk;obtain⟨b,ob,hβ,B0⟩:=hx
  have hcell:∀(j:Nat) q,cs[j]?=some q->∃v,w.cell? ((⟨b,ob+off,none⟩:Addr).add j)=some v∧A6 w (Bz s.hp β Y) β q v:=by
   intro j q hq;obtain⟨p,hp,_,_,Sw⟩:=hc j q hq;obtain⟨v,hv,Tg⟩:=W5 h hr hβ hp;exact⟨v,by rw[B9,Nat.add_assoc];exact hv,(Sw _ _ _ _ Tg).1⟩
  have Pc:∀q∈cs,∀i∈Ai q,s.hp i≠none:=by
   intro q hq i hi;obtain⟨j,hj⟩:=List.mem_iff_getElem?.1 hq;obtain⟨p,hp,_,hpr,_⟩:=hc j q hj;rcases UY hr with hb|⟨f,hb⟩
   ·exact h.wfB id c hb p (List.mem_of_getElem? hp) i (hpr i hi)
   ·obtain⟨v,hv,Tg⟩:=W5 h hr hβ hp;exfalso;have Bq:=hpr i hi;rcases h.box id _ hb with⟨_,rfl⟩|⟨b',o',h1,h2,_⟩
    ·simp at hp
    ·obtain⟨v',_,_,ht⟩:=h2 _ p hp;cases ht<;>cases Bq
  rcases Z8 hk with⟨Dy,Dc⟩|⟨Dy,q,rfl,Dc⟩
  ·obtain⟨val,Qp,hv⟩:=Rd Jk hl R8 hcell (.inl ⟨Dy,rfl⟩);refine⟨_,_,val,Dc,B0,Qp,hv,fun i hi=>?_⟩
   obtain⟨q,hq,hi⟩:=List.mem_flatMap.1 (show i∈cs.flatMap Ai from hi)
   exact Pc q hq i hi
  ·obtain⟨val,Qp,hv⟩:=Rd Jk hl R8 hcell (.inr ⟨Dy,rfl⟩);refine⟨_,_,val,Dc,B0,Qp,hv,fun i hi=>Pc q (by simp) i ?_⟩
   have hn:=R8 q (by simp)
   rw[JG hn.1 hn.2] at hi;exact hi
 ·rename_i c off;obtain⟨Jk,hk⟩:=Ae hk;obtain⟨cs,hk,hl,hc⟩:=Mr hk;obtain⟨ad,B0,hs,hb,hA,hrd⟩:=hx
  have R8:∀q∈cs,(∀x,q ≠ .agg x)∧(∀x,q ≠ .tup x):=by
   intro q hq;obtain⟨j,hj⟩:=List.mem_iff_getElem?.1 hq;exact⟨Rq (hc j q hj).1,MG (hc j q hj).1⟩
  have hcell:∀(j:Nat) q,cs[j]?=some q->∃v,w.cell? ((ad.add off).add j)=some v∧A6 w (Bz s.hp β Y) β q v:=by
   intro j q hq;obtain⟨hT,p,hp,Ws,Sw⟩:=hc j q hq;obtain⟨v,hv,_,ht⟩:=hrd (off+j) p hp;exact⟨v,by rw[add_add];exact hv,(Hq hT).2 (Sw w (Bz s.hp β Y) β v ((Hq Ws).2 ht)).1⟩
  have Pc:∀q∈cs,Ai q=[]:=by
   intro q hq;obtain⟨j,hj⟩:=List.mem_iff_getElem?.1 hq;exact Ey (hc j q hj).1
  rcases Z8 hk with⟨Dy,Dc⟩|⟨Dy,q,rfl,Dc⟩
  ·obtain⟨val,Qp,hv⟩:=Rd Jk hl R8 hcell (.inl ⟨Dy,rfl⟩);refine⟨_,_,val,Dc,B0,Qp,hv,fun i hi=>?_⟩
   obtain⟨q,hq,hi⟩:=List.mem_flatMap.1 (show i∈cs.flatMap Ai from hi)
   rw[Pc q hq] at hi;cases hi
  ·obtain⟨val,Qp,hv⟩:=Rd Jk hl R8 hcell (.inr ⟨Dy,rfl⟩);refine⟨_,_,val,Dc,B0,Qp,hv,fun i hi=>?_⟩
   have hn:=R8 q (by simp)
   rw[JG hn.1 hn.2,Pc q (by simp)] at hi
   cases hi
 ·cases hk
theorem DP (h:Br N w0 X0 Y β s a w){t:TypeId}{x:PV}{u:Value}(hx:Cu w (Bz s.hp β Y) β x u) {nz:Bool}{K:PV->Option R}(hk:P9 nz P (rd s.hp) (Gj s.hp) t x K=some r):
  ∃v ad val,K v=some r∧u=.pointer (some ad)∧(loadVar t ad).run P w=.ok val w∧Cu w (Bz s.hp β Y) β v val∧∀i∈A5 v,s.hp i≠none:=by
 rcases XJ hk with hk|hk
 ·exact Zk h hx hk
 ·obtain⟨v,ad,val,h1,h2,h3,h4,h5⟩:=Zk h hx hk;exact⟨HO v,ad,val,h1,h2,h3,OH h4,by rw[OP];exact h5⟩
theorem KH (h:Br N w0 X0 Y β s a w){t:TypeId}{x:Operand}(ho:o.op=.load t x){nz:Bool}{K:PV->Option R}(hk:P9 nz P (rd s.hp) (Gj s.hp) t (A7 s.tm x) K=some r):
  ∃v,K v=some r∧Ct P a w o Y β s v [] []:=by
 obtain⟨v,ad,val,Cn,B0,hl,hv,hr⟩:=DP h (Bu h x) hk;refine⟨v,Cn,Ba ?_ hv hr⟩;unfold execOp;rw[ho];simp[Instr.loadAt,Instr.sureAddr,B0,hl]
theorem NZ {x:PV}{d:Nat}{K:PV->Option R}(h:My x d K=some r):(∃id off,x=.ptr id off∧K (.ptr id (off+d))=some r)∨∃c off,x=.iptr c off∧K (.iptr c (off+d))=some r:=by
 unfold My at h;split at h
 ·exact .inl ⟨_,_,rfl,h⟩
 ·exact .inr ⟨_,_,rfl,h⟩
 ·cases h
theorem Pk (h:Br N w0 X0 Y β s a w){x:Operand}{d:Nat}{K:PV->Option R}(hk:My (A7 s.tm x) d K=some r)
  (Bp:∀ad:Addr,a.eval x=.pointer (some ad)->(execOp a.eval o).run P w=.ok (.value (.pointer (some (ad.add d)))) w):∃v,K v=some r∧Ct P a w o Y β s v [] []:=by
 have hx:=Bu h x;have Xe:=C5 h x;rcases NZ hk with⟨id,off,e,hk⟩|⟨c,off,e,hk⟩
 ·rw[e] at hx Xe;obtain⟨b,ob,hβ,B0⟩:=hx;refine⟨_,hk,Ba (Bp _ B0) ⟨b,ob,hβ,by rw[B9,Nat.add_assoc]⟩ Xe⟩
 ·rw[e] at hx;obtain⟨ad,B0,h1,h2,h3,h4⟩:=hx;exact⟨_,hk,Ba (Bp _ B0) ⟨ad,by rw[add_add],h1,h2,h3,h4⟩ (by intro i hi;cases hi)⟩
theorem Vd (h:Br N w0 X0 Y β s a w){x:Operand}(ho:o.op=.nilCheck x){K:PV->Option R}(hk:My (A7 s.tm x) 0 K=some r):∃v,K v=some r∧Ct P a w o Y β s v [] []:=by
 refine Pk h hk fun ad B0=>?_
 unfold execOp;rw[ho];simp[B0,Addr.add]
theorem Rg {t:TypeId}{f:Nat}{q:Nat × TypeId}(h:Kt P t f=some q):∃fs g,P.underlying t=some (.struct fs)∧fs[f]?=some g∧q=(g.offset,g.type):=by
 unfold Kt at h;split at h
 ·rename_i fs e;cases hg:fs[f]? with
  |none=>rw[hg] at h;cases h
  |some g=>rw[hg] at h;simp at h;exact⟨fs,g,e,hg,h.symm⟩
 ·cases h
theorem Uf (h:Br N w0 X0 Y β s a w){t:TypeId}{x:Operand}{f:Nat}(ho:o.op=.fieldAddr t x f){K:PV->Option R}
  (hk:(Db (Kt P t f) fun q=>Ar (Nat.ble 1 (Aq P q.2)) (My (A7 s.tm x) q.1 K))=some r):∃v,K v=some r∧Ct P a w o Y β s v [] []:=by
 obtain⟨q,hq,hk⟩:=Bn hk;obtain⟨hs,hk⟩:=Ae hk;obtain⟨fs,g,hu,hg,rfl⟩:=Rg hq;have hs:1<=Aq P g.type:=Nat.le_of_ble_eq_true hs;have Iv:=RY (P:=P) (t:=g.type) rfl (by omega)
 refine Pk h hk fun ad B0=>?_
 unfold execOp;rw[ho];have Hh:¬Aq P g.type=0:=by omega
 simp[Instr.fieldAt,run_underlying hu,hg,Instr.sureAddr,B0,fieldPlace,G6 Iv,Hh]
end
open Go.RowKit
section
variable {R:Type} {r:R} {P:Program} {N:Nat} {w0:World} {X0:E6} {Y:Nat->Prop} {β β':Bt} {s:St} {a:Act} {w w':World} {o:Oper} {A:Nat->Prop}
theorem V8 (h:Br N w0 X0 Y β s a w){t:TypeId}{cs:List PV}{vs:List Value}{off:Nat}{K:PV->Option R}{x:Operand}(hx:A7 s.tm x=.agg cs)(hv:Au (A6 w (Bz s.hp β Y) β) cs vs)
  (hk:Ar (Fu P t) (Kb (E9 P t) cs off fun c=>LN (A8 P t) c K)=some r)
  (Bp:∀val,(part t ⟨vs⟩ off).run P w=.ok val w->(execOp a.eval o).run P w=.ok (.value val) w):∃v,K v=some r∧Ct P a w o Y β s v [] []:=by
 obtain⟨Jk,hk⟩:=Ae hk;obtain⟨⟨d,hd⟩,hl,hi⟩:=Kz Jk;obtain⟨qs,hk,hql,R8,hq⟩:=M2 hk;have Xe:=C5 h x;rw[hx] at Xe
 have hcell:∀(j:Nat) q,qs[j]?=some q->∃v,vs[off+j]?=some v∧A6 w (Bz s.hp β Y) β q v:=by
  intro j q hj;obtain⟨p,hp,_,_,Sw⟩:=hq j q hj;obtain⟨v,Jy,hc⟩:=hv.get hp;exact⟨v,Jy,(Sw _ _ _ _ hc).1⟩
 have Pc:∀q∈qs,∀i∈Ai q,s.hp i≠none:=by
  intro q hqm i hi;obtain⟨j,hj⟩:=List.mem_iff_getElem?.1 hqm;obtain⟨p,hp,_,hpr,_⟩:=hq j q hj;exact Xe i (List.mem_flatMap.2 ⟨p,List.mem_of_getElem? hp,hpr i hi⟩)
 rcases Z8 hk with⟨Dy,Dc⟩|⟨Dy,q,rfl,Dc⟩
 ·have Re:Aq P t=0∨off+Aq P t<=vs.length:=by
   rcases Nat.eq_zero_or_pos (Aq P t) with h0|h0
   ·exact .inl h0
   ·obtain⟨v,Jy,_⟩:=hcell (Aq P t-1) _ (List.getElem?_eq_getElem (by omega))
    have:off+(Aq P t-1)<vs.length:=by
     rcases Nat.lt_or_ge (off+(Aq P t-1)) vs.length with h|h
     ·exact h
     ·rw[List.getElem?_eq_none h] at Jy;cases Jy
    exact .inr (by omega)
  refine⟨_,Dc,Ba (Bp (.agg ⟨(vs.drop off).take (Aq P t)⟩) ?_) ⟨(vs.drop off).take (Aq P t),rfl,?_⟩ fun i hi=>?_⟩
  ·simp only[part,Sem.run_bind,Iq hd,Dy,Result.andThen_ok,if_true,G6 hi];simp[List.extract_eq_take_drop]
  ·refine Au.of_at ?_ fun i c u hc hu=>?_
   ·simp only[List.length_take,List.length_drop];omega
   ·obtain⟨v,Jy,Tg⟩:=hcell i c hc
    have Bl:i<Aq P t:=by
     rcases Nat.lt_or_ge i qs.length with h|h
     ·omega
     ·rw[List.getElem?_eq_none h] at hc;cases hc
    rw[List.getElem?_take_of_lt Bl,List.getElem?_drop,Jy] at hu;cases hu;exact Tg
  ·obtain⟨q,hqm,hi⟩:=List.mem_flatMap.1 (show i∈qs.flatMap Ai from hi)
   exact Pc q hqm i hi
 ·obtain⟨v,Jy,Tg⟩:=hcell 0 q rfl;have hn:=R8 q (by simp)
  refine⟨_,Dc,Ba (Bp v ?_) ((Ly hn.2).2 ((Rc hn.1).2 Tg)) fun i hi=>?_⟩
  ·simp only[part,Sem.run_bind,Iq hd,Dy,Result.andThen_ok];rw[Nat.add_zero] at Jy;simp[Jy]
  ·rw[JG hn.1 hn.2] at hi;exact Pc q (by simp) i hi
theorem FJ (h:Br N w0 X0 Y β s a w){t:TypeId}{x:Operand}{f:Nat}(ho:o.op=.field t x f){K:PV->Option R}
  (hk:(Db (Kt P t f) fun q=>Ar (Fu P q.2)<|D6 (A7 s.tm x) fun cs=>Kb (E9 P q.2) cs q.1 fun c=>LN (A8 P q.2) c K)=some r):∃v,K v=some r∧Ct P a w o Y β s v [] []:=by
 obtain⟨q,hq,hk⟩:=Bn hk;obtain⟨Jk,hk⟩:=Ae hk;obtain⟨cs,hx,hk⟩:=Eu hk;obtain⟨fs,g,hu,hg,rfl⟩:=Rg hq;have hxv:=Bu h x;rw[hx] at hxv;obtain⟨vs,B0,hv⟩:=hxv;refine V8 (t:=g.type) (off:=g.offset) h hx hv (by rw[show Fu P g.type=true from Jk];exact hk) fun val hp=>?_
 unfold execOp;rw[ho];simp[Instr.field,run_underlying hu,hg,asAgg,B0,hp]
theorem Xo (h:Br N w0 X0 Y β s a w){x:Operand}{i:Nat}(ho:o.op=.extract x i){K:PV->Option R}
  (hk:(match A7 s.tm x with | .tup vs=>Db vs[i]? K|_=>none)=some r):∃v,K v=some r∧Ct P a w o Y β s v [] []:=by
 have hx:=Bu h x;have Xe:=C5 h x;split at hk
 ·rename_i ps e;rw[e] at hx Xe;obtain⟨p,hp,hk⟩:=Bn hk;obtain⟨vs,B0,hv⟩:=hx;obtain⟨v,Jy,Sw⟩:=hv.get hp
  have Abf:∀y,p ≠ .tup y:=by
   rintro y rfl
   have Alg:Ao _ _ (.tup y) v:=Sw;cases Alg
  refine⟨p,hk,Ba (val:=v) ?_ ((Ly Abf).2 Sw) fun id Ax=>Xe id ?_⟩
  ·unfold execOp;rw[ho];simp[Instr.extract,B0,Jy]
  ·refine List.mem_flatMap.2 ⟨p,List.mem_of_getElem? hp,?_⟩;cases p<;>first|exact Ax|exact absurd rfl (Abf _)
 ·cases hk
theorem D7 {es:Nat}{p:PV}{z:Bool}{n:Nat}{c:List PV}{v:Value}(hp:p=.lst z es n c∨(p=.sc (.slice none 0 0)∧z=true∧n=0∧c=[])) (hv:Cu w A β p v):
  (v=.slice none 0 0∧n=0∧c=[])∨(∃ad cap,v=.slice (some ad) n cap∧z=false∧n<=cap∧ad.spot=none∧ad.block<w.heap.size∧¬A ad.block∧CM w A ad c)∨∃ad cap,v=.slice (some ad) 0 cap∧z=false∧n=0∧c=[]:=by
 have Jy:A6 w A β p v:=by rcases hp with rfl|⟨rfl,_⟩<;>exact hv
 have ht:=P3 hp Jy;cases ht with
 |lnil=>exact .inl ⟨rfl,rfl,rfl⟩
 |lst _ _ _ ad cap f hs hb hA hn hc h1 hr=>exact .inr (.inl ⟨ad,cap,rfl,rfl,hn,hs,hb,hA,fun j q hj=>⟨f j,hc j q hj,h1 j q hj,hr j q hj⟩⟩)
 |lemp _ ad cap=>exact .inr (.inr ⟨ad,cap,rfl,rfl,rfl,rfl⟩)
theorem Uh (h:Br N w0 X0 Y β s a w){t:TypeId}{x i:Operand}(ho:o.op=.indexAddr t x i){K:PV->Option R}
  (hk:(B6 (A7 s.tm i) fun _ n=>Ha P t (A7 s.tm x) n K)=some r):∃v,K v=some r∧Ct P a w o Y β s v [] []:=by
 obtain⟨ik,n,hi,hk⟩:=B1 hk;have hai:=Bi h hi;have hx:=Bu h x;have Xe:=C5 h x;unfold Ha at hk;split at hk
 ·rename_i len e hu;obtain⟨hz,hk⟩:=Ae hk;obtain⟨hb,hk⟩:=Ae hk;simp only[Bool.and_eq_true,decide_eq_true_eq] at hb;obtain⟨inf,J7⟩:=Option.isSome_iff_exists.1 hz;refine Pk h hk fun ad B0=>?_
  unfold execOp;rw[ho];simp[Instr.indexAt,asIntOf,hai,B0,run_underlying hu,Instr.sureAddr,hb.1,hb.2,sizeOf,typeInfo,J7,Aq]
 ·rename_i e hu;obtain⟨hz,hk⟩:=Ae hk;obtain⟨inf,J7⟩:=Option.isSome_iff_exists.1 hz;have Iv:Aq P e=inf.size:=by simp[Aq,J7]
  split at hk
  ·rename_i id es off n' e';rw[e'] at hx Xe;obtain⟨Ra,hk⟩:=Ae hk;have Ra:=Nat.eq_of_beq_eq_true Ra;subst Ra;obtain⟨hb,hk⟩:=Ae hk;simp only[Bool.and_eq_true,decide_eq_true_eq] at hb;rcases hx with⟨_,_,rfl,_⟩|⟨b,ob,y,cap,hβ,B0,hy,_⟩
   ·omega
   ·have hy:y=ob+off:=by rcases hy with hy|⟨rfl,_⟩<;>omega
    subst hy;refine⟨_,hk,Ba (val:=.pointer (some ⟨b,ob+(off+n.toNat*Aq P e),none⟩)) ?_ ⟨b,ob,hβ,rfl⟩ Xe⟩;unfold execOp;rw[ho];simp[Instr.indexAt,asIntOf,hai,B0,run_underlying hu,hb.1,hb.2,sizeOf,typeInfo,J7,Iv,B9,Nat.add_assoc]
  ·obtain⟨z,n',c,hk,hp⟩:=Dh hk;obtain⟨hb,hk⟩:=Ae hk;simp only[Bool.and_eq_true,decide_eq_true_eq] at hb;rcases D7 hp hx with⟨_,rfl,_⟩|⟨ad,cap,B0,_,_,h1,h2,h3,h4⟩|⟨_,_,_,_,rfl,_⟩
   ·omega
   rotate_left
   ·omega
   ·refine⟨_,hk,Ba (val:=.pointer (some (ad.add (n.toNat*Aq P e)))) ?_ ⟨ad,rfl,h1,h2,h3,h4⟩ (by intro i hi;cases hi)⟩
    unfold execOp;rw[ho];simp[Instr.indexAt,asIntOf,hai,B0,run_underlying hu,hb.1,hb.2,sizeOf,typeInfo,J7,Iv]
 ·cases hk
theorem EL (h:Br N w0 X0 Y β s a w){t:TypeId}{x i:Operand}(ho:o.op=.index t x i){K:PV->Option R}
  (hk:(B6 (A7 s.tm i) fun _ n=>
   match P.underlying t with
   |some .string=>E7 (A7 s.tm x) fun s=>Ar (decide (0<=n)) (Db (s.data.toList[n.toNat]?) fun b=>K (.sc (.int .u8 b.toNat)))
   |some (.array len e)=>D6 (A7 s.tm x) fun cs=>Ar (decide (0<=n)&&decide (n<len)&&Fu P e) (Kb (E9 P e) cs (n.toNat*Aq P e) fun c=>LN (A8 P e) c K)
   |_=>none)=some r):∃v,K v=some r∧Ct P a w o Y β s v [] []:=by
 obtain⟨ik,n,hi,hk⟩:=B1 hk;have hai:=Bi h hi;split at hk
 ·rename_i hu;obtain⟨sb,hx,hk⟩:=Cb hk;have B0:=Bi h hx;obtain⟨h0,hk⟩:=Ae hk;obtain⟨b,hb,hk⟩:=Bn hk;have h0:=of_decide_eq_true h0;refine⟨_,hk,Bm ?_⟩
  have Bl:n.toNat<sb.size:=by
   rcases Nat.lt_or_ge n.toNat sb.data.toList.length with h|h
   ·simpa using h
   ·rw[List.getElem?_eq_none h] at hb;cases hb
  have E1:sb[n.toNat]=b:=by
   have:sb.data.toList[n.toNat]?=some sb[n.toNat]:=by
    rw[List.getElem?_eq_getElem (by simpa using Bl)]
    rfl
   rw[hb] at this;injection this with this;exact this.symm
  unfold execOp;rw[ho];simp[Instr.index,asIntOf,hai,B0,run_underlying hu,h0,Bl,E1]
 ·rename_i len e hu;obtain⟨cs,hx,hk⟩:=Eu hk;obtain⟨hb,hk⟩:=Ae hk;simp only[Bool.and_eq_true,decide_eq_true_eq] at hb;have hxv:=Bu h x;rw[hx] at hxv;obtain⟨vs,B0,hv⟩:=hxv;obtain⟨_,_,Iv⟩:=Kz hb.2;refine V8 (t:=e) (off:=n.toNat*Aq P e) h hx hv (by rw[hb.2];exact hk) fun val hp=>?_
  unfold execOp;rw[ho];simp[Instr.index,asIntOf,hai,B0,run_underlying hu,hb.1.1,hb.1.2,G6 Iv,hp]
 ·cases hk
end
open Go.RowKit
section
variable {R:Type} {r:R} {P:Program} {N:Nat} {w0:World} {X0:E6} {Y:Nat->Prop} {β β':Bt} {s:St} {a:Act} {w w':World} {o:Oper} {A:Nat->Prop}
theorem Ce (h:Br N w0 X0 Y β s a w){x:Option Operand}{dflt:Nat}{K:Nat->Option R}(hk:El (x.map (A7 s.tm)) dflt K=some r):
  ∃l,K l=some r∧((x=none∧l=dflt)∨∃y k,x=some y∧a.eval y=.int k (l:Int)):=by
 cases x with
 |none=>exact⟨dflt,hk,.inl ⟨rfl,rfl⟩⟩
 |some y=>
  obtain⟨k,i,hi,hk⟩:=B1 (show B6 (A7 s.tm y) _=some r from hk)
  obtain⟨h0,hk⟩:=Ae hk;have h0:=of_decide_eq_true h0;exact⟨i.toNat,hk,.inr ⟨y,k,rfl,by rw[Bi h hi,Int.toNat_of_nonneg h0]⟩⟩
theorem Fj {lo hi:Option Operand}{isS:Bool}{len cap l u:Nat}(hl:(lo=none∧l=0)∨∃y k,lo=some y∧a.eval y=.int k (l:Int))
  (hu:(hi=none∧u=len)∨∃y k,hi=some y∧a.eval y=.int k (u:Int)) (h1:l<=u)(h2:u<=cap):
  (Instr.sliceBounds isS len cap (lo.map a.eval) (hi.map a.eval) none).run P w=.ok (l,u,cap) w:=by
 rcases hl with⟨rfl,rfl⟩|⟨y,k,rfl,hy⟩<;>rcases hu with⟨rfl,rfl⟩|⟨y',k',rfl,hy'⟩
 ·simp[Instr.sliceBounds]
 ·simp[Instr.sliceBounds,Instr.sliceBound,asIntOf,hy',h2]
 ·simp[Instr.sliceBounds,Instr.sliceBound,asIntOf,hy,h1]
 ·simp[Instr.sliceBounds,Instr.sliceBound,asIntOf,hy,hy',h1,h2]
theorem Bo {e:TypeId}(h:(P.info? e).isSome=true) (w:World):(sizeOf e).run P w=.ok (Aq P e) w:=by
 obtain⟨i,hi⟩:=Option.isSome_iff_exists.1 h;exact G6 (by simp[Aq,hi]) w
theorem Qj {b j:Nat}{v:Value}(h:w.cell? ⟨b,j,none⟩=some v):j<bsz w b:=by
 unfold World.cell? at h;unfold bsz;split at h
 ·rename_i c e fz hb;simp only at hb;rw[hb];simp only[Option.isSome_none,Bool.false_eq_true,if_false] at h;rcases Nat.lt_or_ge j c.size with Bl|QF
  ·exact Bl
  ·rw[Array.getElem?_eq_none QF] at h;cases h
 ·cases h
theorem FY (h:Br N w0 X0 Y β s a w){t:TypeId}{x:Operand}{lo hi:Option Operand}(ho:o.op=.slice t x lo hi none){K:PV->Option R}
  (hk:Sb P (rd s.hp) t (A7 s.tm x) (lo.map (A7 s.tm)) (hi.map (A7 s.tm)) K=some r):∃v,K v=some r∧Ct P a w o Y β s v [] []:=by
 have hx:=Bu h x;have Xe:=C5 h x;unfold Sb at hk;split at hk
 ·rename_i hu;obtain⟨sb,Xj,hk⟩:=Cb hk;have B0:=Bi h Xj;obtain⟨l,hk,hl⟩:=Ce h hk;obtain⟨u,hk,Fz⟩:=Ce h hk;obtain⟨hb,hk⟩:=Ae hk;simp only[Bool.and_eq_true,decide_eq_true_eq] at hb;refine⟨_,hk,Bm ?_⟩;unfold execOp;rw[ho];simp[Instr.sliceAt,Instr.slice,run_underlying hu,B0,Fj hl Fz hb.1 hb.2]
 ·rename_i e hu;obtain⟨J7,hk⟩:=Ae hk;split at hk
  ·rename_i id es off n e';rw[e'] at hx Xe;obtain⟨Ra,hk⟩:=Ae hk;have Ra:=Nat.eq_of_beq_eq_true Ra;subst Ra;obtain⟨l,hk,hl⟩:=Ce h hk;obtain⟨u,hk,Fz⟩:=Ce h hk;obtain⟨hb,hk⟩:=Ae hk;simp only[Bool.and_eq_true,decide_eq_true_eq] at hb;rcases hx with⟨hβ,rfl,rfl,ad,B0⟩|⟨b,ob,y,cap,hβ,B0,hy,hn,Oc,Bl⟩
   ·have hu0:u=0:=by omega
    have UL:l=0:=by omega
    subst hu0 UL;refine⟨_,hk,Ba (val:=.slice ad 0 0) ?_ (.inl ⟨hβ,by simp,rfl,ad,rfl⟩) Xe⟩
    unfold execOp;rw[ho];cases ad<;>simp[Instr.sliceAt,Instr.slice,run_underlying hu,B0,Fj hl Fz (Nat.le_refl 0) (Nat.le_refl 0),Bo J7]
   ·have Bp:(execOp a.eval o).run P w=.ok (.value (.slice (some (if cap=l then ⟨b,y,none⟩ else ⟨b,y+l*Aq P e,none⟩)) (u-l) (cap-l))) w:=by
     unfold execOp;rw[ho];have CY:=Fj (P:=P) (w:=w) (isS:=true) hl Fz hb.1 (Nat.le_trans hb.2 hn);simp[Instr.sliceAt,Instr.slice,run_underlying hu,B0,CY,Bo J7,B9];split<;>rfl
    refine⟨_,hk,Ba Bp (.inr ?_) Xe⟩;by_cases hc:cap=l
    ·rw[if_pos hc];refine⟨b,ob,y,cap-l,hβ,rfl,?_,by omega,⟨by rw[hc,Nat.sub_self];have:=Oc.1;omega,Oc.2⟩,Bl⟩
     by_cases h0:l*Aq P e=0
     ·rw[h0,Nat.add_zero];rcases hy with hy|⟨GV,J9⟩
      ·exact .inl hy
      ·exact .inr ⟨by omega,J9⟩
     ·exact .inr ⟨by omega,by omega⟩
    ·rw[if_neg hc];refine⟨b,ob,y+l*Aq P e,cap-l,hβ,rfl,?_,by omega,?_,Bl⟩
     ·rcases hy with hy|⟨GV,J9⟩
      ·exact .inl (by omega)
      ·exact .inr ⟨by omega,by omega⟩
     ·have:l*Aq P e+(cap-l)*Aq P e=cap*Aq P e:=by
       rw[←Nat.add_mul]
       congr 1
       omega
      have:=Oc.1;exact⟨by omega,Oc.2⟩
  ·obtain⟨z,n,c,hk,hp⟩:=Dh hk;obtain⟨l,hk,hl⟩:=Ce h hk;obtain⟨u,hk,Fz⟩:=Ce h hk;obtain⟨hb,hk⟩:=Ae hk;simp only[Bool.and_eq_true,decide_eq_true_eq] at hb;rcases D7 hp hx with⟨B0,rfl,rfl⟩|⟨ad,cap,B0,rfl,hn,h1,h2,h3,h4⟩|⟨ad,cap,B0,rfl,rfl,rfl⟩
   rotate_right
   ·have hu0:u=0:=by omega
    have UL:l=0:=by omega
    subst hu0 UL;refine⟨_,hk,Ba (val:=.slice (some (if cap=0 then ad else ad.add (0*Aq P e))) (0-0) (cap-0)) ?_ ?_ (by intro i hi;cases hi)⟩
    ·unfold execOp;rw[ho];have CY:=Fj (P:=P) (w:=w) (isS:=true) hl Fz (Nat.le_refl 0) (Nat.zero_le cap);simp[Instr.sliceAt,Instr.slice,run_underlying hu,B0,CY,Bo J7];split<;>rfl
    ·have:((([]:List PV).drop (0*Aq P e)).take ((0-0)*Aq P e))=[]:=by simp
     rw[this];exact Ao.lemp _ _ _
   ·have hu0:u=0:=by omega
    have UL:l=0:=by omega
    subst hu0 UL;refine⟨_,hk,Ba (val:=.slice none 0 0) ?_ ?_ (by intro i hi;cases hi)⟩
    ·unfold execOp;rw[ho];simp[Instr.sliceAt,Instr.slice,run_underlying hu,B0,Fj hl Fz (Nat.le_refl 0) (Nat.le_refl 0),Bo J7]
    ·have:((([]:List PV).drop (0*Aq P e)).take ((0-0)*Aq P e))=[]:=by simp
     rw[this];exact Ao.lnil z _
   ·have Bp:(execOp a.eval o).run P w=.ok (.value (.slice (some (if cap=l then ad else ad.add (l*Aq P e))) (u-l) (cap-l))) w:=by
     unfold execOp;rw[ho];have CY:=Fj (P:=P) (w:=w) (isS:=true) hl Fz hb.1 (Nat.le_trans hb.2 hn);simp[Instr.sliceAt,Instr.slice,run_underlying hu,B0,CY,Bo J7];split<;>rfl
    refine⟨_,hk,Ba Bp ?_ (by intro i hi;cases hi)⟩
    by_cases hc:cap=l
    ·rw[if_pos hc];have:u-l=0:=by omega
     rw[this];simp only[Nat.zero_mul,List.take_zero];exact Ao.lst _ _ [] ad _ (fun _=>undef) h1 h2 h3 (by omega) (by simp) (by simp) (by simp)
    ·rw[if_neg hc]
     have hcell:∀(j:Nat) q,((c.drop (l*Aq P e)).take ((u-l)*Aq P e))[j]?=some q->c[l*Aq P e+j]?=some q:=by
      intro j q hq;rw[List.getElem?_take] at hq;split at hq
      ·rw[List.getElem?_drop] at hq;exact hq
      ·cases hq
     refine Ao.lst _ _ _ (ad.add (l*Aq P e)) _ (fun j=>(w.cell? (ad.add (l*Aq P e+j))).getD undef) (UG h1 _) (by rw[Dv];exact h2) (by rw[Dv];exact h3) (by omega) (fun j q hq=>?_) (fun j q hq=>?_) (fun j q hq=>?_)
     ·obtain⟨v,hv,_⟩:=h4 _ q (hcell j q hq);rw[add_add,hv];rfl
     ·obtain⟨v,hv,h5,_⟩:=h4 _ q (hcell j q hq);rw[hv];exact h5
     ·obtain⟨v,hv,_,ht⟩:=h4 _ q (hcell j q hq);rw[hv];exact ht
 ·rename_i n e hu;obtain⟨J7,hk⟩:=Ae hk;split at hk
  ·rename_i id off e';rw[e'] at hx Xe;obtain⟨c,hrc,hk⟩:=Bn hk;obtain⟨C3,hk⟩:=Ae hk;simp only[Bool.and_eq_true,decide_eq_true_eq] at C3;have Ra:=Nat.eq_of_beq_eq_true C3.2
   replace C3:=C3.1
   obtain⟨l,hk,hl⟩:=Ce h hk;obtain⟨u,hk,Fz⟩:=Ce h hk;obtain⟨hb,hk⟩:=Ae hk;simp only[Bool.and_eq_true,decide_eq_true_eq] at hb;obtain⟨b,ob,hβ,B0⟩:=hx
   have Xg:ob+off+n*Aq P e<=bsz w b:=by
    obtain⟨v,hv,_⟩:=W5 h hrc hβ (j:=off+n*Aq P e-1) (List.getElem?_eq_getElem (by omega))
    have:=Qj hv;omega
   have Bl:b<w.heap.size:=h.blt id b ob (Xe id (by simp[A5,Bf,Ai])) hβ
   have Bp:(execOp a.eval o).run P w=.ok (.value (.slice (some (if n=l then ⟨b,ob+off,none⟩ else ⟨b,ob+off+l*Aq P e,none⟩)) (u-l) (n-l))) w:=by
    unfold execOp;rw[ho];have CY:=Fj (P:=P) (w:=w) (isS:=false) hl Fz hb.1 hb.2;simp[Instr.sliceAt,Instr.sureAddr,run_underlying hu,B0,CY,Bo J7,B9]
   refine⟨_,hk,Ba Bp (.inr ?_) Xe⟩;by_cases hc:n=l
   ·rw[if_pos hc];refine⟨b,ob,ob+off,n-l,hβ,rfl,?_,by omega,⟨by rw[hc,Nat.sub_self];omega,.inl Ra⟩,Bl⟩
    by_cases h0:l*Aq P e=0
    ·rw[h0,Nat.add_zero];exact .inl rfl
    ·exact .inr ⟨by omega,by omega⟩
   ·rw[if_neg hc];refine⟨b,ob,ob+off+l*Aq P e,n-l,hβ,rfl,.inl (by omega),by omega,?_,Bl⟩
    have:l*Aq P e+(n-l)*Aq P e=n*Aq P e:=by
     rw[←Nat.add_mul]
     congr 1
     omega
    exact⟨by omega,.inl Ra⟩
  ·cases hk
 ·cases hk
end
open Go.RowKit
section
variable {R:Type} {r:R} {P:Program} {N:Nat} {w0:World} {X0:E6} {Y:Nat->Prop} {β β':Bt} {s:St} {a:Act} {w w':World} {o:Oper} {A:Nat->Prop}
theorem QA (h:Br N w0 X0 Y β s a w){c:Call}(ho:o.op=.call c)(hc:c.callee=.builtin .len){K:PV->Option R}
  (hk:(Ab c.args.toList fun x _=>Ab c.argTypes.toList fun t _=>PM P t (A7 s.tm x) fun n=>K (.sc (.int .i64 n)))=some r):∃v,K v=some r∧Ct P a w o Y β s v [] []:=by
 obtain⟨x,xs,Xj,hk⟩:=Ap hk;obtain⟨t,ts,ZH,hk⟩:=Ap hk;have hx:=Bu h x;have C4:c.args=(x::xs).toArray:=by rw[←Xj]
 have Ty:c.argTypes=(t::ts).toArray:=by rw[←ZH]
 have Bp:∀n:Nat,(Builtin.len_ c.argTypes o.type (c.args.map a.eval)).run P w=.ok (.int .i64 n) w->(execOp a.eval o).run P w=.ok (.value (.int .i64 n)) w:=by
  intro n hl;unfold execOp;rw[ho];simp only[resolve,hc,invoke,builtin,Sem.run_bind,Sem.run_pure,Result.andThen_ok,hl]
 unfold PM at hk;split at hk
 ·rename_i hu;obtain⟨sb,Ajs,hk⟩:=Cb hk;have B0:=Bi h Ajs;refine⟨_,hk,Bm (Bp _ ?_)⟩;simp[Builtin.len_,C4,Ty,run_underlying hu,B0,goInt]
 ·rename_i n e hu;refine⟨_,hk,Bm (Bp _ ?_)⟩;simp[Builtin.len_,C4,Ty,run_underlying hu,goInt]
 ·rename_i e hu;split at hk
  ·rename_i id es off n e';rw[e'] at hx;obtain⟨_,hk⟩:=Ae hk;refine⟨_,hk,Bm (Bp _ ?_)⟩;rcases hx with⟨_,_,rfl,ad,B0⟩|⟨b,ob,y,cap,_,B0,_⟩<;>simp[Builtin.len_,C4,Ty,run_underlying hu,B0,goInt]
  ·obtain⟨z,n,cc,hk,hp⟩:=Dh hk;refine⟨_,hk,Bm (Bp _ ?_)⟩;rcases D7 hp hx with⟨B0,rfl,_⟩|⟨ad,cap,B0,_⟩|⟨ad,cap,B0,_,rfl,_⟩<;>simp[Builtin.len_,C4,Ty,run_underlying hu,B0,goInt]
 ·cases hk
theorem OK (h:Br N w0 X0 Y β s a w){c:Call}(ho:o.op=.call c)(hc:c.callee=.builtin .cap){K:PV->Option R}
  (hk:(Ab c.args.toList fun x _=>Ab c.argTypes.toList fun t _=>OV P t (A7 s.tm x) fun n=>K (.sc (.int .i64 n)))=some r):∃v,K v=some r∧Ct P a w o Y β s v [] []:=by
 obtain⟨x,xs,Xj,hk⟩:=Ap hk;obtain⟨t,ts,ZH,hk⟩:=Ap hk;have hx:=Bu h x;have C4:c.args=(x::xs).toArray:=by rw[←Xj]
 have Ty:c.argTypes=(t::ts).toArray:=by rw[←ZH]
 have Bp:∀n:Nat,(Builtin.cap_ c.argTypes o.type (c.args.map a.eval)).run P w=.ok (.int .i64 n) w->(execOp a.eval o).run P w=.ok (.value (.int .i64 n)) w:=by
  intro n hl;unfold execOp;rw[ho];simp only[resolve,hc,invoke,builtin,Sem.run_bind,Sem.run_pure,Result.andThen_ok,hl]
 unfold OV at hk;split at hk
 ·rename_i e hu;obtain⟨z,n,cc,hk,hp⟩:=Dh hk;obtain⟨hz,hk⟩:=Ae hk;refine⟨_,hk,Bm (Bp _ ?_)⟩;rcases D7 hp hx with⟨B0,rfl,_⟩|⟨ad,cap,B0,Vc,_⟩|⟨ad,cap,B0,Vc,_,_⟩
  ·simp[Builtin.cap_,C4,Ty,run_underlying hu,B0,goInt]
  ·rw[hz] at Vc;cases Vc
  ·rw[hz] at Vc;cases Vc
 ·cases hk
theorem PP (h:Br N w0 X0 Y β s a w){c:Call}(ho:o.op=.call c)(hc:c.callee=.builtin .min){K:PV->Option R}
  (hk:(Ab c.args.toList fun x r=>Ab r fun y r'=>Ah r' (ZC (A7 s.tm x) (A7 s.tm y) K))=some r):∃v,K v=some r∧Ct P a w o Y β s v [] []:=by
 obtain⟨x,xs,Xj,hk⟩:=Ap hk;obtain⟨y,ys,rfl,hk⟩:=Ap hk;obtain⟨rfl,hk⟩:=B5 hk;obtain⟨k,n,hx,hk⟩:=B1 hk;obtain⟨m,hy,hk⟩:=Cs hk
 have C4:c.args = #[x,y]:=by
  have:c.args=([x,y]:List Operand).toArray:=by rw[←Xj]
  exact this
 refine⟨_,hk,Bm ?_⟩;unfold execOp;rw[ho];simp[resolve,hc,invoke,builtin,C4,Builtin.min_,Builtin.min2,Bi h hx,Bi h hy]
theorem NU (h:Br N w0 X0 Y β s a w){c:Call}(ho:o.op=.call c)(hc:c.callee=.builtin .max){K:PV->Option R}
  (hk:(Ab c.args.toList fun x r=>Ab r fun y r'=>Ah r' (XB (A7 s.tm x) (A7 s.tm y) K))=some r):∃v,K v=some r∧Ct P a w o Y β s v [] []:=by
 obtain⟨x,xs,Xj,hk⟩:=Ap hk;obtain⟨y,ys,rfl,hk⟩:=Ap hk;obtain⟨rfl,hk⟩:=B5 hk;obtain⟨k,n,hx,hk⟩:=B1 hk;obtain⟨m,hy,hk⟩:=Cs hk
 have C4:c.args = #[x,y]:=by
  have:c.args=([x,y]:List Operand).toArray:=by rw[←Xj]
  exact this
 refine⟨_,hk,Bm ?_⟩;unfold execOp;rw[ho];simp[resolve,hc,invoke,builtin,C4,Builtin.max_,Builtin.max2,Bi h hx,Bi h hy]
theorem HP (h:Br N w0 X0 Y β s a w){op:UnOp}{t:TypeId}{x:Operand}(ho:o.op=.unOp op t x){K:PV->Option R}(hk:unK op (A7 s.tm x) K=some r):
  ∃v,K v=some r∧Ct P a w o Y β s v [] []:=by
 unfold unK at hk;split at hk
 ·obtain⟨b,hb,hk⟩:=Cd hk;refine⟨_,hk,Bm ?_⟩;unfold execOp;rw[ho];simp[Op.unary,Bi h hb]
 ·obtain⟨k,n,hb,hk⟩:=B1 hk;refine⟨_,hk,Bm ?_⟩;unfold execOp;rw[ho];simp[Op.unary,Op.intArith,Bi h hb]
 ·obtain⟨k,n,hb,hk⟩:=B1 hk;refine⟨_,hk,Bm ?_⟩;unfold execOp;rw[ho];simp[Op.unary,Op.intBits,Bi h hb,Ae5]
 ·cases hk
theorem MW {op:BinOp}{k:IntKind}{m n:Int}{t:TypeId}{x y:Operand}{K:PV->Option R}(WG:op ≠ .shl)(hs2:op ≠ .shr)(hk:Vw op k m n K=some r):
  ∃v,K (.sc v)=some r∧(do eqGuard op t x y (.int k m) (.int k n);binOp op t (.int k m) (.int k n)).run P w=.ok v w:=by
 cases op<;>first
  |exact absurd rfl WG
  |exact absurd rfl hs2
  |(obtain⟨hb,hk⟩:=Ae hk;have hb:=of_decide_eq_true hb;exact⟨_,hk,by simp[eqGuard,binOp,Op.intDiv,hb]⟩)
  |exact⟨_,hk,by simp[eqGuard,binOp,-BitVec.toNat_and,-BitVec.toNat_or,-BitVec.toNat_xor,-gt_iff_lt,-ge_iff_le]<;>rfl⟩
theorem NQ {op:BinOp}{m n:ByteArray}{t:TypeId}{x y:Operand}{K:PV->Option R}(hk:Vs op m n K=some r):
  ∃v,K (.sc v)=some r∧(do eqGuard op t x y (.string m) (.string n);binOp op t (.string m) (.string n)).run P w=.ok v w:=by
 cases op<;>first
  |cases hk
  |(obtain⟨hb,hk⟩:=Ae hk;have hb:=of_decide_eq_true hb;exact⟨_,hk,by
    have E1:¬(((m.size+n.size:Nat):Int)>IntKind.i64.max):=by
     have:IntKind.i64.max=9223372036854775807:=rfl;rw[this];omega
    simp only[eqGuard,binOp,Op.stringOp,if_neg E1];rfl⟩)
  |exact⟨_,hk,by simp only[eqGuard,binOp,Op.stringOp,ByteArray.toList_eq];rfl⟩
end
open Go.RowKit
section
variable {R:Type} {r:R} {P:Program} {N:Nat} {w0:World} {X0:E6} {Y:Nat->Prop} {β β':Bt} {s:St} {a:Act} {w w':World} {o:Oper} {A:Nat->Prop}
theorem Wq {t:TypeId}(hu:P.underlying t=some .bool)(x y:Bool):(Op.equal t (.bool x) (.bool y)).run P w=.ok (x==y) w:=by
 have h:∀d,(Op.equalIn (d+1) t (.bool x) (.bool y)).run P w=.ok (x==y) w:=fun d=>by simp[Op.equalIn,run_underlying hu]
 exact h 9999
theorem Nq {t e:TypeId}(hu:P.underlying t=some (.slice e)) (x:Option Addr)(n c:Nat):(Op.equal t (.slice x n c) (.slice none 0 0)).run P w=.ok x.isNone w:=by
 have h:∀d,(Op.equalIn (d+1) t (.slice x n c) (.slice none 0 0)).run P w=.ok x.isNone w:=fun d=>by
  cases x<;>simp[Op.equalIn,run_underlying hu]
 exact h 9999
theorem Fs {t:TypeId}(d:Nat){v u:Value}(hv:(∃k m n,P.underlying t=some (.int k)∧v=.int k m∧u=.int k n)∨(∃m n,P.underlying t=some .bool∧v=.bool m∧u=.bool n)∨∃m n,P.underlying t=some .string∧v=.string m∧u=.string n) {b:Bool}
  (hb:∀k m n,v=.int k m->u=.int k n->b=(m==n)) (E1:∀m n,v=.bool m->u=.bool n->b=(m==n)) (Ako:∀m n,v=.string m->u=.string n->b=(m==n)):(Op.equalIn (d+1) t v u).run P w=.ok b w:=by
 rcases hv with⟨k,m,n,hu,rfl,rfl⟩|⟨m,n,hu,rfl,rfl⟩|⟨m,n,hu,rfl,rfl⟩
 ·rw[hb k m n rfl rfl];simp[Op.equalIn,run_underlying hu]
 ·rw[E1 m n rfl rfl];simp[Op.equalIn,run_underlying hu]
 ·rw[Ako m n rfl rfl];simp[Op.equalIn,run_underlying hu]
theorem L7 {t:TypeId}{dsc:TypeDesc}(hu:P.underlying t=some dsc)(hd:A8 P t=false){xs:Array Value}{i:Nat}{v:Value}(hv:xs[i]?=some v):(part t xs i).run P w=.ok v w:=by
 simp only[part,Sem.run_bind,Iq hu,hd,Result.andThen_ok];simp[hv]
theorem Zr (k:IntKind)(n:Int)(K:Int->Option R):Ag k (.sc (.int k n)) K=K n:=by simp[Ag]
theorem EW (d : Nat) : ∀ (fs : List Field) (i : Nat) (xs ys : Array Value) (ps qs : List PV) (K : Bool -> Option R), FK P fs i = true -> Hv (fs.map (UO P)) ps qs K = some r ->
    (∀ (j : Nat) p, ps[j]? = some p -> ∃ v, xs[i + j]? = some v ∧ A6 w A β p v) -> (∀ (j : Nat) p, qs[j]? = some p -> ∃ v, ys[i + j]? = some v ∧ A6 w A β p v) ->
    ∃ b, K b = some r ∧ (forIn fs ((none, ()) : Option Bool × Unit) fun (f : Field) (_ : Option Bool × Unit) =>
            if f.name = "_" then pure (ForInStep.yield ((none, ()) : Option Bool × Unit))
            else do
              let x ← part f.type xs f.offset
              let y ← part f.type ys f.offset
              let e ← Op.equalIn (d + 1) f.type x y
              if e = false then pure (ForInStep.done ((some false, ()) : Option Bool × Unit)) else pure (ForInStep.yield ((none, ()) : Option Bool × Unit)) : Sem (Option Bool × Unit)).run P w = .ok (if b then (none, ()) else (some false, ())) w
  | [], i, xs, ys, ps, qs, K, _, hk, _, _ => by
    cases ps with
    | nil => cases qs with
      | nil => exact⟨true, hk, by simp⟩
      | cons q qs => cases hk
    | cons p ps => cases hk
  | f :: fs, i, xs, ys, ps, qs, K, Y4, hk, hp, hq => by
    simp only[FK, Bool.and_eq_true] at Y4
    obtain⟨⟨⟨J9, RX⟩, hty⟩, O4⟩ := Y4
    have J9 := Nat.eq_of_beq_eq_true J9
    have Wh : f.name ≠ "_" := by simpa using RX
    cases ps with
    | nil =>
      simp only[List.map_cons] at hk
      cases Acj : UO P f <;> rw[Acj] at hk <;> cases hk
    | cons p ps =>
      cases qs with
      | nil =>
        simp only[List.map_cons] at hk
        cases Acj : UO P f <;> rw[Acj] at hk <;> cases hk
      | cons q qs =>
        obtain⟨v, hv, Sw⟩ := hp 0 p rfl
        obtain⟨u, hu, hqu⟩ := hq 0 q rfl
        rw[Nat.add_zero] at hv hu
        have main : ∃ b0 dsc, P.underlying f.type = some dsc ∧ A8 P f.type = false ∧ (Op.equalIn (d + 1) f.type v u).run P w = .ok b0 w ∧ Hv (fs.map (UO P)) ps qs (fun r => K (b0 && r)) = some r := by
          simp only[List.map_cons] at hk
          unfold UO at hk
          split at hk
          · rename_i k Gk
            obtain⟨m, Zd, Cn⟩ := Cs (show Ag k p _ = some r from hk)
            obtain⟨n, Xh, Dc⟩ := Cs Cn
            subst Zd Xh
            have Jy : v = .int k m := Ao.val (w := w) (A := A) Sw
            have Fz : u = .int k n := Ao.val (w := w) (A := A) hqu
            subst Jy Fz
            refine⟨m == n, _, Gk, by simp[A8, Gk], Fs d (.inl ⟨k, m, n, Gk, rfl, rfl⟩) ?_ ?_ ?_, Dc⟩
            · intro k' m' n' h1 h2; injection h1 with _ h1; injection h2 with _ h2; rw[h1, h2]
            · intro m' n' h1; cases h1
            · intro m' n' h1; cases h1
          · rename_i Gk
            obtain⟨m, Zd, Cn⟩ := Cd (show A4 p _ = some r from hk)
            obtain⟨n, Xh, Dc⟩ := Cd Cn
            subst Zd Xh
            have Jy : v = .bool m := Ao.val (w := w) (A := A) Sw
            have Fz : u = .bool n := Ao.val (w := w) (A := A) hqu
            subst Jy Fz
            refine⟨m == n, _, Gk, by simp[A8, Gk], Fs d (.inr (.inl ⟨m, n, Gk, rfl, rfl⟩)) ?_ ?_ ?_, Dc⟩
            · intro k' m' n' h1; cases h1
            · intro m' n' h1 h2; injection h1 with h1; injection h2 with h2; rw[h1, h2]
            · intro m' n' h1; cases h1
          · rename_i Gk
            obtain⟨m, Zd, Cn⟩ := Cb (show E7 p _ = some r from hk)
            obtain⟨n, Xh, Dc⟩ := Cb Cn
            subst Zd Xh
            have Jy : v = .string m := Ao.val (w := w) (A := A) Sw
            have Fz : u = .string n := Ao.val (w := w) (A := A) hqu
            subst Jy Fz
            refine⟨m == n, _, Gk, by simp[A8, Gk], Fs d (.inr (.inr ⟨m, n, Gk, rfl, rfl⟩)) ?_ ?_ ?_, Dc⟩
            · intro k' m' n' h1; cases h1
            · intro m' n' h1; cases h1
            · intro m' n' h1 h2; injection h1 with h1; injection h2 with h2; rw[h1, h2]
          · cases hk
        obtain⟨b0, dsc, Gk, Dy, he, hk⟩ := main
        obtain⟨b, VI, Bp⟩ := EW d fs (i + 1) xs ys ps qs _ O4 hk (fun j p' hj => by have := hp (j + 1) p' hj; rwa [Nat.add_assoc, Nat.add_comm 1 j]) (fun j p' hj => by have := hq (j + 1) p' hj; rwa [Nat.add_assoc, Nat.add_comm 1 j])
        refine⟨b0 && b, VI, ?_⟩
        have hpx : (part f.type xs f.offset).run P w = .ok v w := L7 Gk Dy (by rw[J9]; exact hv)
        have hpy : (part f.type ys f.offset).run P w = .ok u w := L7 Gk Dy (by rw[J9]; exact hu)
        cases b0
        · simp[List.forIn_cons, Wh, hpx, hpy, he]
        · simp only[Bool.true_and]
          rw[← Bp]
          simp[List.forIn_cons, Wh, hpx, hpy, he]
theorem Tz (d:Nat){t:TypeId}{fs:Array Field}(hu:P.underlying t=some (.struct fs)) (Jf:P.stoodInHeld t=false)(Y4:FK P fs.toList 0=true){xs ys:List PV}{vx vy:List Value}
  (ZQ:Au (A6 w A β) xs vx) (hvy:Au (A6 w A β) ys vy) {K:Bool->Option R}(hk:Hv (fs.toList.map (UO P)) xs ys K=some r):
  ∃b,K b=some r∧(Op.equalIn (d+2) t (.agg ⟨vx⟩) (.agg ⟨vy⟩)).run P w=.ok b w:=by
 obtain⟨b,VI,Bp⟩:=EW (P:=P) (w:=w) (A:=A) (β:=β) d fs.toList 0 ⟨vx⟩ ⟨vy⟩ xs ys K Y4 hk (fun j p hj=>by
   obtain⟨v,hv,hc⟩:=ZQ.get hj;exact⟨v,by simpa using hv,hc⟩) (fun j p hj=>by
   obtain⟨v,hv,hc⟩:=hvy.get hj;exact⟨v,by simpa using hv,hc⟩)
 refine⟨b,VI,?_⟩;rw[Array.forIn_toList] at Bp;rw[Op.equalIn];simp[run_underlying hu,Jf];rw[Bp];cases b<;>simp
theorem Rf:∀(ts1:List CT){ts2:List CT}{ps qs:List PV}{K:Bool->Option R},Hv (ts1++ts2) ps qs K=some r ->
  Hv ts1 (ps.take ts1.length) (qs.take ts1.length) (fun b=>Hv ts2 (ps.drop ts1.length) (qs.drop ts1.length) fun r'=>K (b&&r'))=some r
 |[],ts2,ps,qs,K,h=>by
  simp only[List.length_nil,List.take_zero,List.drop_zero,Hv,Bool.true_and];exact h
 |t::ts1,ts2,ps,qs,K,h=>by
  rw[List.cons_append] at h;cases ps with
  |nil=>cases t<;>cases h
  |cons p ps=>
   cases qs with
   |nil=>cases t<;>cases h
   |cons q qs=>
    simp only[List.length_cons,List.take_succ_cons,List.drop_succ_cons];cases t with
    |int k=>
     obtain⟨m,Zd,h1⟩:=Cs (show Ag k p _=some r from h)
     obtain⟨n,Xh,h2⟩:=Cs h1;subst Zd Xh;have:=Rf ts1 h2;simp only[←Bool.and_assoc] at this;exact (Zr _ _ _).trans ((Zr _ _ _).trans this)
    |bool=>
     obtain⟨m,Zd,h1⟩:=Cd (show A4 p _=some r from h)
     obtain⟨n,Xh,h2⟩:=Cd h1;subst Zd Xh;have:=Rf ts1 h2;simp only[←Bool.and_assoc] at this;exact this
    |str=>
     obtain⟨m,Zd,h1⟩:=Cb (show E7 p _=some r from h)
     obtain⟨n,Xh,h2⟩:=Cb h1;subst Zd Xh;have:=Rf ts1 h2;simp only[←Bool.and_assoc] at this;exact this
    |sl es=>cases h
    |any=>cases h
theorem FC:∀(ts:List CT){ps qs:List PV}{K:Bool->Option R},Hv ts ps qs K=some r->ps.length=ts.length∧qs.length=ts.length
 |[],ps,qs,K,h=>by
  cases ps with
  |nil=>cases qs with
   |nil=>exact⟨rfl,rfl⟩
   |cons q qs=>cases h
  |cons p ps=>cases h
 |t::ts,ps,qs,K,h=>by
  cases ps with
  |nil=>cases t<;>cases h
  |cons p ps=>
   cases qs with
   |nil=>cases t<;>cases h
   |cons q qs=>
    have go:∃K',Hv ts ps qs K'=some r:=by
     cases t with
     |int k=>
      obtain⟨m,Zd,h1⟩:=Cs (show Ag k p _=some r from h)
      obtain⟨n,Xh,h2⟩:=Cs h1;exact⟨_,h2⟩
     |bool=>
      obtain⟨m,Zd,h1⟩:=Cd (show A4 p _=some r from h)
      obtain⟨n,Xh,h2⟩:=Cd h1;exact⟨_,h2⟩
     |str=>
      obtain⟨m,Zd,h1⟩:=Cb (show E7 p _=some r from h)
      obtain⟨n,Xh,h2⟩:=Cb h1;exact⟨_,h2⟩
     |sl es=>cases h
     |any=>cases h
    obtain⟨K',h'⟩:=go;have:=FC ts h';exact⟨by simp[this.1],by simp[this.2]⟩
theorem EH {t:TypeId}{dsc:TypeDesc}(hu:P.underlying t=some dsc)(hd:A8 P t=true)(hi:(P.info? t).isSome=true) (xs:Array Value)(i:Nat):(part t xs i).run P w=.ok (.agg (xs.extract i (i+Aq P t))) w:=by
 simp only[part,Sem.run_bind,Iq hu,hd,Result.andThen_ok,if_true,Bo hi];rfl
theorem Yg {xs:Array Value}{i n:Nat}{ps:List PV}(hn:n<=ps.length)(hp:∀(j:Nat) p,ps[j]?=some p->∃v,xs[i+j]?=some v∧A6 w A β p v):Au (A6 w A β) (ps.take n) (xs.extract i (i+n)).toList:=by
 rcases Nat.eq_zero_or_pos n with h0|h0
 ·subst h0;simp[Au]
 have hl:n-1<ps.length:=by omega
 obtain⟨v,hv,_⟩:=hp (n-1) _ (List.getElem?_eq_getElem hl);have Iv:=(Array.getElem?_eq_some_iff.1 hv).1;refine Au.of_at (by simp;omega) fun j a b ha hb=>?_
 rw[List.getElem?_take] at ha;split at ha
 ·rename_i hj;obtain⟨v,hv,hc⟩:=hp j a ha;rw[Array.getElem?_toList,Array.getElem?_extract] at hb;split at hb
  ·rw[hv] at hb;cases hb;exact hc
  ·cases hb
 ·cases ha
theorem Tx {f:Field}{gs:Array Field}(hu:P.underlying f.type=some (.struct gs)):FH P f=gs.toList.map (UO P):=by unfold FH;rw[hu]
theorem JQ {f:Field}(h:∀gs,P.underlying f.type≠some (.struct gs)):FH P f=[UO P f]:=by
 unfold FH;split
 ·rename_i gs hu;exact absurd hu (h gs)
 ·rfl
theorem LT (d : Nat) : ∀ (fs : List Field) (i : Nat) (xs ys : Array Value) (ps qs : List PV) (K : Bool -> Option R), Jb P fs i = true -> Hv (O9 P fs) ps qs K = some r ->
    (∀ (j : Nat) p, ps[j]? = some p -> ∃ v, xs[i + j]? = some v ∧ A6 w A β p v) -> (∀ (j : Nat) p, qs[j]? = some p -> ∃ v, ys[i + j]? = some v ∧ A6 w A β p v) ->
    ∃ b, K b = some r ∧ (forIn fs ((none, ()) : Option Bool × Unit) fun (f : Field) (_ : Option Bool × Unit) =>
            if f.name = "_" then pure (ForInStep.yield ((none, ()) : Option Bool × Unit))
            else do
              let x ← part f.type xs f.offset
              let y ← part f.type ys f.offset
              let e ← Op.equalIn (d + 2) f.type x y
              if e = false then pure (ForInStep.done ((some false, ()) : Option Bool × Unit)) else pure (ForInStep.yield ((none, ()) : Option Bool × Unit)) : Sem (Option Bool × Unit)).run P w = .ok (if b then (none, ()) else (some false, ())) w
  | [], i, xs, ys, ps, qs, K, _, hk, _, _ => by
    cases ps with
    | nil => cases qs with
      | nil => exact⟨true, hk, by simp⟩
      | cons q qs => cases hk
    | cons p ps => cases hk
  | f :: fs, i, xs, ys, ps, qs, K, Y4, hk, hp, hq => by
    simp only[Jb, Bool.and_eq_true] at Y4
    obtain⟨⟨J9, RX⟩, hty⟩ := Y4
    have J9 := Nat.eq_of_beq_eq_true J9
    have Wh : f.name ≠ "_" := by simpa using RX
    have main : ∃ b0 v u n, (part f.type xs f.offset).run P w = .ok v w ∧ (part f.type ys f.offset).run P w = .ok u w ∧ (Op.equalIn (d + 2) f.type v u).run P w = .ok b0 w ∧ Jb P fs (i + n) = true ∧ Hv (O9 P fs) (ps.drop n) (qs.drop n) (fun r' => K (b0 && r')) = some r := by
      have hk := Rf (FH P f) (show Hv (FH P f ++ O9 P fs) ps qs K = some r from hk)
      have C3 := FC _ hk
      rw[List.length_take, List.length_take] at C3
      have plain : (∀ gs, P.underlying f.type ≠ some (.struct gs)) -> Jb P fs (i + 1) = true -> (match P.underlying f.type with | some (.int _) => true | some .bool => true | some .string => true | _ => false) = true ->
          ∃ b0 v u n, (part f.type xs f.offset).run P w = .ok v w ∧ (part f.type ys f.offset).run P w = .ok u w ∧ (Op.equalIn (d + 2) f.type v u).run P w = .ok b0 w ∧ Jb P fs (i + n) = true ∧ Hv (O9 P fs) (ps.drop n) (qs.drop n) (fun r' => K (b0 && r')) = some r := by
        intro hs Ad1 Ut
        rw[JQ hs] at hk C3
        simp only[List.length_singleton] at hk C3
        obtain⟨p, ps, rfl⟩ : ∃ p ps', ps = p :: ps' := by
          cases ps with
          | nil => simp at C3
          | cons p ps => exact⟨p, ps, rfl⟩
        obtain⟨q, qs, rfl⟩ : ∃ q qs', qs = q :: qs' := by
          cases qs with
          | nil => simp at C3
          | cons q qs => exact⟨q, qs, rfl⟩
        obtain⟨v, hv, Sw⟩ := hp 0 p rfl
        obtain⟨u, hu, hqu⟩ := hq 0 q rfl
        rw[Nat.add_zero] at hv hu
        simp only[List.take_succ_cons, List.take_zero, List.drop_succ_cons, List.drop_zero] at hk ⊢
        have one : ∃ b0 dsc, P.underlying f.type = some dsc ∧ A8 P f.type = false ∧ (Op.equalIn (d + 2) f.type v u).run P w = .ok b0 w ∧ Hv (O9 P fs) ps qs (fun r' => K (b0 && r')) = some r := by
          unfold UO at hk
          split at hk
          · rename_i k Gk
            obtain⟨m, Zd, Cn⟩ := Cs (show Ag k p _ = some r from hk)
            obtain⟨n, Xh, Dc⟩ := Cs Cn
            subst Zd Xh
            have Jy : v = .int k m := Ao.val (w := w) (A := A) Sw
            have Fz : u = .int k n := Ao.val (w := w) (A := A) hqu
            subst Jy Fz
            have e : ∀ b : Bool, (b && true) = b := Bool.and_true
            simp only[Hv, e] at Dc
            refine⟨m == n, _, Gk, by simp[A8, Gk], Fs (d + 1) (.inl ⟨k, m, n, Gk, rfl, rfl⟩) ?_ ?_ ?_, Dc⟩
            · intro k' m' n' h1 h2; injection h1 with _ h1; injection h2 with _ h2; rw[h1, h2]
            · intro m' n' h1; cases h1
            · intro m' n' h1; cases h1
          · rename_i Gk
            obtain⟨m, Zd, Cn⟩ := Cd (show A4 p _ = some r from hk)
            obtain⟨n, Xh, Dc⟩ := Cd Cn
            subst Zd Xh
            have Jy : v = .bool m := Ao.val (w := w) (A := A) Sw
            have Fz : u = .bool n := Ao.val (w := w) (A := A) hqu
            subst Jy Fz
            have e : ∀ b : Bool, (b && true) = b := Bool.and_true
            simp only[Hv, e] at Dc
            refine⟨m == n, _, Gk, by simp[A8, Gk], Fs (d + 1) (.inr (.inl ⟨m, n, Gk, rfl, rfl⟩)) ?_ ?_ ?_, Dc⟩
            · intro k' m' n' h1; cases h1
            · intro m' n' h1 h2; injection h1 with h1; injection h2 with h2; rw[h1, h2]
            · intro m' n' h1; cases h1
          · rename_i Gk
            obtain⟨m, Zd, Cn⟩ := Cb (show E7 p _ = some r from hk)
            obtain⟨n, Xh, Dc⟩ := Cb Cn
            subst Zd Xh
            have Jy : v = .string m := Ao.val (w := w) (A := A) Sw
            have Fz : u = .string n := Ao.val (w := w) (A := A) hqu
            subst Jy Fz
            have e : ∀ b : Bool, (b && true) = b := Bool.and_true
            simp only[Hv, e] at Dc
            refine⟨m == n, _, Gk, by simp[A8, Gk], Fs (d + 1) (.inr (.inr ⟨m, n, Gk, rfl, rfl⟩)) ?_ ?_ ?_, Dc⟩
            · intro k' m' n' h1; cases h1
            · intro m' n' h1; cases h1
            · intro m' n' h1 h2; injection h1 with h1; injection h2 with h2; rw[h1, h2]
          · cases hk
        obtain⟨b0, dsc, Gk, Dy, he, hk⟩ := one
        exact⟨b0, v, u, 1, L7 Gk Dy (by rw[J9]; exact hv), L7 Gk Dy (by rw[J9]; exact hu), he, Ad1, by simpa using hk⟩
      split at hty
      · rename_i k Gk
        exact plain (fun gs e => by rw[Gk] at e; cases e) hty (by rw[Gk])
      · rename_i Gk
        exact plain (fun gs e => by rw[Gk] at e; cases e) hty (by rw[Gk])
      · rename_i Gk
        exact plain (fun gs e => by rw[Gk] at e; cases e) hty (by rw[Gk])
      · rename_i gs Gk
        simp only[Bool.and_eq_true, Bool.not_eq_true'] at hty
        obtain⟨⟨⟨⟨hfp, Jf⟩, hi⟩, Iv⟩, O4⟩ := hty
        have Iv := Nat.eq_of_beq_eq_true Iv
        have Kc : (FH P f).length = gs.size := by rw[Tx Gk, List.length_map, Array.length_toList]
        rw[Kc] at hk C3
        rw[Tx Gk] at hk
        have hx := Yg (n := gs.size) (by omega) hp
        have hy := Yg (n := gs.size) (by omega) hq
        obtain⟨b0, VI, he⟩ := Tz d Gk Jf hfp hx hy hk
        have ha : A8 P f.type = true := by simp[A8, Gk]
        exact⟨b0, _, _, gs.size, by rw[EH Gk ha hi, J9, Iv], by rw[EH Gk ha hi, J9, Iv], he, O4, VI⟩
      · cases hty
    obtain⟨b0, v, u, n, hpx, hpy, he, Ad1, hk⟩ := main
    obtain⟨b, VI, Bp⟩ := LT d fs (i + n) xs ys (ps.drop n) (qs.drop n) _ Ad1 hk (fun j p' hj => by rw[List.getElem?_drop] at hj; have := hp (n + j) p' hj; rwa [← Nat.add_assoc] at this) (fun j p' hj => by rw[List.getElem?_drop] at hj; have := hq (n + j) p' hj; rwa [← Nat.add_assoc] at this)
    refine⟨b0 && b, VI, ?_⟩
    cases b0
    · simp[List.forIn_cons, Wh, hpx, hpy, he]
    · simp only[Bool.true_and]
      rw[← Bp]
      simp[List.forIn_cons, Wh, hpx, hpy, he]
theorem U9 (d:Nat){t:TypeId}{fs:Array Field}(hu:P.underlying t=some (.struct fs)) (Jf:P.stoodInHeld t=false)(Y4:Jb P fs.toList 0=true){xs ys:List PV}{vx vy:List Value}
  (ZQ:Au (A6 w A β) xs vx) (hvy:Au (A6 w A β) ys vy) {K:Bool->Option R}(hk:Hv (O9 P fs.toList) xs ys K=some r):
  ∃b,K b=some r∧(Op.equalIn (d+3) t (.agg ⟨vx⟩) (.agg ⟨vy⟩)).run P w=.ok b w:=by
 obtain⟨b,VI,Bp⟩:=LT (P:=P) (w:=w) (A:=A) (β:=β) d fs.toList 0 ⟨vx⟩ ⟨vy⟩ xs ys K Y4 hk (fun j p hj=>by
   obtain⟨v,hv,hc⟩:=ZQ.get hj;exact⟨v,by simpa using hv,hc⟩) (fun j p hj=>by
   obtain⟨v,hv,hc⟩:=hvy.get hj;exact⟨v,by simpa using hv,hc⟩)
 refine⟨b,VI,?_⟩;rw[Array.forIn_toList] at Bp;rw[Op.equalIn];simp[run_underlying hu,Jf];rw[Bp];cases b<;>simp
theorem Ys (h:Br N w0 X0 Y β s a w){t:TypeId}{fs:Array Field}{x y:Operand}{op:BinOp}(QM:op=.eql∨op=.neq)(hu:P.underlying t=some (.struct fs)) (Y4:AH P t fs=true){xs ys:List PV}
  (hx:A7 s.tm x=.agg xs)(hy:A7 s.tm y=.agg ys){K:Bool->Option R}(hk:Hv (O9 P fs.toList) xs ys K=some r):
  ∃b,K b=some r∧(do eqGuard op t x y (a.eval x) (a.eval y);binOp op t (a.eval x) (a.eval y)).run P w=.ok (.bool (if op=.eql then b else !b)) w:=by
 have hxv:=Bu h x;have LD:=Bu h y;rw[hx] at hxv;rw[hy] at LD;obtain⟨vx,B0,ZQ⟩:=hxv;obtain⟨vy,hay,hvy⟩:=LD;simp only[AH,Bool.and_eq_true,Bool.not_eq_true'] at Y4;obtain⟨⟨Y4,Jf⟩,heg⟩:=Y4;obtain⟨b,VI,heq⟩:=U9 9997 hu Jf Y4 ZQ hvy hk;have heq:(Op.equal t (.agg ⟨vx⟩) (.agg ⟨vy⟩)).run P w=.ok b w:=heq;refine⟨b,VI,?_⟩;rw[B0,hay];rcases QM with rfl|rfl
 ·simp[eqGuard,binOp,heq,heg]
 ·simp[eqGuard,binOp,heq,heg]
theorem DU (h:Br N w0 X0 Y β s a w){op:BinOp}{t ty:TypeId}{x y:Operand}(ho:o.op=.binOp op t x y ty){K:PV->Option R}
  (hk:N4 P op t (A7 s.tm x) (A7 s.tm y) K=some r):∃v,K v=some r∧Ct P a w o Y β s v [] []:=by
 have Bp:∀v,(do eqGuard op t x y (a.eval x) (a.eval y);binOp op t (a.eval x) (a.eval y)).run P w=.ok v w->(execOp a.eval o).run P w=.ok (.value v) w:=by
  intro v hv;unfold execOp;rw[ho];simp only[Sem.run_bind] at hv ⊢;rw[hv];rfl
 unfold N4 at hk;split at hk
 ·rename_i fs hu;split at hk
  ·obtain⟨Y4,hk⟩:=Ae hk;obtain⟨xs,hx,hk⟩:=Eu hk;obtain⟨ys,hy,hk⟩:=Eu hk;obtain⟨b,hk,hr⟩:=Ys h (.inl rfl) hu Y4 hx hy hk;exact⟨_,hk,Bm (Bp _ (by rw[hr];rfl))⟩
  ·obtain⟨Y4,hk⟩:=Ae hk;obtain⟨xs,hx,hk⟩:=Eu hk;obtain⟨ys,hy,hk⟩:=Eu hk;obtain⟨b,hk,hr⟩:=Ys h (.inr rfl) hu Y4 hx hy hk;exact⟨_,hk,Bm (Bp _ (by rw[hr];rfl))⟩
  ·cases hk
 ·unfold VQ at hk;split at hk
  ·rename_i k hu;split at hk
   ·obtain⟨m,hx,hk⟩:=Cs hk;obtain⟨k2,n,hy,hk⟩:=B1 hk;obtain⟨hb,hk⟩:=Ae hk;have hb:=of_decide_eq_true hb;refine⟨_,hk,Bm (Bp _ ?_)⟩;have:¬n<0:=by omega
    simp[eqGuard,binOp,Op.shift,Bi h hx,Bi h hy,this]
   ·obtain⟨m,hx,hk⟩:=Cs hk;obtain⟨k2,n,hy,hk⟩:=B1 hk;obtain⟨hb,hk⟩:=Ae hk;have hb:=of_decide_eq_true hb;refine⟨_,hk,Bm (Bp _ ?_)⟩;have:¬n<0:=by omega
    simp[eqGuard,binOp,Op.shift,Bi h hx,Bi h hy,this]
   ·rename_i WG hs2;obtain⟨m,hx,hk⟩:=Cs hk;obtain⟨n,hy,hk⟩:=Cs hk;obtain⟨v,hk,hr⟩:=MW (P:=P) (w:=w) (t:=t) (x:=x) (y:=y) WG hs2 hk;exact⟨_,hk,Bm (Bp _ (by rw[Bi h hx,Bi h hy];exact hr))⟩
  ·rename_i hu;obtain⟨m,hx,hk⟩:=Cb hk;obtain⟨n,hy,hk⟩:=Cb hk;obtain⟨v,hk,hr⟩:=NQ (P:=P) (w:=w) (t:=t) (x:=x) (y:=y) hk;exact⟨_,hk,Bm (Bp _ (by rw[Bi h hx,Bi h hy];exact hr))⟩
  ·rename_i hu;split at hk
   ·obtain⟨m,hx,hk⟩:=Cd hk;obtain⟨n,hy,hk⟩:=Cd hk;refine⟨_,hk,Bm (Bp _ ?_)⟩;simp[eqGuard,binOp,Bi h hx,Bi h hy,Wq hu]
   ·obtain⟨m,hx,hk⟩:=Cd hk;obtain⟨n,hy,hk⟩:=Cd hk;refine⟨_,hk,Bm (Bp _ ?_)⟩;simp[eqGuard,binOp,Bi h hx,Bi h hy,Wq hu]
   ·cases hk
  ·rename_i e hu;have hx:=Bu h x
   have nilQ:∀{e:Bool} {K':PV->Option R},V9 e (A7 s.tm x) K'=some r->∃q ad n c,K' q=some r∧a.eval x=.slice ad n c∧(q=.sc (.bool (if ad.isNone then e else !e))∨q=.ub):=by
    intro e K' hq;unfold V9 at hq;split at hq
    ·rename_i e';exact⟨_,none,0,0,hq,Bi h e',.inl rfl⟩
    ·rename_i z es n c e';rcases D7 (.inl e') hx with⟨B0,rfl,_⟩|⟨ad,cap,B0,rfl,_⟩|⟨ad,cap,B0,rfl,rfl,_⟩
     ·rcases Il hq with⟨_,hq⟩|⟨_,hq⟩
      ·exact⟨_,none,0,0,hq,B0,.inl rfl⟩
      ·rcases Il hq with⟨hb,_⟩|⟨_,hq⟩
       ·exact absurd (of_decide_eq_true hb) (by omega)
       ·exact⟨_,none,0,0,hq,B0,.inr rfl⟩
     ·rcases Il hq with⟨hz,_⟩|⟨_,hq⟩
      ·cases hz
      ·rcases Il hq with⟨_,hq⟩|⟨_,hq⟩
       ·exact⟨_,some ad,n,cap,hq,B0,.inl rfl⟩
       ·exact⟨_,some ad,n,cap,hq,B0,.inr rfl⟩
     ·rcases Il hq with⟨hz,_⟩|⟨_,hq⟩
      ·cases hz
      ·rcases Il hq with⟨hb,_⟩|⟨_,hq⟩
       ·exact absurd (of_decide_eq_true hb) (by omega)
       ·exact⟨_,some ad,0,cap,hq,B0,.inr rfl⟩
    ·rename_i id es off n e';rw[e'] at hx;rcases hx with⟨_,_,rfl,ad,B0⟩|⟨b,ob,y',cap,_,B0,_⟩
     ·rcases Il hq with⟨hb,_⟩|⟨_,hq⟩
      ·exact absurd (of_decide_eq_true hb) (by omega)
      ·exact⟨_,ad,0,0,hq,B0,.inr rfl⟩
     ·rcases Il hq with⟨_,hq⟩|⟨_,hq⟩
      ·exact⟨_,_,n,cap,hq,B0,.inl rfl⟩
      ·exact⟨_,_,n,cap,hq,B0,.inr rfl⟩
    ·cases hq
   split at hk
   ·rename_i hy;obtain⟨q,ad,n,c,hk,B0,hb⟩:=nilQ hk;rcases hb with rfl|rfl
    ·refine⟨_,hk,Bm (Bp _ ?_)⟩;cases ad<;>simp[eqGuard,binOp,B0,Bi h hy,Nq hu]
    ·refine⟨_,hk,Ba (val:=.bool ad.isNone) (Bp _ ?_) (Ao.ub _) (by intro i hi;cases hi)⟩
     simp[eqGuard,binOp,B0,Bi h hy,Nq hu]
   ·rename_i hy;obtain⟨q,ad,n,c,hk,B0,hb⟩:=nilQ hk;rcases hb with rfl|rfl
    ·refine⟨_,hk,Bm (Bp _ ?_)⟩;cases ad<;>simp[eqGuard,binOp,B0,Bi h hy,Nq hu]
    ·refine⟨_,hk,Ba (val:=.bool !ad.isNone) (Bp _ ?_) (Ao.ub _) (by intro i hi;cases hi)⟩
     simp[eqGuard,binOp,B0,Bi h hy,Nq hu]
   ·cases hk
  ·cases hk
end
open Go.RowKit
section
variable {R:Type} {r:R} {P:Program} {N:Nat} {w0:World} {X0:E6} {Y:Nat->Prop} {β β':Bt} {s:St} {a:Act} {w w':World} {o:Oper} {A:Nat->Prop}
theorem Nj:∀{c:List PV}{l:List UInt8},bytesOf c=some l->∃ns:List Int,c=ns.map (fun n=>.sc (.int .u8 n))∧l=ns.map fun n=>n.toNat.toUInt8
 |[],l,h=>⟨[],rfl,by simp[bytesOf] at h;subst h;rfl⟩
 |p::c,l,h=>by
  unfold bytesOf at h;split at h
  ·rename_i e;cases e
  ·rename_i n r e;cases e;cases hr:bytesOf c with
   |none=>rw[hr] at h;cases h
   |some l'=>
    rw[hr] at h;simp at h;obtain⟨ns,rfl,rfl⟩:=Nj hr;exact⟨n::ns,rfl,h.symm⟩
  ·cases h
theorem L8:∀(ns:List Int)(b:ByteArray),ns.foldl (fun r n=>r.push (UInt8.ofNat n.toNat)) b=⟨b.data++(ns.map fun n=>n.toNat.toUInt8).toArray⟩
 |[],b=>by simp
 |n::ns,b=>by
  simp only[List.foldl_cons];rw[L8 ns];simp[ByteArray.push]
theorem FM (h:Br N w0 X0 Y β s a w){es:Nat}{x:Operand}{K:Nat->List PV->Option R}(hk:IW (Gj s.hp) es (A7 s.tm x) K=some r):
  ∃n c,K n c=some r∧(((∃ad,a.eval x=.slice ad 0 0)∧n=0∧c=[])∨∃ad cap,a.eval x=.slice (some ad) n cap∧n<=cap∧(c=[]∨ad.block<w.heap.size)∧CM w (Bz s.hp β Y) ad c):=by
 have hx:=Bu h x;have Xe:=C5 h x;unfold IW at hk;split at hk
 ·rename_i id es' off n e;rw[e] at hx Xe;cases hb:Nat.beq es' es
  ·rw[hb] at hk;cases hk
  ·rw[hb] at hk;obtain⟨c,hc,hk⟩:=Bn (show Db _ _=some r from hk)
   obtain⟨hl,hk⟩:=Ae hk;have hl:=of_decide_eq_true hl;obtain⟨f,OR⟩:=Z6 hc;refine⟨_,_,hk,?_⟩;rcases hx with⟨_,rfl,rfl,ad,B0⟩|⟨b,ob,y,cap,hβ,B0,hy,hn,_,Bl⟩
   ·exact .inl ⟨⟨ad,B0⟩,rfl,by simp⟩
   ·refine .inr ⟨_,cap,B0,hn,.inr Bl,fun j p hj=>?_⟩
    have Afg:0<n*es:=by
     rcases Nat.eq_zero_or_pos (n*es) with h0|h0
     ·rw[h0] at hj;simp at hj
     ·exact h0
    have GV:n≠0:=by rintro rfl;simp at Afg
    have hy:y=ob+off:=by rcases hy with hy|⟨h0,_⟩<;>omega
    subst hy;rw[List.getElem?_take] at hj;split at hj
    ·rw[List.getElem?_drop] at hj;rcases h.box id _ OR with⟨h1,_⟩|⟨b',o',h1,h2,_⟩
     ·rw[hβ] at h1;cases h1
     ·rw[hβ] at h1;simp at h1;obtain⟨rfl,rfl⟩:=h1
      obtain⟨v,hv,h3,ht⟩:=h2 (off+j) p hj;rw[B9] at hv;exact⟨v,by rw[B9,Nat.add_assoc];exact hv,h3,ht⟩
    ·cases hj
 ·obtain⟨z,n,c,hk,hp⟩:=Dh hk;refine⟨n,c,hk,?_⟩;rcases D7 hp hx with h1|⟨ad,cap,B0,_,hn,h1,h2,_,h4⟩|⟨ad,cap,B0,_,rfl,rfl⟩
  ·exact .inl ⟨⟨none,h1.1⟩,h1.2⟩
  ·exact .inr ⟨ad,cap,B0,hn,.inr h2,h4⟩
  ·exact .inr ⟨ad,cap,B0,Nat.zero_le _,.inl rfl,fun j c hj=>by simp at hj⟩
theorem PH (b:ByteArray)(j:Nat)(p:PV)(h:(Eb b)[j]?=some p):∃x,b.data[j]?=some x∧p=.sc (.int .u8 x.toNat):=by
 unfold Eb at h;rw[List.getElem?_map] at h;cases hx:b.data.toList[j]? with
 |none=>rw[hx] at h;cases h
 |some x=>
  rw[hx] at h;simp at h;exact⟨x,by simpa using hx,h.symm⟩
theorem IF (h:Br N w0 X0 Y β s a w){src dst:TypeId}{x:Operand}(ho:o.op=.convert src dst x){d:Nat}{K:PV->List (Nat × A1)->Option R}
  (hk:Wm P (Gj s.hp) d src dst (A7 s.tm x) K=some r):∃v nw,K v nw=some r∧Ct P a w o Y β s v [] nw:=by
 have Bp:∀v w',(convert src dst (a.eval x)).run P w=.ok v w'->(execOp a.eval o).run P w=.ok (.value v) w':=by
  intro v w' hv;unfold execOp;rw[ho];simp[hv]
 unfold Wm at hk;split at hk
 ·rename_i k hu;obtain⟨hs,hk⟩:=Ae hk;obtain⟨k',n,hx,hk⟩:=B1 hk;exact⟨_,_,hk,Bm (Bp _ _ (by rw[Bi h hx];obtain⟨ds,hds⟩:=Option.isSome_iff_exists.1 hs;cases ds<;>simp[convert,run_underlying hds,run_underlying hu,Conv.intToInt]))⟩
 ·rename_i hu;split at hk
  ·rename_i hs;obtain⟨b,hx,hk⟩:=Cb hk;exact⟨_,_,hk,Bm (Bp _ _ (by rw[Bi h hx];simp[convert,run_underlying hs,run_underlying hu]))⟩
  ·rename_i e hs;split at hk
   ·rename_i he;obtain⟨n,c,hk,hc⟩:=FM h hk;obtain⟨hl,hk⟩:=Ae hk;have hl:=of_decide_eq_true hl;obtain⟨l,hb,hk⟩:=Bn hk;obtain⟨ns,rfl,rfl⟩:=Nj hb;refine⟨_,_,hk,Bm (Bp _ _ ?_)⟩;rcases hc with⟨⟨ad,B0⟩,rfl,hn⟩|⟨ad,cap,B0,_,_,hrd⟩
    ·have:ns=[]:=by simpa using hn
     subst this;rw[B0,run_convert_bytes_string w src dst e ad 0 0 hs he hu];cases ad<;>rfl
    ·rw[B0,run_convert_bytes_string w src dst e _ _ _ hs he hu]
     have hld:(loadCells ad n).run P w=.ok (ns.map (Value.int .u8)).toArray w:=by
      have:=run_loadCells_list (P:=P) w ad (ns.map (Value.int .u8)) (fun j v hj=>by
       rw[List.getElem?_map] at hj;cases hn:ns[j]? with
       |none=>rw[hn] at hj;cases hj
       |some m=>
        rw[hn] at hj;simp at hj;subst hj;obtain⟨v,hv,_,ht⟩:=hrd j (.sc (.int .u8 m)) (by rw[List.getElem?_map,hn];rfl)
        rw[ht.val] at hv;exact hv)
      simp only[List.length_map] at this hl;rw[hl] at this;exact this
     rw[run_bytesToString w ad n cap ns hld,L8];simp
   ·cases hk
  ·cases hk
 ·rename_i e hu;split at hk
  ·rename_i he hs;obtain⟨b,hx,hk⟩:=Cb hk;obtain⟨Iv,hk⟩:=Ae hk;have hr:=run_bytes_of_string (P:=P) w src dst e b hs hu he;rw[←Bi h hx] at hr
   have Oc:b.size<=grownCap w b.size 0 e:=by
    unfold grownCap;simp[Question.cut]
   have FT:(bytesRow b (grownCap w b.size 0 e)).size=grownCap w b.size 0 e:=by
    simp only[bytesRow,Array.size_append,Array.size_map,Array.size_replicate];have:b.data.size=b.size:=rfl;omega
   refine⟨_,_,hk,Kp (c:=bytesRow b (grownCap w b.size 0 e)) (e:=e) (by simp) (Bp _ _ hr) ?_ (fun j p hj=>?_) (.inr ⟨1,b.size,grownCap w b.size 0 e,rfl,rfl,Oc,by rw[FT];omega,.inl rfl⟩)⟩
   ·exact⟨rfl,rfl,rfl,fun i hi=>Below.heap_alloc w.drew _ i hi,by show (w.heap.push _).size=_;simp,_,by show (w.heap.push _)[w.heap.size]?=_;simp;rfl,.inr (Nat.le_refl _)⟩
   ·obtain⟨y,hy,rfl⟩:=PH b j p hj;refine⟨.int .u8 y.toNat,?_,rfl,Ao.sc _⟩
    have Bl:j<b.data.size:=by
     rcases Nat.lt_or_ge j b.data.size with h|h
     ·exact h
     ·rw[Array.getElem?_eq_none h] at hy;cases hy
    simp only[bytesRow];rw[Array.getElem?_append_left (by simpa using Bl),Array.getElem?_map,hy]
    rfl
  ·cases hk
 ·cases hk
end
open Go.RowKit
section
variable {R:Type} {r:R} {P:Program} {N:Nat} {w0:World} {X0:E6} {Y:Nat->Prop} {β β':Bt} {s:St} {a:Act} {w w':World} {o:Oper} {A:Nat->Prop}
theorem Rn:∀{n:Nat}{l:List PV}{j:Nat}{c:PV},(P2 n l)[j]?=some c->j<n*l.length∧l[j % l.length]?=some c
 |0,l,j,c,h=>by simp[P2] at h
 |n+1,l,j,c,h=>by
  have e:P2 (n+1) l=l++P2 n l:=by simp[P2,List.replicate_succ]
  rw[e] at h;by_cases hj:j<l.length
  ·rw[List.getElem?_append_left hj] at h;refine⟨by rw[Nat.add_mul];omega,?_⟩
   rw[Nat.mod_eq_of_lt hj];exact h
  ·rw[List.getElem?_append_right (by omega)] at h
   obtain⟨h1,h2⟩:=Rn h;refine⟨by rw[Nat.add_mul];omega,?_⟩
   rw[Nat.mod_eq_sub_mod (by omega)];exact h2
theorem DS (n:Nat)(l:List PV):(P2 n l).length=n*l.length:=by
 induction n with
 |zero=>simp[P2]
 |succ n ih=>
  have e:P2 (n+1) l=l++P2 n l:=by simp[P2,List.replicate_succ]
  rw[e,List.length_append,ih,Nat.add_mul];omega
theorem EO {z:Array Value}{n j:Nat}(hj:j<n){v:Value}(hv:z[j % z.size]?=some v):(madeCells z n)[j]?=some v:=by
 unfold madeCells;rw[Array.getElem?_map,Array.getElem?_range,if_pos hj];simp only[Option.map_some];rw[getElem!_def,hv]
theorem IL (h:Br N w0 X0 Y β s a w){t:TypeId}{x y:Operand}(ho:o.op=.makeSlice t x y){d:Nat}{K:PV->List Nat->List (Nat × A1)->Option R}
  (hk:(match P.underlying t with
   |some (.slice e)=>B6 (A7 s.tm x) fun _ n=>B6 (A7 s.tm y) fun _ m=>
     Ar (decide (0<=n)&&decide (n<=m)&&decide (m*((P.info? e).map (·.bytes)).getD 0<=1099511627776)&&decide (m<=1099511627776))
      (En P e fun z=>K (.view d (Aq P e) 0 n.toNat) [] [(d,.ar false (P2 n.toNat z))])
   |_=>none)=some r):∃v fz nw,K v fz nw=some r∧Ct P a w o Y β s v fz nw:=by
 split at hk
 ·rename_i e hu;obtain⟨k1,n,hx,hk⟩:=B1 hk;obtain⟨k2,m,hy,hk⟩:=B1 hk;obtain⟨hb,hk⟩:=Ae hk;simp only[Bool.and_eq_true,decide_eq_true_eq] at hb;obtain⟨⟨⟨h0,CW⟩,Nc⟩,hm⟩:=hb;obtain⟨z,cs,hk,hz,hct,hl,Iv,hc⟩:=Jv hk
  have hzc:∃i,P.info? e=some i∧i.zero=some z:=by
   unfold Pu at hz;cases hi:P.info? e with
   |none=>rw[hi] at hz;cases hz
   |some i=>rw[hi] at hz;exact⟨i,rfl,hz⟩
  obtain⟨i,hi,PR⟩:=hzc;have Afe:Aq P e=i.size:=by simp[Aq,hi]
  simp only[hi,Option.map_some,Option.getD_some] at Nc;have hr:=run_make (P:=P) w t e i z hu hi PR k1 k2 n m h0 CW (by rw[Int.mul_comm];omega) (by omega)
  have Bp:(execOp a.eval o).run P w=.ok (.value (.slice (some ⟨w.heap.size,0,none⟩) n.toNat m.toNat)) (w.alloc (.cells (madeCells z.cells (m.toNat*i.size)) e)):=by
   unfold execOp;rw[ho];simp[Bi h hx,Bi h hy,hr]
  have hzl:z.cells.size=Aq P e:=by
   have:z.cells.toList.length=z.cells.size:=by simp
   omega
  refine⟨_,_,_,hk,Kp (c:=madeCells z.cells (m.toNat*i.size)) (e:=e) (by simp) Bp (Di.alloc w _ e) (fun j p hj=>?_) (.inr ⟨Aq P e,n.toNat,m.toNat,rfl,rfl,by omega,by rw[size_madeCells,Afe];exact Nat.le_refl _,.inr (Hd w _ e)⟩)⟩
  obtain⟨h1,h2⟩:=Rn hj;obtain⟨hT,u,Fz,Wa,hv⟩:=hc _ p h2;refine⟨u,EO ?_ ?_,Wa,hv _ _⟩
  ·have:n.toNat*cs.length<=m.toNat*i.size:=by
    rw[Iv,Afe];exact Nat.mul_le_mul_right _ (by omega)
   omega
  ·rw[hzl,←Iv]
   simpa using Fz
 ·cases hk
theorem OI {p:PV}{v:Value}(hp:okP p=true)(hv:Cu w A β p v):Au (A6 w A β) (cellsOf p) v.cells.toList:=by
 have one:v.oneCell'=true->A6 w A β p v->(∀x,p ≠ .agg x)->Au (A6 w A β) (cellsOf p) v.cells.toList:=by
  intro h1 h2 h3;have:cellsOf p=[p]:=by cases p<;>first|rfl|exact absurd rfl (h3 _)
  rw[this,Is h1];exact⟨h2,trivial⟩
 unfold okP at hp;split at hp
 ·obtain⟨vs,rfl,h2⟩:=hv;exact h2
 ·refine one ?_ hv (by simp)
  have Jy:Ao w A _ v:=hv;cases Jy<;>rfl
 ·refine one ?_ hv (by simp)
  rcases hv with⟨_,_,_,_,rfl⟩|⟨_,_,_,_,_,rfl,_⟩<;>rfl
 ·have:=Sx hv;subst this;exact one rfl hv (by simp)
 ·have:=Sx hv;subst this;exact one rfl hv (by simp)
 ·have:=Sx hv;subst this;exact one rfl hv (by simp)
 ·have:=Sx hv;subst this;exact one rfl hv (by simp)
 ·cases hp
theorem KZ:∀(vs:List Value)(k off:Nat)(cells:Array Value),off+k+vs.length<=cells.size ->
  ((vs.zipIdx k).foldl (fun cs (q:Value × Nat)=>cs.setIfInBounds (off+q.2) q.1) cells).toList=cells.toList.take (off+k)++vs++cells.toList.drop (off+k+vs.length)
 |[],k,off,cells,_=>by simp
 |v::vs,k,off,cells,h=>by
  simp only[List.zipIdx_cons,List.foldl_cons,List.length_cons] at h ⊢;rw[KZ vs (k+1) off _ (by simp;omega)]
  have Bl:off+k<cells.toList.length:=by simp;omega
  simp only[Array.toList_setIfInBounds];rw[show off+(k+1)=off+k+1 from by omega,List.take_succ_eq_append_getElem (by simpa using Bl)]
  rw[List.getElem_set_self,List.take_set_of_le (Nat.le_refl _),List.drop_set_of_lt (by omega)]
  simp only[List.append_assoc,List.cons_append,List.nil_append];rw[show off+k+1+vs.length=off+k+(vs.length+1) from by omega]
theorem Vk (h:Br N w0 X0 Y β s a w){Ea:Nat->Option (Nat × Nat)}:∀{parts:List (Nat × Operand)} {pc:List PV}{vc:Array Value}{K:List PV->Option R},
  M1 Ea (parts.map fun q=>(q.1,A7 s.tm q.2)) pc K=some r->Au (A6 w (Bz s.hp β Y) β) pc vc.toList->(∀c∈pc,∀id∈Ai c,s.hp id≠none) ->
  ∃pc' vc',K pc'=some r∧Instr.fill Ea vc (parts.map fun q=>(q.1,a.eval q.2))=some vc'∧Au (A6 w (Bz s.hp β Y) β) pc' vc'.toList∧pc'.length=pc.length∧∀c∈pc',∀id∈Ai c,s.hp id≠none
 |[],pc,vc,K,hk,hv,hr=>⟨pc,vc,hk,rfl,hv,rfl,hr⟩
 |(i,x)::parts,pc,vc,K,hk,hv,hr=>by
  simp only[List.map_cons] at hk;unfold M1 at hk;obtain⟨⟨off,size⟩,Ut,hk⟩:=Bn hk;obtain⟨hb,hk⟩:=Ae hk;simp only[Bool.and_eq_true] at hb;obtain⟨⟨Jk,Iv⟩,Re⟩:=hb;have Iv:(cellsOf (A7 s.tm x)).length=size:=Nat.eq_of_beq_eq_true Iv;have Re:off+size<=pc.length:=Nat.le_of_ble_eq_true Re;have hxc:=OI Jk (Bu h x);have hxl:=hxc.len;have Ql:=hv.len;have Ga:vc.toList.length=vc.size:=by simp
  have O6:(a.eval x).cells.toList.length=(a.eval x).cells.size:=by simp
  have Agd:=KZ (a.eval x).cells.toList 0 off vc (by omega)
  simp only[Nat.add_zero] at Agd
  have Afb:((a.eval x).cells.zipIdx.foldl (fun cs (q:Value × Nat)=>cs.setIfInBounds (off+q.2) q.1) vc).toList=vc.toList.take off++(a.eval x).cells.toList++vc.toList.drop (off+(a.eval x).cells.toList.length):=by
   rw[←Agd,←Array.foldl_toList];simp
  obtain⟨pc',vc',hk,hf,h2,hl,hr'⟩:=Vk h (pc:=A0 pc (cellsOf (A7 s.tm x)) off) (vc:=(a.eval x).cells.zipIdx.foldl (fun cs (q:Value × Nat)=>cs.setIfInBounds (off+q.2) q.1) vc) hk (by
    rw[Afb,←hxl];exact (((hv.take off).app hxc).app (hv.drop _))) (by
    intro c hc id Ax;unfold A0 at hc;rcases List.mem_append.1 hc with hc|hc
    ·rcases List.mem_append.1 hc with hc|hc
     ·exact hr c (List.mem_of_mem_take hc) id Ax
     ·refine C5 h x id ?_;cases hp:A7 s.tm x with
      |agg cs=>rw[hp] at hc;exact List.mem_flatMap.2 ⟨c,hc,Ax⟩
      |tup cs=>rw[hp] at hc;simp[cellsOf] at hc;subst hc;cases Ax
      |_=>rw[hp] at hc;simp[cellsOf] at hc;subst hc;exact Ax
    ·exact hr c (List.mem_of_mem_drop hc) id Ax)
  refine⟨pc',vc',hk,?_,h2,?_,hr'⟩
  ·simp only[List.map_cons,Instr.fill,Ut];rw[if_neg (by simp;omega)]
   exact hf
  ·rw[hl];simp[A0];omega
theorem FN {t:TypeId}{z:Value}{cs:List PV}(hl:cs.length=z.cells.toList.length)(hc:∀(j:Nat) c,cs[j]?=some c->O0 c∧∃u,z.cells.toList[j]?=some u∧u.oneCell'=true∧∀(w:World)(A:Nat->Prop),Ao w A c u) (_ht:Pu P t=some z):
  Au (A6 w A β) cs z.cells.toList∧∀c∈cs,Ai c=[]:=by
 refine⟨Au.of_at hl fun i c u hci hu=>?_,fun c FS=>?_⟩
 ·obtain⟨hT,u',Fz,_,hv⟩:=hc i c hci;rw[hu] at Fz;cases Fz;exact (Hq hT).2 (hv _ _)
 ·obtain⟨j,hj⟩:=List.mem_iff_getElem?.1 FS;exact Ey (hc j c hj).1
theorem V3:∀{fs:List Field},(fs.all fun f=>V1 P f.type)=true->fs.mapM (fun f=>(P.info? f.type).map fun i=>(f.offset,i.size))=some (fs.map fun f=>(f.offset,Aq P f.type))
 |[],_=>rfl
 |f::fs,h=>by
  simp only[List.all_cons,Bool.and_eq_true] at h;obtain⟨i,hi⟩:=Option.isSome_iff_exists.1 h.1;simp[List.mapM_cons,hi,V3 h.2,Aq]
theorem Ph {p q:Nat->Option (Nat × Nat)} (h:∀i,p i=q i)(cells:Array Value)(parts:List (Nat × Value)):Instr.fill p cells parts=Instr.fill q cells parts:=by
 have:p=q:=funext h;rw[this]
theorem FP (h:Br N w0 X0 Y β s a w){t:TypeId}{ps:Array (Nat × Operand)} (ho:o.op=.build t ps){K:PV->Option R}
  (hk:(Ar (K0 P t&&A8 P t)<|En P t fun z=>M1 (Ln P t) (ps.toList.map fun q=>(q.1,A7 s.tm q.2)) z fun cs=>Kb (E9 P t) cs 0 fun cs'=>K (.agg cs'))=some r):∃v,K v=some r∧Ct P a w o Y β s v [] []:=by
 obtain⟨Ut,hk⟩:=Ae hk;simp only[Bool.and_eq_true] at Ut;obtain⟨Ut,Dy⟩:=Ut;obtain⟨z,cs,hk,hz,hct,hl,Iv,hc⟩:=Jv hk;obtain⟨hzr,Vc⟩:=FN (w:=w) (A:=Bz s.hp β Y) (β:=β) hl hc hz;obtain⟨pc',vc',hk,hf,h2,Gl,hr'⟩:=Vk h hk hzr (fun c FS id Ax=>by rw[Vc c FS] at Ax;cases Ax)
 obtain⟨qs,hk,hql,R8,hq⟩:=M2 hk
 have Acu:P.built t (ps.toList.map fun q=>(q.1,a.eval q.2))=some vc':=by
  have PR:∃i,P.info? t=some i∧i.zero=some z:=by
   unfold Pu at hz;cases hi:P.info? t with
   |none=>rw[hi] at hz;cases hz
   |some i=>rw[hi] at hz;exact⟨i,rfl,hz⟩
  obtain⟨i,hi,PR⟩:=PR;unfold K0 at Ut;unfold Program.built;split at Ut
  ·rename_i fs hu
   have NS:Instr.fill (((fs.toList.map fun f=>(f.offset,Aq P f.type)).toArray)[·]?) z.cells (ps.toList.map fun q=>(q.1,a.eval q.2))=some vc':=by
    rw[←hf];refine Ph (fun j=>?_) _ _
    simp[Ln,hu]
   simp only[hi,hu,PR,V3 Ut];exact NS
  ·rename_i n e hu;obtain⟨ie,hie⟩:=Option.isSome_iff_exists.1 Ut
   have NS:Instr.fill (fun j=>some (j*ie.size,ie.size)) z.cells (ps.toList.map fun q=>(q.1,a.eval q.2))=some vc':=by
    rw[←hf];refine Ph (fun j=>?_) _ _
    simp[Ln,hu,Aq,hie]
   simp only[hi,hu,PR,hie];exact NS
  ·rename_i e hu;simp[A8,hu] at Dy
  ·cases Ut
 refine⟨_,hk,Ba (val:=.agg vc') ?_ ⟨vc'.toList,rfl,?_⟩ ?_⟩
 ·unfold execOp;rw[ho];have:=run_build (P:=P) w t (ps.map fun q=>(q.1,a.eval q.2)) vc' (by simpa using Acu)
  simp[this]
 ·refine Au.of_at (by have:=h2.len;omega) fun j c u hcj hu=>?_
  obtain⟨p,hp,_,_,Sw⟩:=hq j c hcj;rw[Nat.zero_add] at hp;exact (Sw _ _ _ _ (h2.at_ hp hu)).1
 ·intro id Ax;obtain⟨c,FS,Ax⟩:=List.mem_flatMap.1 (show id∈qs.flatMap Ai from Ax)
  obtain⟨j,hj⟩:=List.mem_iff_getElem?.1 FS;obtain⟨p,hp,_,hpr,_⟩:=hq j c hj;rw[Nat.zero_add] at hp;exact hr' p (List.mem_of_getElem? hp) id (hpr id Ax)
end
open Go.RowKit
section
variable {R:Type} {r:R} {P:Program} {N:Nat} {w0:World} {X0:E6} {Y:Nat->Prop} {β β':Bt} {s:St} {a:Act} {w w':World} {o:Oper} {A:Nat->Prop}
theorem JU (h:Br N w0 X0 Y β s a w){fz:List Nat}(Md:∀id∈fz,∃f c,s.hp id=some (.ar f c)) {id:Nat}(hm:id∈fz){f:Bool}{c:List PV}(hb:s.hp id=some (.ar f c)) {b ob:Nat}(hβ:β id=some (b,ob)):
  ¬Bz (Ac s.hp fz) β Y b∧CM w (Bz (Ac s.hp fz) β Y) ⟨b,ob,none⟩ c∧b<w.heap.size:=by
 have hf:=h.freeze Md;have he:Ac s.hp fz id=some (.ar true c):=by rw[A3,if_pos hm,hb];rfl
 rcases hf.box id _ he with⟨h1,_⟩|⟨b',o',h1,h2,_,h4⟩
 ·rw[hβ] at h1;cases h1
 ·rw[hβ] at h1;simp at h1;obtain⟨rfl,rfl⟩:=h1;exact⟨h4 rfl,h2,h.blt id b ob (by rw[hb];simp) hβ⟩
theorem OU (h:Br N w0 X0 Y β s a w){fz:List Nat}(Md:∀id∈fz,∃f c,s.hp id=some (.ar f c)) {id es off n:Nat}(hm:id∈fz){f:Bool}{c:List PV}(hb:s.hp id=some (.ar f c)) {v:Value}
  (hv:A6 w (Bz s.hp β Y) β (.view id es off n) v):Ao w (Bz (Ac s.hp fz) β Y) (.lst false es n ((c.drop off).take (n*es))) v:=by
 rcases hv with⟨_,rfl,rfl,ad,rfl⟩|⟨b,ob,y,cap,hβ,rfl,hy,hn,_,Bl⟩
 ·simp only[Nat.zero_mul,List.take_zero];cases ad with
  |none=>exact Ao.lnil false es
  |some p=>exact Ao.lemp es p 0
 ·obtain⟨h1,h2,_⟩:=JU h Md hm hb hβ;by_cases GV:n*es=0
  ·rw[GV,List.take_zero];exact Ao.lst es n [] ⟨b,y,none⟩ cap (fun _=>undef) rfl Bl h1 hn (by simp) (by simp) (by simp)
  ·have hy:y=ob+off:=by
    rcases hy with hy|⟨h0,_⟩
    ·exact hy
    ·rw[h0] at GV;simp at GV
   subst hy
   have hcell:∀(j:Nat) q,((c.drop off).take (n*es))[j]?=some q->c[off+j]?=some q:=by
    intro j q hq;rw[List.getElem?_take] at hq;split at hq
    ·rw[List.getElem?_drop] at hq;exact hq
    ·cases hq
   refine Ao.lst es n _ ⟨b,ob+off,none⟩ cap (fun j=>(w.cell? ⟨b,ob+off+j,none⟩).getD undef) rfl Bl h1 hn (fun j q hq=>?_) (fun j q hq=>?_) (fun j q hq=>?_)
   ·obtain⟨v,hv,_⟩:=h2 _ q (hcell j q hq);rw[B9,←Nat.add_assoc] at hv;rw[B9,hv];rfl
   ·obtain⟨v,hv,h3,_⟩:=h2 _ q (hcell j q hq);rw[B9,←Nat.add_assoc] at hv;rw[hv];exact h3
   ·obtain⟨v,hv,_,ht⟩:=h2 _ q (hcell j q hq);rw[B9,←Nat.add_assoc] at hv;rw[hv];exact ht
theorem Ao.zf {A:Nat->Prop}{z:Bool}{es n:Nat}{c:List PV}{v:Value}(h:Ao w A (.lst z es n c) v):Ao w A (.lst false es n c) v:=by
 cases h with
 |lnil=>exact .lnil _ _
 |lemp=>exact .lemp _ _ _
 |lst _ _ _ a cap f hs hb hA hn hc h1 hr=>exact .lst _ _ _ a cap f hs hb hA hn hc h1 hr
theorem W3 (h:Br N w0 X0 Y β s a w){t:CT}{p:PV}{K:PV->List Nat->Option R}(hk:Jn (Gj s.hp) t p K=some r):
  ∃c m,K c m=some r∧O0 c∧X1 p∧(∀id∈m,∃f cc,s.hp id=some (.ar f cc))∧∀fz:List Nat,(∀id∈m,id∈fz)->(∀id∈fz,∃f cc,s.hp id=some (.ar f cc))->∀v,A6 w (Bz s.hp β Y) β p v->Ao w (Bz (Ac s.hp fz) β Y) c v∧v.oneCell'=true:=by
 have tree:∀t',(Sk t' p fun c=>K c [])=some r->∃c m,K c m=some r∧O0 c∧X1 p∧(∀id∈m,∃f cc,s.hp id=some (.ar f cc))∧∀fz:List Nat,(∀id∈m,id∈fz)->(∀id∈fz,∃f cc,s.hp id=some (.ar f cc))->∀v,A6 w (Bz s.hp β Y) β p v->Ao w (Bz (Ac s.hp fz) β Y) c v∧v.oneCell'=true:=by
  intro t' hk;obtain⟨c,hk,hT,Ws,hv⟩:=Ip hk;refine⟨c,[],hk,hT,Le Ws,by simp,fun fz _ Md v Sw=>?_⟩
  obtain⟨h1,h2⟩:=hv _ _ _ _ Sw;exact⟨h1.step (Bb.refl _ _) (fun b _ hb=>hb.imp K7 id),h2⟩
 cases t with
 |sl es=>
  unfold Jn at hk;dsimp only at hk;split at hk
  ·rename_i id es' off n;cases hb:Nat.beq es' es
   ·rw[hb] at hk;cases hk
   ·rw[hb] at hk;have:=Nat.eq_of_beq_eq_true hb;subst this;obtain⟨c,hc,hk⟩:=Bn (show Db _ _=some r from hk)
    obtain⟨_,hk⟩:=Ae hk;obtain⟨f,H5⟩:=Z6 hc;refine⟨_,[id],hk,trivial,trivial,?_,fun fz hm Md v hv=>⟨OU h Md (hm id (by simp)) H5 hv,?_⟩⟩
    ·intro i hi;simp at hi;subst hi;exact⟨f,c,H5⟩
    ·rcases hv with⟨_,_,_,_,rfl⟩|⟨_,_,_,_,_,rfl,_⟩<;>rfl
  ·obtain⟨z,n,c,hk,hp⟩:=Dh hk;refine⟨_,[],hk,trivial,?_,by simp,fun fz _ Md v Sw=>?_⟩
   ·rcases hp with rfl|⟨rfl,_⟩<;>trivial
   ·have ht:=P3 hp Sw;refine⟨Ao.zf (ht.step (Bb.refl _ _) (fun b _ hb=>hb.imp K7 id)),?_⟩
    cases ht<;>rfl
 |int k=>exact tree (.int k) hk
 |bool=>exact tree .bool hk
 |str=>exact tree .str hk
 |any=>exact tree .any hk
theorem Kv (h:Br N w0 X0 Y β s a w):∀{ts:List CT}{ps:List PV}{K:List PV->List Nat->Option R},I7 (Gj s.hp) ts ps K=some r ->
  ∃cs m,K cs m=some r∧cs.length=ts.length∧ps.length=ts.length∧(∀c∈cs,O0 c)∧(∀p∈ps,X1 p)∧(∀id∈m,∃f cc,s.hp id=some (.ar f cc)) ∧
   ∀fz:List Nat,(∀id∈m,id∈fz)->(∀id∈fz,∃f cc,s.hp id=some (.ar f cc))->∀vs,Au (A6 w (Bz s.hp β Y) β) ps vs->Au (Ao w (Bz (Ac s.hp fz) β Y)) cs vs∧∀v∈vs,v.oneCell'=true
 |[],[],K,hk=>⟨[],[],hk,rfl,rfl,by simp,by simp,by simp,fun fz _ _ vs hv=>by
   cases vs with
   |nil=>exact⟨trivial,by simp⟩
   |cons v vs=>exact hv.elim⟩
 |[],_::_,K,hk=>by cases hk
 |_::_,[],K,hk=>by cases hk
 |t::ts,p::ps,K,hk=>by
  unfold I7 at hk;obtain⟨c,m,hk,hT,hF,hm,hv⟩:=W3 h hk;obtain⟨cs,ms,hk,hl,Gl,hTs,hFs,Xc,Ga⟩:=Kv h hk;refine⟨c::cs,m++ms,hk,by simp[hl],by simp[Gl],?_,?_,?_,fun fz hfm Md vs h2=>?_⟩
  ·intro x hx;rcases List.mem_cons.1 hx with rfl|hx
   ·exact hT
   ·exact hTs x hx
  ·intro x hx;rcases List.mem_cons.1 hx with rfl|hx
   ·exact hF
   ·exact hFs x hx
  ·intro x hx;rcases List.mem_append.1 hx with hx|hx
   ·exact hm x hx
   ·exact Xc x hx
  ·cases vs with
   |nil=>exact h2.elim
   |cons v vs=>
    obtain⟨h3,h4⟩:=hv fz (fun i hi=>hfm i (by simp[hi])) Md v h2.1
    obtain⟨h5,h6⟩:=Ga fz (fun i hi=>hfm i (by simp[hi])) Md vs h2.2
    refine⟨⟨h3,h5⟩,?_⟩;intro x hx;rcases List.mem_cons.1 hx with rfl|hx
    ·exact h4
    ·exact h6 x hx
theorem PO {R':PV->Value->Prop}{cs:List PV}{z:Array Value}(h:Au R' cs z.toList)(n:Nat):Au R' (P2 n cs) (madeCells z (n*cs.length)).toList:=by
 have hzl:z.size=cs.length:=by have:=h.len;simp at this;exact this.symm
 refine Au.of_at ?_ fun j c v hc hv=>?_
 ·rw[DS];simp[size_madeCells]
 ·obtain⟨h1,h2⟩:=Rn hc
  have Bl:j % cs.length<cs.length:=by
   rcases Nat.lt_or_ge (j % cs.length) cs.length with h|h
   ·exact h
   ·rw[List.getElem?_eq_none h] at h2;cases h2
  obtain⟨u,hu,hcu⟩:=h.get h2;have:(madeCells z (n*cs.length))[j]?=some u:=EO h1 (by rw[hzl];simpa using hu)
  have Jy:(madeCells z (n*cs.length))[j]?=some v:=by simpa using hv
  rw[this] at Jy;cases Jy;exact hcu
theorem Yy {A':Nat->Prop}:∀{ps cs:List PV}{vs:List Value},Au (A6 w (Bz s.hp β Y) β) ps vs->Au (Ao w A') cs vs->Au (Ao w A') (FV true ps cs) vs
 |[],_,_,_,h=>h
 |_::_,[],_,_,h=>h
 |p::ps,c::cs,[],_,h=>h.elim
 |p::ps,c::cs,v::vs,hp,h=>by
  refine⟨?_,Yy hp.2 h.2⟩;split
  ·have h1:Ao w (Bz s.hp β Y) (.lst true _ 0 []) v:=hp.1;cases h1;exact .lnil true _
  ·exact h.1
theorem Sr (h:Br N w0 X0 Y β s a w){nz:Bool}{t:TypeId}{n:Nat}{ps:Array (Nat × Operand)} (ho:o.op=.buildSlice t n ps){d:Nat}{K:PV->List Nat->List (Nat × A1)->Option R}
  (hk:(match P.underlying t with
   |some (.slice e)=>Ar (K0 P t&&Nat.ble (n*Aq P e) 16777216) (En P e fun z=>M1 (Ln P t) (ps.toList.map fun q=>(q.1,A7 s.tm q.2)) (P2 n z) fun cs=>
     I7 (Gj s.hp) (List.replicate n (E9 P e)).flatten cs fun cs' m=>K (.view d (Aq P e) 0 n) m [(d,.ar false (bif nz then FV true cs cs' else cs'))])
   |_=>none)=some r):∃v fz nw,K v fz nw=some r∧Ct P a w o Y β s v fz nw:=by
 split at hk
 ·rename_i e hu;obtain⟨hb,hk⟩:=Ae hk;simp only[Bool.and_eq_true] at hb;have Re:n*Aq P e<=16777216:=Nat.le_of_ble_eq_true hb.2;have J7:(P.info? e).isSome=true:=by have:=hb.1;unfold K0 at this;rw[hu] at this;exact this
  obtain⟨z,cs,hk,hz,hct,hl,Iv,hc⟩:=Jv hk;obtain⟨hzr,Vc⟩:=FN (w:=w) (A:=Bz s.hp β Y) (β:=β) hl hc hz;have Aix:=PO hzr n
  obtain⟨pc',vc',hk,hf,h2,Gl,hr'⟩:=Vk h hk Aix (fun c FS id Ax=>by
   obtain⟨j,hj⟩:=List.mem_iff_getElem?.1 FS;obtain⟨_,hg⟩:=Rn hj;rw[Vc c (List.mem_of_getElem? hg)] at Ax;cases Ax)
  obtain⟨qs,m,hk,hql,Ut,hqT,_,hm,XF⟩:=Kv h hk;obtain⟨h3,h3'⟩:=XF m (fun _ hi=>hi) hm _ h2
  have h3:Au (Ao w (Bz (Ac s.hp m) β Y)) (bif nz then FV true pc' qs else qs) vc'.toList:=by
   cases nz
   ·exact h3
   ·exact Yy h2 h3
  have NS:Instr.fill (fun i=>some (i*Aq P e,Aq P e)) (madeCells z.cells (n*cs.length)) (ps.toList.map fun q=>(q.1,a.eval q.2))=some vc':=by
   rw[←hf];refine Ph (fun i=>?_) _ _
   simp[Ln,hu]
  have Ql:vc'.size=n*Aq P e:=by
   have h4:=h2.len;rw[Gl,DS] at h4;simp at h4;rw[←h4,Iv]
  have Bp:(execOp a.eval o).run P w=.ok (.value (.slice (some ⟨w.heap.size,0,none⟩) n n)) (w.alloc (.cells vc' e)):=by
   unfold execOp;rw[ho];have Afx:¬(n*Aq P e>2 ^ 24):=by omega
   rw[Iv] at NS;by_cases GV:n*Aq P e=0
   ·simp only[Instr.buildSlice,Sem.run_bind,run_underlying hu,Result.andThen_ok,Bo J7,if_neg Afx,GV];rw[GV] at NS;have e0:madeCells z.cells 0=(Array.range 0).map (fun _=>default):=by simp[madeCells]
    rw[e0] at NS;simp[NS,newRow]
   ·simp only[Instr.buildSlice,Sem.run_bind,run_underlying hu,Result.andThen_ok,Bo J7,if_neg Afx,if_neg GV,Pb hz];unfold madeCells at NS;simp[NS,newRow]
  refine⟨_,_,_,hk,Kp (c:=vc') (e:=e) hm Bp (Di.alloc w vc' e) (fun j p hj=>?_) (.inr ⟨Aq P e,n,n,rfl,rfl,Nat.le_refl _,by rw[Ql];exact Nat.le_refl _,.inr (Hd w vc' e)⟩)⟩
  obtain⟨u,Fz,hp⟩:=h3.get hj;exact⟨u,by simpa using Fz,h3' u (List.mem_of_getElem? Fz),hp⟩
 ·cases hk
end
end
end Go.Proofs.Yteicjnihnacadaa.Pv
