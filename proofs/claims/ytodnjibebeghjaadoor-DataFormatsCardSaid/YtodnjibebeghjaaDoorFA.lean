/-
  The proof of DataFormats, part 1.
-/
import Derived.Orders
import Derived.LoopN
import Derived.Below
import Derived.Laws.Cover4
import Derived.Lib.ValidU
import Derived.Lib.Bytealg
import Derived.IntWalk
import Derived.WalkKit
import Derived.WalkLawsBesides
import Derived.Laws.IdiomStrings
import Derived.Laws.MakeOwn
import Derived.Laws.Tables
set_option linter.unusedSimpArgs false
set_option linter.unusedVariables false
namespace Go.Proofs.YtodnjibebeghjaaDoor.Pv
section
inductive PV where
 |sc (v:Value)
 |lst (z:Bool) (es n:Nat) (cells:List PV)
 |own (es n:Nat) (cells:List PV)
 |view (id es off n:Nat)
 |ptr (id off:Nat)
 |iptr (cells:List PV) (off:Nat)
 |pbox (cells:List PV)
 |agg (cells:List PV)
 |tup (vs:List PV)
 |top
 |ub
inductive Bo where
 |st (cells:List PV)
 |ar (fz:Bool) (cells:List PV)
 |mv
structure St where
 tm:Nat->PV
 hp:Nat->Option Bo
structure Aq where
 vals:List PV
 outs:List (List PV)
structure Gl where
 shr:FuncId->Bool
 mvd:FuncId->Nat->Bool
 lnd:FuncId->Nat->Bool
 kz:FuncId->Bool
 ext:FuncId->Option (List PV->Option Aq)
 nz:Nat->Bool
def Gl.core (C:Gl):Gl:={ C with ext:=fun _=>none }
def Cn {α:Type}(f:Nat->α)(i:Nat)(v:α):Nat->α:=fun j=>bif Nat.beq j i then v else f j
def rd (hp:Nat->Option Bo)(id:Nat):Option (List PV):=
 match hp id with
 |some (.st c)=>some c
 |some (.ar _ c)=>some c
 |_=>none
def Ic (hp:Nat->Option Bo)(id:Nat):Option (List PV):=
 match hp id with
 |some (.ar _ c)=>some c
 |_=>none
inductive CT where
 |int (k:IntKind)
 |bool
 |str
 |sl (es:Nat)
 |any
def Bb (P:Program)(t:TypeId):Nat:=((P.info? t).map (·.size)).getD 0
def B2 (P:Program)(t:TypeId):Bool:=
 match P.underlying t with
 |some (.struct _)=>true
 |some (.array _ _)=>true
 |_=>false
def Ang (P:Program):Nat->TypeId->List CT
 |0,_=>[]
 |d+1,t=>
  match P.underlying t with
  |some (.int k)=>[.int k]
  |some .bool=>[.bool]
  |some .string=>[.str]
  |some (.slice e)=>[.sl (Bb P e)]
  |some (.struct fs)=>fs.toList.flatMap fun f=>Ang P d f.type
  |some (.array n e)=>(List.replicate n (Ang P d e)).flatten
  |_=>[.any]
abbrev Hl (P:Program)(t:TypeId):List CT:=Ang P 9 t
def Hy (P:Program)(t:TypeId):Bool:=(P.underlying t).isSome&&Nat.beq (Hl P t).length (Bb P t)
abbrev Akc (k:IntKind)(a b:Int):Int:=k.wrap (BitVec.ofInt k.bits a &&& BitVec.ofInt k.bits b).toNat
abbrev NQ (k:IntKind)(a b:Int):Int:=k.wrap (BitVec.ofInt k.bits a ||| BitVec.ofInt k.bits b).toNat
abbrev F4 (k:IntKind)(a b:Int):Int:=k.wrap (BitVec.ofInt k.bits a ^^^ BitVec.ofInt k.bits b).toNat
abbrev Aij (k:IntKind)(a b:Int):Int:=k.wrap (BitVec.ofInt k.bits a &&& ~~~BitVec.ofInt k.bits b).toNat
abbrev Jw (k:IntKind)(a b:Int):Int:=k.wrap (a*2 ^ (min b.toNat k.bits))
abbrev AC (k:IntKind)(a b:Int):Int:=a.fdiv (2 ^ (min b.toNat k.bits))
abbrev Avp (k:IntKind)(n:Int):Int:=k.wrap (BitVec.ofInt k.bits (if k.signed then -1 else k.max) ^^^ BitVec.ofInt k.bits n).toNat
section
variable {R:Type}
def Ak (k:IntKind)(p:PV)(K:Int->Option R):Option R:=
 match p with
 |.sc (.int k' n)=>if k'=k then K n else none
 |_=>none
def Ao (p:PV)(K:Bool->Option R):Option R:=
 match p with
 |.sc (.bool b)=>K b
 |_=>none
def A0 (p:PV)(K:ByteArray->Option R):Option R:=
 match p with
 |.sc (.string s)=>K s
 |_=>none
def Nb (es:Nat)(p:PV)(K:Bool->Nat->List PV->Option R):Option R:=
 match p with
 |.lst z es' n c=>bif Nat.beq es' es then K z n c else none
 |.sc (.slice none 0 0)=>K true 0 []
 |_=>none
def fsK (es:Nat)(p:PV)(K:PV->Option R):Option R:=
 match p with
 |.view id es' off n=>bif Nat.beq es' es then K (.view id es off n) else none
 |p=>Nb es p fun z n c=>K (.lst z es n c)
def GH (es:Nat)(p:PV)(K:Nat->List PV->Option R):Option R:=
 match p with
 |.own es' n c=>bif Nat.beq es' es then K n c else none
 |_=>none
def A9 (b:Bool)(K:Option R):Option R:=bif b then K else none
abbrev Ac {α:Type}(x:α)(K:α->Option R):Option R:=K x
def OA (b:Bool)(x y:Option R):Option R:=bif b then x else y
abbrev A8h (x:Nat)(K:Nat->Option R):Option R:=K x
def Al2 (x:List (List Nat)) (K:List (List Nat)->Option R):Option R:=K x
def Ba (b:Bool)(x y:Option R):Option R:=bif b then x else y
def Cy {α:Type}(o:Option α)(K:α->Option R):Option R:=
 match o with
 |some a=>K a
 |none=>none
def Ab {α:Type}(l:List α)(K:α->List α->Option R):Option R:=
 match l with
 |a::r=>K a r
 |[]=>none
def Ad {α:Type}(l:List α)(K:Option R):Option R:=
 match l with
 |[]=>K
 |_::_=>none
def Fw (p:PV)(K:List PV->Option R):Option R:=
 match p with
 |.agg c=>K c
 |_=>none
def Tn (p:PV)(K:List PV->Option R):Option R:=
 match p with
 |.pbox c=>K c
 |_=>none
def Ai (r:Option Aq)(K:List PV->List (List PV)->Option R):Option R:=
 match r with
 |some ⟨v,o⟩=>K v o
 |none=>none
def ZP (p:PV)(K:Value->Option R):Option R:=
 match p with
 |.sc (.func f a b)=>K (.func f a b)
 |.sc (.map none)=>K (.map none)
 |_=>none
def fvK (p:PV)(K:FuncId->Option R):Option R:=
 match p with
 |.sc (.func (.func f) a b)=>bif a.isEmpty&&b.isEmpty then K f else none
 |_=>none
def X7 (t:CT)(p:PV)(K:PV->Option R):Option R:=
 match t with
 |.int k=>Ak k p fun n=>K (.sc (.int k n))
 |.bool=>Ao p fun b=>K (.sc (.bool b))
 |.str=>A0 p fun s=>K (.sc (.string s))
 |.sl es=>Nb es p fun z n c=>K (.lst z es n c)
 |.any=>ZP p fun v=>K (.sc v)
def fcK (t:CT)(p:PV)(K:PV->Option R):Option R:=
 match t with
 |.sl es=>fsK es p K
 |t=>X7 t p K
def Qv:List CT->List PV->Nat->(List PV->Option R)->Option R
 |[],_,_,K=>K []
 |t::ts,cells,off,K=>X7 t (cells.getD off .top) fun c=>Qv ts cells (off+1) fun r=>K (c::r)
def Na:List CT->List PV->Nat->(List PV->Option R)->Option R
 |[],_,_,K=>K []
 |t::ts,cells,off,K=>fcK t (cells.getD off .top) fun c=>Na ts cells (off+1) fun r=>K (c::r)
def XZ (agg:Bool)(cells:List PV)(K:PV->Option R):Option R:=
 bif agg then K (.agg cells) else Ab cells fun c r=>Ad r (K c)
def cellsOf:PV->List PV
 |.agg c=>c
 |p=>[p]
def cvK (P:Program)(t:TypeId)(v:Value)(K:PV->Option R):Option R:=
 match v with
 |.agg cs=>A9 (Nat.beq cs.toList.length (Hl P t).length) (Qv (Hl P t) (cs.toList.map .sc) 0 fun c=>K (.agg c))
 |.slice none 0 0=>
  match P.underlying t with
  |some (.slice e)=>K (.lst true (Bb P e) 0 [])
  |_=>none
 |v=>K (.sc v)
end
def Bz (tm:Nat->PV):Operand->PV
 |.tmp t=>tm t
 |.const (.agg cs)=>.agg (cs.toList.map .sc)
 |.const v=>.sc v
 |.func f=>.sc (.func (.func f) #[] #[])
 |.global g=>.sc (.pointer (some ⟨g,0,none⟩))
section
variable {R:Type}
def Dn (p:PV)(K:IntKind->Int->Option R):Option R:=
 match p with
 |.sc (.int k n)=>K k n
 |_=>none
def RU (rdf:Nat->Option (List PV)) (es:Nat)(p:PV)(K:Nat->List PV->Option R):Option R:=
 match p with
 |.view id es' off n=>bif Nat.beq es' es then Cy (rdf id) fun c=>A9 (decide (off+n*es<=c.length)) (K n ((c.drop off).take (n*es))) else none
 |p=>Nb es p fun _ n c=>K n c
def M8 (rdf:Nat->Option (List PV)) (t:CT)(p:PV)(K:PV->List Nat->Option R):Option R:=
 match t with
 |.sl es=>
  match p with
  |.view id es' off n=>bif Nat.beq es' es then Cy (rdf id) fun c=>A9 (decide (off+n*es<=c.length)) (K (.lst false es n ((c.drop off).take (n*es))) [id]) else none
  |p=>Nb es p fun _ n c=>K (.lst false es n c) []
 |t=>X7 t p fun c=>K c []
def Mz (rdf:Nat->Option (List PV)):List CT->List PV->(List PV->List Nat->Option R)->Option R
 |[],[],K=>K [] []
 |t::ts,p::ps,K=>M8 rdf t p fun c m=>Mz rdf ts ps fun cs ms=>K (c::cs) (m++ms)
 |_,_,_=>none
def OO (k:Bool):List PV->List PV->List PV
  |p::ps,c::cs=>
    (match k,p with
     |true,.lst true es 0 []=>.lst true es 0 []
     |_,_=>c)::OO k ps cs
  |_,cs=>cs
def UP (P:Program)(rdf:Nat->Option (List PV)) (t:TypeId)(p:PV)(K:PV->List Nat->Option R):Option R:=
 bif B2 P t then Fw p fun ps=>Mz rdf (Hl P t) ps fun cs m=>K (.agg cs) m
 else Mz rdf (Hl P t) [p] fun cs m=>Ab cs fun c r=>Ad r (K c m)
def EN (P:Program)(rdf:Nat->Option (List PV)):List TypeId->List PV->(List PV->List Nat->Option R)->Option R
 |[],[],K=>K [] []
 |t::ts,p::ps,K=>UP P rdf t p fun v m=>EN P rdf ts ps fun vs ms=>K (v::vs) (m++ms)
 |_,_,_=>none
def Aej (shr:Bool)(id:Nat)(t:CT)(p:PV)(K:PV->List (Nat × Bo)->Option R):Option R:=
 match t with
 |.sl es=>bif shr then Nb es p fun _ n c=>K (.lst false es n c) [] else GH es p fun n c=>K (.view id es 0 n) [(id,.ar false c)]
 |t=>X7 t p fun c=>K c []
def O5 (shr:Bool)(N:Nat):Nat->List CT->List PV->(List PV->List (Nat × Bo)->Option R)->Option R
 |_,[],ps,K=>Ad ps (K [] [])
 |id,t::ts,ps,K=>Ab ps fun p ps=>Aej shr id t p fun c b=>O5 shr N (id+N) ts ps fun cs bs=>K (c::cs) (b++bs)
def Vq (P:Program)(t:TypeId):Option TypeId:=
 match P.underlying t with
 |some (.pointer e)=>some e
 |_=>none
def OU (P:Program)(t:TypeId):Nat:=
 match Vq P t with
 |some e=>1+(Hl P e).length
 |none=>(Hl P t).length
def YY (P:Program)(shr:Bool)(N:Nat)(id:Nat)(t:TypeId)(p:PV)(K:PV->List (Nat × Bo)->Option R):Option R:=
 match Vq P t with
 |some e=>Tn p fun ps=>O5 shr N (id+N) (Hl P e) ps fun cs bs=>K (.ptr id 0) ((id,.st cs)::bs)
 |none=>
 bif B2 P t then Fw p fun ps=>O5 shr N id (Hl P t) ps fun cs bs=>K (.agg cs) bs
 else O5 shr N id (Hl P t) [p] fun cs bs=>Ab cs fun c r=>Ad r (K c bs)
def Y4 (P:Program)(shr:Bool)(N:Nat):Nat->List TypeId->List PV->(List PV->List (Nat × Bo)->Option R)->Option R
 |_,[],ps,K=>Ad ps (K [] [])
 |id,t::ts,ps,K=>Ab ps fun p ps=>YY P shr N id t p fun v bs=>Y4 P shr N (id+N*OU P t) ts ps fun vs bs'=>K (v::vs) (bs++bs')
def Mi (P:Program)(t:TypeId):List TypeId:=
 match P.underlying t with
 |some (.tuple ts)=>ts.toList
 |_=>[t]
def M0 (vs:List PV)(t:Bool):PV:=bif t then .tup vs else vs.headD .top
def Nr (P:Program)(t:TypeId):Bool:=
 match P.underlying t with
 |some (.tuple _)=>true
 |_=>false
def Akq (op:BinOp)(a b:Int)(K:Bool->Option R):Option R:=
 match op with
 |.eql=>K (a==b)
 |.neq=>K (a != b)
 |.lss=>K (decide (a<b))
 |.leq=>K (decide (a<=b))
 |.gtr=>K (decide (a>b))
 |.geq=>K (decide (a>=b))
 |_=>none
def DS (op:BinOp)(k:IntKind)(a b:Int)(K:PV->Option R):Option R:=
 match op with
 |.add=>Ac ((k.wrap (a+b))) fun n=>K (.sc (.int k n))
 |.sub=>Ac ((k.wrap (a-b))) fun n=>K (.sc (.int k n))
 |.mul=>Ac ((k.wrap (a*b))) fun n=>K (.sc (.int k n))
 |.quo=>A9 (decide (b≠0)) (Ac ((k.wrap (a.tdiv b))) fun n=>K (.sc (.int k n)))
 |.rem=>A9 (decide (b≠0)) (Ac ((a.tmod b)) fun n=>K (.sc (.int k n)))
 |.and=>Ac (Akc k a b) fun n=>K (.sc (.int k n))
 |.or=>Ac (NQ k a b) fun n=>K (.sc (.int k n))
 |.xor=>Ac (F4 k a b) fun n=>K (.sc (.int k n))
 |.andNot=>Ac (Aij k a b) fun n=>K (.sc (.int k n))
 |op=>Akq op a b fun r=>K (.sc (.bool r))
def CM (op:BinOp)(x y:ByteArray)(K:PV->Option R):Option R:=
 match op with
 |.add=>A9 (decide (x.size+y.size<=9223372036854775807)) (Ac (x++y) fun s=>K (.sc (.string s)))
 |.eql=>K (.sc (.bool (x.data.toList==y.data.toList)))
 |.neq=>K (.sc (.bool !(x.data.toList==y.data.toList)))
 |.lss=>K (.sc (.bool (Op.bytesLess x.data.toList y.data.toList)))
 |.leq=>K (.sc (.bool (Op.bytesLess x.data.toList y.data.toList||x.data.toList==y.data.toList)))
 |.gtr=>K (.sc (.bool !(Op.bytesLess x.data.toList y.data.toList||x.data.toList==y.data.toList)))
 |.geq=>K (.sc (.bool !(Op.bytesLess x.data.toList y.data.toList)))
 |_=>none
def DJ (e:Bool)(p:PV)(K:PV->Option R):Option R:=
 match p with
 |.sc (.slice none 0 0)=>K (.sc (.bool e))
 |.lst z _ n _=>Ba z (K (.sc (.bool e))) (Ba (decide (0<n)) (K (.sc (.bool !e))) (K .ub))
 |.view _ _ _ n=>Ba (decide (0<n)) (K (.sc (.bool !e))) (K .ub)
 |_=>none
def QT (P:Program):List Field->Nat->Bool
 |[],_=>true
 |f::r,i=>Nat.beq f.offset i&&(f.name != "_")&&(match P.underlying f.type with|some (.int _)=>true|some .bool=>true|some .string=>true|_=>false)&&QT P r (i+1)
def Mo (P:Program):List Field->Nat->Bool
  |[],_=>true
  |f::r,i=>Nat.beq f.offset i&&(f.name != "_") &&
    (match P.underlying f.type with
     |some (.int _)=>Mo P r (i+1)
     |some .bool=>Mo P r (i+1)
     |some .string=>Mo P r (i+1)
     |some (.struct gs)=>QT P gs.toList 0 && !P.stoodInHeld f.type&&(P.info? f.type).isSome&&Nat.beq (Bb P f.type) gs.size&&Mo P r (i+gs.size)
     |_=>false)
def ME (P:Program)(t:TypeId)(fs:Array Field):Bool:=Mo P fs.toList 0 && !P.stoodInHeld t && !P.eqGuardType P.depth t
def fty (P:Program)(f:Field):CT:=
 match P.underlying f.type with
 |some (.int k)=>.int k
 |some .bool=>.bool
 |some .string=>.str
 |_=>.any
def PQ (P:Program)(f:Field):List CT:=
 match P.underlying f.type with
 |some (.struct gs)=>gs.toList.map (fty P)
 |_=>[fty P f]
def Tm (P:Program):List Field->List CT
 |[]=>[]
 |f::r=>PQ P f++Tm P r
def Kr:List CT->List PV->List PV->(Bool->Option R)->Option R
 |[],[],[],K=>K true
 |.int k::ts,p::ps,q::qs,K=>Ak k p fun a=>Ak k q fun b=>Kr ts ps qs fun r=>K ((a==b)&&r)
 |.bool::ts,p::ps,q::qs,K=>Ao p fun a=>Ao q fun b=>Kr ts ps qs fun r=>K ((a==b)&&r)
 |.str::ts,p::ps,q::qs,K=>A0 p fun a=>A0 q fun b=>Kr ts ps qs fun r=>K ((a==b)&&r)
 |_,_,_,_=>none
def Ac5 (P:Program)(op:BinOp)(t:TypeId)(x y:PV)(K:PV->Option R):Option R:=
 match P.underlying t with
 |some (.int k)=>
  match op with
  |.shl=>Ak k x fun a=>Dn y fun _ b=>A9 (decide (0<=b)) (Ac (Jw k a b) fun n=>K (.sc (.int k n)))
  |.shr=>Ak k x fun a=>Dn y fun _ b=>A9 (decide (0<=b)) (Ac (AC k a b) fun n=>K (.sc (.int k n)))
  |op=>Ak k x fun a=>Ak k y fun b=>DS op k a b K
 |some .string=>A0 x fun a=>A0 y fun b=>CM op a b K
 |some .bool=>
  match op with
  |.eql=>Ao x fun a=>Ao y fun b=>K (.sc (.bool (a==b)))
  |.neq=>Ao x fun a=>Ao y fun b=>K (.sc (.bool !(a==b)))
  |_=>none
 |some (.slice _)=>
  match op,y with
  |.eql,.sc (.slice none 0 0)=>DJ true x K
  |.neq,.sc (.slice none 0 0)=>DJ false x K
  |_,_=>none
 |some (.map _ _)=>
  match op,x,y with
  |.eql,.sc (.map none),.sc (.map none)=>K (.sc (.bool true))
  |.neq,.sc (.map none),.sc (.map none)=>K (.sc (.bool false))
  |_,_,_=>none
 |_=>none
def Sk (P:Program)(op:BinOp)(t:TypeId)(x y:PV)(K:PV->Option R):Option R:=
 match P.underlying t with
 |some (.struct fs)=>
  match op with
  |.eql=>A9 (ME P t fs) (Fw x fun xs=>Fw y fun ys=>Kr (Tm P fs.toList) xs ys fun b=>K (.sc (.bool b)))
  |.neq=>A9 (ME P t fs) (Fw x fun xs=>Fw y fun ys=>Kr (Tm P fs.toList) xs ys fun b=>K (.sc (.bool !b)))
  |_=>none
 |_=>Ac5 P op t x y K
def unK (op:UnOp)(x:PV)(K:PV->Option R):Option R:=
 match op with
 |.not=>Ao x fun b=>K (.sc (.bool !b))
 |.neg=>Dn x fun k n=>Ac (k.wrap (0-n)) fun n=>K (.sc (.int k n))
 |.xor=>Dn x fun k n=>Ac (Avp k n) fun n=>K (.sc (.int k n))
 |_=>none
def Nc:List PV->Option (List UInt8)
 |[]=>some []
 |.sc (.int .u8 n)::r=>(Nc r).map (n.toNat.toUInt8 :: ·)
 |_::_=>none
def Sv:List PV->Option (List Int)
 |[]=>some []
 |.sc (.int .i32 n)::r=>(Sv r).map (n :: ·)
 |_::_=>none
def Pd (s:ByteArray):List PV:=s.data.toList.map fun b=>.sc (.int .u8 b.toNat)
def DQ (P:Program)(rdf:Nat->Option (List PV)) (d:Nat)(src dst:TypeId)(x:PV)(K:PV->List (Nat × Bo)->Option R):Option R:=
 match P.underlying dst with
 |some (.int k)=>A9 (P.underlying src).isSome (Dn x fun _ n=>Ac (k.wrap n) fun n=>K (.sc (.int k n)) [])
 |some .string=>
  match P.underlying src with
  |some .string=>A0 x fun s=>K (.sc (.string s)) []
  |some (.slice e)=>
   match P.underlying e with
   |some (.int .u8)=>RU rdf 1 x fun n c=>A9 (decide (c.length=n)) (Cy (Nc c) fun b=>K (.sc (.string ⟨b.toArray⟩)) [])
   |some (.int .i32)=>RU rdf 1 x fun n c=>A9 (decide (c.length=n)) (Cy (Sv c) fun ns=>Ac (runesBytes ns) fun s=>K (.sc (.string s)) [])
   |_=>none
  |_=>none
 |some (.slice e)=>
  match P.underlying e,P.underlying src with
  |some (.int .u8),some .string=>A0 x fun s=>A9 (decide (s.size<=1099511627776)) (K (.view d 1 0 s.size) [(d,.ar false (Pd s))])
  |_,_=>none
 |_=>none
def Gg (p:Option PV)(dflt:Nat)(K:Nat->Option R):Option R:=
 match p with
 |none=>K dflt
 |some p=>Dn p fun _ i=>A9 (decide (0<=i)) (K i.toNat)
def Xm (P:Program)(rdf:Nat->Option (List PV)) (t:TypeId)(x:PV)(lo hi:Option PV)(K:PV->Option R):Option R:=
 match P.underlying t with
 |some .string=>A0 x fun s=>Gg lo 0 fun l=>Gg hi s.size fun h=>A9 (decide (l<=h)&&decide (h<=s.size)) (Ac (s.extract l h) fun s=>K (.sc (.string s)))
 |some (.slice e)=>A9 (P.info? e).isSome (
  match x with
  |.view id es off n=>A9 (Nat.beq es (Bb P e)) (Gg lo 0 fun l=>Gg hi n fun h=>A9 (decide (l<=h)&&decide (h<=n)) (Ac (off+l*es) fun o=>Ac (h-l) fun n=>K (.view id es o n)))
  |x=>Nb (Bb P e) x fun z n c=>Gg lo 0 fun l=>Gg hi n fun h=>A9 (decide (l<=h)&&decide (h<=n)) (Ac (h-l) fun n=>Ac ((c.drop (l*Bb P e)).take (n*Bb P e)) fun c=>K (.lst z (Bb P e) n c)))
 |some (.array n e)=>A9 (P.info? e).isSome (
  match x with
  |.ptr id off=>Cy (rdf id) fun c=>A9 (decide (1<=n*Bb P e)&&decide (off+n*Bb P e<=c.length)&&Nat.beq (Bb P e) 1)<|Gg lo 0 fun l=>Gg hi n fun h=>A9 (decide (l<=h)&&decide (h<=n)) (Ac (off+l*Bb P e) fun o=>Ac (h-l) fun n=>K (.view id (Bb P e) o n))
  |_=>none)
 |_=>none
def Sg (P:Program)(d:Nat)(t:TypeId)(x:PV)(lo hi mx:Option PV)(K:PV->List (Nat × Bo)->Option R):Option R:=
 match P.underlying t with
 |some (.slice e)=>A9 ((P.info? e).isSome&&hi.isSome) (
  match x with
  |.view _ es _ n=>A9 (Nat.beq es (Bb P e)) (Gg lo 0 fun l=>Gg hi n fun h=>Gg mx n fun m=>A9 (Nat.beq l m&&Nat.beq h m&&decide (m<=n)) (K (.view d (Bb P e) 0 0) [(d,.ar false [])]))
  |x=>Nb (Bb P e) x fun _ n _=>Gg lo 0 fun l=>Gg hi n fun h=>Gg mx n fun m=>A9 (Nat.beq l m&&Nat.beq h m&&decide (m<=n)) (K (.view d (Bb P e) 0 0) [(d,.ar false [])]))
 |_=>none
def Rb (x:PV)(d:Nat)(K:PV->Option R):Option R:=
 match x with
 |.ptr id off=>K (.ptr id (off+d))
 |.iptr c off=>K (.iptr c (off+d))
 |_=>none
def BN (P:Program)(e:TypeId):Bool:=(P.info? e).isSome
def Oy (P:Program)(t:TypeId)(f:Nat):Option (Nat × TypeId):=
 match P.underlying t with
 |some (.struct fs)=>(fs[f]?).map fun g=>(g.offset,g.type)
 |_=>none
def Jq (P:Program)(t:TypeId)(x:PV)(i:Int)(K:PV->Option R):Option R:=
 match P.underlying t with
 |some (.array n e)=>A9 (BN P e) (A9 (decide (0<=i)&&decide (i<n)) (Rb x (i.toNat*Bb P e) K))
 |some (.slice e)=>A9 (BN P e) (
  match x with
  |.view id es off n=>A9 (Nat.beq es (Bb P e)) (A9 (decide (0<=i)&&decide (i<n)) (K (.ptr id (off+i.toNat*es))))
  |x=>Nb (Bb P e) x fun _ n c=>A9 (decide (0<=i)&&decide (i<n)) (K (.iptr c (i.toNat*Bb P e))))
 |_=>none
def Un (P:Program)(rdf:Nat->Option (List PV)) (t:TypeId)(x:PV)(K:PV->Option R):Option R:=
 match x with
 |.ptr id off=>A9 (Hy P t) (Cy (rdf id) fun c=>Na (Hl P t) c off fun cs=>XZ (B2 P t) cs K)
 |.iptr c off=>A9 (Hy P t) (Qv (Hl P t) c off fun cs=>XZ (B2 P t) cs K)
 |_=>none
def LD:PV->PV
 |.lst _ es n c=>.lst false es n c
 |p=>p
def UD:PV->PV
 |.agg cs=>.agg (cs.map LD)
 |p=>LD p
def Vz (nz:Bool)(P:Program)(rdf rdaf:Nat->Option (List PV)) (t:TypeId)(x:PV)(K:PV->Option R):Option R:=
 match x with
 |.ptr id off=>A9 (Hy P t) (
  match rdaf id with
  |some c=>Qv (Hl P t) c off fun cs=>XZ (B2 P t) cs fun v=>K (bif nz then v else UD v)
  |none=>Cy (rdf id) fun c=>Na (Hl P t) c off fun cs=>XZ (B2 P t) cs K)
 |.iptr c off=>A9 (Hy P t) (Qv (Hl P t) c off fun cs=>XZ (B2 P t) cs fun v=>K (bif nz then v else UD v))
 |_=>none
def Ce (cells new:List PV)(off:Nat):List PV:=cells.take off++new++cells.drop (off+new.length)
def okP:PV->Bool
 |.agg _=>true
 |.lst _ _ _ _=>true
 |.view _ _ _ _=>true
 |.sc (.int _ _)=>true
 |.sc (.bool _)=>true
 |.sc (.string _)=>true
 |.sc (.slice none 0 0)=>true
 |_=>false
def Rx (Gm:Nat->Option (Nat × Nat)):List (Nat × PV)->List PV->(List PV->Option R)->Option R
 |[],cells,K=>K cells
 |(i,p)::r,cells,K=>Cy (Gm i) fun q=>A9 (okP p&&Nat.beq (cellsOf p).length q.2&&Nat.ble (q.1+q.2) cells.length) (Ac (Ce cells (cellsOf p) q.1) fun cells=>Rx Gm r cells K)
def Po (P:Program)(t:TypeId)(i:Nat):Option (Nat × Nat):=
 match P.underlying t with
 |some (.struct fs)=>(fs[i]?).map fun f=>(f.offset,Bb P f.type)
 |some (.array _ e)=>some (i*Bb P e,Bb P e)
 |some (.slice e)=>some (i*Bb P e,Bb P e)
 |_=>none
def Og (P:Program)(t:TypeId):Bool:=
 match P.underlying t with
 |some (.struct fs)=>fs.toList.all fun f=>BN P f.type
 |some (.array _ e)=>BN P e
 |some (.slice e)=>BN P e
 |_=>false
def Nw (P:Program)(t:TypeId):Option Value:=(P.info? t).bind (·.zero)
def Gk (P:Program)(t:TypeId)(K:List PV->Option R):Option R:=
 Cy (Nw P t) fun v=>A9 (Nat.beq v.cells.toList.length (Hl P t).length&&Hy P t) (Qv (Hl P t) (v.cells.toList.map .sc) 0 K)
def Rc (P:Program)(t:TypeId):Bool:=
 match P.underlying t with
 |some (.array _ _)=>true
 |_=>false
def Ahu (P:Program)(t:TypeId)(cells:List PV):Bo:=bif Rc P t then .ar false cells else .st cells
def Pz (n:Nat)(l:List PV):List PV:=(List.replicate n l).flatten
def Alc (a b:PV)(K:PV->Option R):Option R:=Dn a fun k x=>Ak k b fun y=>Ac (if y<x then y else x) fun n=>K (.sc (.int k n))
def Aiv (a b:PV)(K:PV->Option R):Option R:=Dn a fun k x=>Ak k b fun y=>Ac (if x<y then y else x) fun n=>K (.sc (.int k n))
def YM (P:Program)(t:TypeId)(x:PV)(K:Nat->Option R):Option R:=
 match P.underlying t with
 |some .string=>A0 x fun s=>K s.size
 |some (.array n _)=>K n
 |some (.slice e)=>
  match x with
  |.view _ es _ n=>A9 (Nat.beq es (Bb P e)) (K n)
  |x=>Nb (Bb P e) x fun _ n _=>K n
 |_=>none
end
abbrev An:=FuncId->List PV->Option Aq
section
variable {R:Type}
def Ii (P:Program)(ts:List TypeId):Bool:=ts.any fun t=>(Vq P t).isSome||(Hl P t).any fun c=>match c with | .sl _=>true|_=>false
def Xr (P:Program)(t:TypeId)(tm:Nat->PV)(x:Operand)(K:PV->Option R):Option R:=
 match x with
 |.const v=>cvK P t v K
 |x=>K (Bz tm x)
def MY (P:Program)(e:TypeId):Bool:=
 match P.info? e with
 |some i=>(match i.zero with|some z=>Nat.beq z.cells.size i.size|none=>false)
 |none=>false
def SQ (P:Program)(rdaf:Nat->Option (List PV)) (es:Nat)(t:TypeId)(x:PV)(K:Nat->List PV->Option R):Option R:=
 match P.underlying t with
 |some .string=>A9 (Nat.beq es 1) (A0 x fun b=>K b.size (Pd b))
 |some (.slice _)=>RU rdaf es x K
 |_=>none
abbrev VN (P:Program)(s:St)(es:Nat)(t:TypeId)(x:PV)(K:Nat->List PV->Option R):Option R:=SQ P (Ic s.hp) es t x K
def Vh (c:Call):Bool:=
 match c.args.toList with
 |.const (.slice none 0 0)::_=>true
 |_=>false
def Sm (P:Program)(rdaf:Nat->Option (List PV)) (d:Nat)(t tx:TypeId)(x:PV)(K:PV->List (Nat × Bo)->Option R):Option R:=
 match P.underlying t with
 |some (.slice e)=>A9 (MY P e) <|
  SQ P rdaf (Bb P e) tx x fun m new=>
   A9 (decide (new.length=m*Bb P e)&&decide (m*((P.info? e).map (·.bytes)).getD 0<=1099511627776)&&decide (m<=1099511627776)) (K (.view d (Bb P e) 0 m) [(d,.ar false new)])
 |_=>none
def Is (k:Bool):List Operand->List PV->List PV
  |x::xs,p::ps=>
    (match x,p with
     |.const (.slice none 0 0),.lst z es 0 []=>.lst (k||z) es 0 []
     |_,p=>p)::Is k xs ps
  |_,ps=>ps
def Aag (P:Program)(t:TypeId)(x:PV)(K:Nat->Option R):Option R:=
 match P.underlying t with
 |some (.slice e)=>Nb (Bb P e) x fun z _ _=>A9 z (K 0)
 |_=>none
def DA (P:Program)(f:FuncId)(c:Call):List TypeId:=
 match P.funcs[f]? with
 |some fn=>fn.params.toList
 |none=>c.argTypes.toList
def CZ (C:Gl)(P:Program)(N:Nat)(call:An)(tm:Nat->PV)(rdaf:Nat->Option (List PV)) (o:Oper)(c:Call)(f:FuncId)(K:PV->List Nat->List (Nat × Bo)->Option R):Option R:=
 EN P rdaf (DA P f c) (c.args.toList.map (Bz tm)) fun vs m=>
  Ai (call f (Is (C.kz f) c.args.toList vs)) fun rv ro=>Ad ro (A9 (Nat.blt 0 N)<|Y4 P (C.shr f) N (o.dst.getD 0) (Mi P o.type) rv fun ws bs=>
   A9 (bif Nr P o.type then !Nat.beq ws.length 1 else Nat.beq ws.length 1)<|K (M0 ws (Nr P o.type)) (bif Ii P (Mi P o.type) then m else []) bs)
def CS (C:Gl)(P:Program)(N:Nat)(call:An)(tm:Nat->PV)(rdf rdaf:Nat->Option (List PV)) (o:Oper)(K:PV->List Nat->List (Nat × Bo)->Option R):Option R:=
  match o.op with
  |.move x=>Xr P o.type tm x fun p=>K p [] []
  |.assign x=>Xr P o.type tm x fun p=>K p [] []
  |.pick c a b=>Ao (Bz tm c) fun t=>Ba t (K (Bz tm a) [] []) (K (Bz tm b) [] [])
  |.alloc t=>Cy o.dst fun d=>Gk P t fun cs=>K (.ptr d 0) [] [(d,Ahu P t cs)]
  |.box t x=>Cy o.dst fun d=>A9 (Hy P t&&Nat.beq (cellsOf (Bz tm x)).length (Hl P t).length)
      (bif Rc P t then Qv (Hl P t) (cellsOf (Bz tm x)) 0 fun cs=>K (.ptr d 0) [] [(d,.ar false cs)]
       else Na (Hl P t) (cellsOf (Bz tm x)) 0 fun cs=>K (.ptr d 0) [] [(d,.st cs)])
  |.build t ps=>A9 (Og P t&&B2 P t)<|Gk P t fun z=>Rx (Po P t) (ps.toList.map fun q=>(q.1,Bz tm q.2)) z fun cs=>Na (Hl P t) cs 0 fun cs'=>K (.agg cs') [] []
  |.buildSlice t n ps=>Cy o.dst fun d=>
      match P.underlying t with
      |some (.slice e)=>A9 (Og P t&&Nat.ble (n*Bb P e) 16777216) (Gk P e fun z=>Rx (Po P t) (ps.toList.map fun q=>(q.1,Bz tm q.2)) (Pz n z) fun cs=>
          Mz rdaf (List.replicate n (Hl P e)).flatten cs fun cs' m=>K (.view d (Bb P e) 0 n) m [(d,.ar false (bif C.nz N then OO true cs cs' else cs'))])
      |_=>none
  |.load t a=>Vz (C.nz N) P rdf rdaf t (Bz tm a) fun v=>K v [] []
  |.nilCheck x=>Rb (Bz tm x) 0 fun p=>K p [] []
  |.binOp op t x y _=>
      Sk P op t (Bz tm x) (Bz tm y) fun v=>K v [] []
  |.unOp op _ x=>unK op (Bz tm x) fun v=>K v [] []
  |.convert src dst x=>DQ P rdaf (o.dst.getD 0) src dst (Bz tm x) fun v b=>Cy o.dst fun _=>K v [] b
  |.makeSlice t l c=>Cy o.dst fun d=>
      match P.underlying t with
      |some (.slice e)=>Dn (Bz tm l) fun _ n=>Dn (Bz tm c) fun _ m=>
          A9 (decide (0<=n)&&decide (n<=m)&&decide (m*((P.info? e).map (·.bytes)).getD 0<=1099511627776)&&decide (m<=1099511627776))
            (Gk P e fun z=>K (.view d (Bb P e) 0 n.toNat) [] [(d,.ar false (Pz n.toNat z))])
      |_=>none
  |.slice t x lo hi mx=>
      match mx with
      |none=>Xm P rdf t (Bz tm x) (lo.map (Bz tm)) (hi.map (Bz tm)) fun v=>K v [] []
      |some m=>Cy o.dst fun d=>Sg P d t (Bz tm x) (lo.map (Bz tm)) (hi.map (Bz tm)) (some (Bz tm m)) fun v nw=>K v [] nw
  |.fieldAddr t x f=>Cy (Oy P t f) fun q=>A9 (Nat.ble 1 (Bb P q.2)) (Rb (Bz tm x) q.1 fun p=>K p [] [])
  |.field t x f=>Cy (Oy P t f) fun q=>A9 (Hy P q.2)<|Fw (Bz tm x) fun cs=>Na (Hl P q.2) cs q.1 fun c=>XZ (B2 P q.2) c fun v=>K v [] []
  |.indexAddr t x i=>Dn (Bz tm i) fun _ n=>Jq P t (Bz tm x) n fun p=>K p [] []
  |.index t x i=>Dn (Bz tm i) fun _ n=>
      match P.underlying t with
      |some .string=>A0 (Bz tm x) fun s=>A9 (decide (0<=n)) (Cy (s.data.toList[n.toNat]?) fun b=>K (.sc (.int .u8 b.toNat)) [] [])
      |some (.array len e)=>Fw (Bz tm x) fun cs=>A9 (decide (0<=n)&&decide (n<len)&&Hy P e) (Na (Hl P e) cs (n.toNat*Bb P e) fun c=>XZ (B2 P e) c fun v=>K v [] [])
      |_=>none
  |.lookup t x k ok=>
      match P.underlying t with
      |some (.map kt vt)=>A9 (match P.underlying kt with|some .string=>true|_=>false) (
        match Bz tm x with
        |.sc (.map none)=>A0 (Bz tm k) fun _=>Cy (Nw P vt) fun z=>cvK P vt z fun v=>A9 (match v with | .tup _=>false|_=>true) (K (bif ok then .tup [v,.sc (.bool false)] else v) [] [])
        |_=>none)
      |_=>none
  |.extract x i=>
      match Bz tm x with
      |.tup vs=>Cy vs[i]? fun p=>K p [] []
      |_=>none
  |.call c=>
      match c.callee with
      |.builtin .len=>Ab c.args.toList fun x _=>Ab c.argTypes.toList fun t _=>YM P t (Bz tm x) fun n=>K (.sc (.int .i64 n)) [] []
      |.builtin .cap=>Ab c.args.toList fun x _=>Ab c.argTypes.toList fun t _=>Aag P t (Bz tm x) fun n=>K (.sc (.int .i64 n)) [] []
      |.builtin .min=>Ab c.args.toList fun x r=>Ab r fun y r'=>Ad r' (Alc (Bz tm x) (Bz tm y) fun v=>K v [] [])
      |.builtin .max=>Ab c.args.toList fun x r=>Ab r fun y r'=>Ad r' (Aiv (Bz tm x) (Bz tm y) fun v=>K v [] [])
      |.builtin .append=>A9 (Vh c) (Cy o.dst fun d=>Ab c.args.toList fun _ r=>Ab r fun x r'=>Ad r' (Ab c.argTypes.toList fun t u=>Ab u fun tx _=>Sm P rdaf d t tx (Bz tm x) fun v nw=>K v [] nw))
      |.value (.func f)=>CZ C P N call tm rdaf o c f K
      |.value (.tmp t)=>fvK (tm t) fun f=>CZ C P N call tm rdaf o c f K
      |_=>none
  |_=>none
def Qk (C:Gl)(P:Program)(o:Op):Bool:=
 match o with
 |.store .. =>true
 |.call c=>
  match c.callee with
  |.builtin .append=> !Vh c
  |.builtin .copy=>true
  |.builtin _=>false
  |.value (.func f)=>((DA P f c).any fun t=>(Vq P t).isSome)||((DA P f c).zipIdx.any fun q=>C.mvd f q.2||C.lnd f q.2)
  |_=>false
 |_=>false
def Rp (b:Bo):Bo:=
 match b with
 |.ar _ c=>.ar true c
 |b=>b
def Ag (hp:Nat->Option Bo)(ids:List Nat):Nat->Option Bo:=fun i=>bif ids.any (Nat.beq i) then (hp i).map Rp else hp i
def Ar (hp:Nat->Option Bo):List (Nat × Bo)->Nat->Option Bo
 |[]=>hp
 |(i,b)::r=>Ar (Cn hp i (some b)) r
def Bq (hp:Nat->Option Bo):List (Nat × Bo)->Bool
 |[]=>true
 |(i,_)::r=>(hp i).isNone && !(r.any fun q=>Nat.beq q.1 i)&&Bq hp r
def Bl (tm:Nat->PV)(d:Option Tmp)(v:PV):Nat->PV:=
 match d with
 |some i=>Cn tm i v
 |none=>tm
def Fz (N:Nat)(d:Option Tmp):Bool:=
 match d with
 |some i=>Nat.blt i N
 |none=>true
def Xb (N:Nat)(s:St)(d:Option Tmp)(v:PV)(fz:List Nat)(nw:List (Nat × Bo)) (K:St->Option R):Option R:=
 A9 (Fz N d&&Bq s.hp nw) (K ⟨Bl s.tm d v,Ar (Ag s.hp fz) nw⟩)
def Xx (P:Program)(s:St)(t:TypeId)(a x:PV)(K:St->Option R):Option R:=
 match a with
 |.ptr id off=>
  match s.hp id with
  |some (.st c)=>A9 (Hy P t&&Nat.beq (cellsOf x).length (Hl P t).length&&decide (off+(Hl P t).length<=c.length)) (Na (Hl P t) (cellsOf x) 0 fun cs=>Ac (Ce c cs off) fun c=>K ⟨s.tm,Cn s.hp id (some (.st c))⟩)
  |some (.ar false c)=>A9 (Hy P t&&decide (off+(Hl P t).length<=c.length)) (Mz (Ic s.hp) (Hl P t) (cellsOf x) fun cs m=>A9 (!m.any (Nat.beq id)) (Ac (Ce c cs off) fun c=>K ⟨s.tm,Cn (Ag s.hp m) id (some (.ar false c))⟩))
  |_=>none
 |_=>none
def V1 (P:Program)(t:TypeId):Bool:=
 match P.underlying t with
 |some (.int _)=>true
 |_=>false
def R8 (P:Program)(N:Nat)(s:St)(d:Nat)(e:TypeId)(b x:PV)(K:St->Option R):Option R:=
 Dn x fun _ n=>Nb (Bb P e) b fun z _ _=>
  A9 (z&&Nat.blt d N&&(s.hp d).isNone&&decide (0<=n)&&decide (n.toNat*((P.info? e).map (·.bytes)).getD 0<=1099511627776)&&decide (n<=1099511627776))
   (K ⟨Cn s.tm d (.view d (Bb P e) 0 n.toNat),Cn s.hp d (some (.ar false []))⟩)
def Nd (P:Program)(N:Nat)(s:St)(d:Nat)(t tx:TypeId)(b x:PV)(K:St->Option R):Option R:=
 match P.underlying t with
 |some (.slice e)=>A9 (MY P e) <|
  bif V1 P tx then R8 P N s d e b x K else
  VN P s (Bb P e) tx x fun m new=>
  match b with
  |.view id es off n=>
   match s.hp id with
   |some (.ar false c)=>
    A9 (Nat.beq es (Bb P e)&&Nat.beq off 0&&Nat.blt d N&&(s.hp d).isNone&&decide (n*es<=c.length)&&decide (new.length=m*es)
     && decide ((n+m)*((P.info? e).map (·.bytes)).getD 0<=1099511627776)&&decide (n+m<=1099511627776))
     (Ac (n+m) fun n'=>Ac (c.take (n*es)++new) fun c=>K ⟨Cn s.tm d (.view d es 0 n'),Cn (Cn s.hp id (some .mv)) d (some (.ar false c))⟩)
   |_=>none
  |b=>Nb (Bb P e) b fun z _ _=>
    A9 (z&&Nat.blt d N&&(s.hp d).isNone&&decide (new.length=m*Bb P e)&&decide (m*((P.info? e).map (·.bytes)).getD 0<=1099511627776)&&decide (m<=1099511627776))
     (K ⟨Cn s.tm d (.view d (Bb P e) 0 m),Cn s.hp d (some (.ar false new))⟩)
 |_=>none
def JC (P:Program)(N:Nat)(s:St)(d:Option Tmp)(t tx:TypeId)(b x:PV)(K:St->Option R):Option R:=
 match P.underlying t with
 |some (.slice e)=>A9 (BN P e&&Fz N d) <|
  VN P s (Bb P e) tx x fun m new=>
  match b with
  |.view id es off n=>
   match s.hp id with
   |some (.ar false c)=>A9 (Nat.beq es (Bb P e)&&decide (off+n*es<=c.length)&&decide (new.length=m*es))
     (Ac (min m n) fun k=>Ac (Ce c (new.take (k*es)) off) fun c=>K ⟨Bl s.tm d (.sc (.int .i64 k)),Cn s.hp id (some (.ar false c))⟩)
   |_=>none
  |_=>none
 |_=>none
def Ab8 (mv:Bool)(hp:Nat->Option Bo)(t:CT)(p:PV)(K:PV->List Nat->List Nat->Option R):Option R:=
 match t with
 |.sl es=>
  bif mv then
   match p with
   |.view id es' off n=>
    match hp id with
    |some (.ar false c)=>
     bif Nat.beq es' es&&Nat.beq off 0 then A9 (decide (n*es<=c.length)) (K (.own es n (c.take (n*es))) [] [id])
     else M8 (Ic hp) (.sl es) (.view id es' off n) fun c m=>K c m []
    |_=>M8 (Ic hp) (.sl es) (.view id es' off n) fun c m=>K c m []
   |p=>Nb es p fun z n c=>bif z then K (.own es 0 []) [] [] else K (.lst false es n c) [] []
  else M8 (Ic hp) (.sl es) p fun c m=>K c m []
 |t=>X7 t p fun c=>K c [] []
def Yv (mv:Bool)(hp:Nat->Option Bo):List CT->List PV->(List PV->List Nat->List Nat->Option R)->Option R
 |[],[],K=>K [] [] []
 |t::ts,p::ps,K=>Ab8 mv hp t p fun c m x=>Yv mv hp ts ps fun cs ms xs=>K (c::cs) (m++ms) (x++xs)
 |_,_,_=>none
inductive Gc where
 |var (id off:Nat) (cts:List CT) (ws:List PV)
 |row (id:Nat)
 |none
def Gc.ids:Gc->List Nat
 |.var id _ _ _=>[id]
 |.row id=>[id]
 |.none=>[]
def As2 (P:Program)(t:TypeId):Option TypeId:=
 match P.underlying t with
 |some (.slice e)=>some e
 |_=>none
def Ahx (hp:Nat->Option Bo)(es:Nat)(p:PV)(K:PV->List Gc->Option R):Option R:=
 match p with
 |.view id es' off n=>
  match hp id with
  |some (.ar false c)=>A9 (Nat.beq es' es&&Nat.beq off 0) (K (.tup [.own es n c]) [.row id])
  |_=>none
 |p=>Nb es p fun z _ _=>A9 z (K (.tup [.own es 0 []]) [.none])
def Yp (C:Gl)(P:Program)(f:FuncId)(hp:Nat->Option Bo)(i:Nat)(t:TypeId)(p:PV)(K:PV->List Nat->List Nat->List Gc->Option R):Option R:=
 match Vq P t with
 |some e=>
  match p with
  |.ptr id off=>
   match hp id with
   |some (.st c)=>A9 (Hy P e&&decide (off+(Hl P e).length<=c.length)) (Yv (C.mvd f i) hp (Hl P e) ((c.drop off).take (Hl P e).length) fun cs m x=>K (.pbox cs) m x [.var id off (Hl P e) cs])
   |_=>none
  |_=>none
 |none=>
  bif C.lnd f i then Cy (As2 P t) fun e=>Ahx hp (Bb P e) p fun v l=>K v [] [] l
  else bif B2 P t then Fw p fun ps=>Yv (C.mvd f i) hp (Hl P t) ps fun cs m x=>K (.agg cs) m x []
  else Yv (C.mvd f i) hp (Hl P t) [p] fun cs m x=>Ab cs fun c r=>Ad r (K c m x [])
def IM (C:Gl)(P:Program)(f:FuncId)(hp:Nat->Option Bo):Nat->List TypeId->List PV->(List PV->List Nat->List Nat->List Gc->Option R)->Option R
 |_,[],[],K=>K [] [] [] []
 |i,t::ts,p::ps,K=>Yp C P f hp i t p fun v m x l=>IM C P f hp (i+1) ts ps fun vs ms xs ls=>K (v::vs) (m++ms) (x++xs) (l++ls)
 |_,_,_,_=>none
def R9 (hp:Nat->Option Bo)(ids:List Nat):Nat->Option Bo:=fun i=>bif ids.any (Nat.beq i) then (hp i).map (fun _=>Bo.mv) else hp i
def SK (N t:Nat):Nat:=N*(1000+t)
def OD (N:Nat)(hp:Nat->Option Bo):Nat->Nat->Nat
 |0,t=>t
 |k+1,t=>bif (hp (SK N t)).isNone then t else OD N hp k (t+1)
def Ab0 (N t:Nat)(ct:CT)(was p:PV)(K:Nat->PV->List (Nat × Bo)->Option R):Option R:=
 match ct with
 |.sl es=>
  match was with
  |.own _ _ _=>GH es p fun n c=>K (t+1) (.view (SK N t) es 0 n) [(SK N t,.ar false c)]
  |_=>Nb es p fun _ n c=>K t (.lst false es n c) []
 |ct=>X7 ct p fun c=>K t c []
def KB (N:Nat):Nat->List CT->List PV->List PV->(Nat->List PV->List (Nat × Bo)->Option R)->Option R
 |t,[],[],ps,K=>Ad ps (K t [] [])
 |t,ct::cts,w::ws,ps,K=>Ab ps fun p ps=>Ab0 N t ct w p fun t' c b=>KB N t' cts ws ps fun t'' cs bs=>K t'' (c::cs) (b++bs)
 |_,_,_,_,_=>none
def Tr (N:Nat):Nat->List Gc->List (List PV)->(Nat->Option Bo)->((Nat->Option Bo)->List (Nat × Bo)->Option R)->Option R
 |_,[],ro,hp,K=>Ad ro (K hp [])
 |t,.var id off cts ws::l,ro,hp,K=>Ab ro fun cs ro=>KB N t cts ws cs fun t' cs' bs=>
   match hp id with
   |some (.st c)=>Ac (Ce c cs' off) fun c=>Tr N t' l ro (Cn hp id (some (.st c))) fun Cs bs'=>K Cs (bs++bs')
   |_=>none
 |t,.row id::l,ro,hp,K=>Ab ro fun cs ro=>Tr N t l ro (Cn hp id (some (.ar false cs))) K
 |t,.none::l,ro,hp,K=>Ab ro fun _ ro=>Tr N t l ro hp K
def Dy:List Nat->Bool
 |[]=>true
 |a::r=> !(r.any (Nat.beq a))&&Dy r
def Xt (C:Gl)(P:Program)(N:Nat)(call:An)(s:St)(o:Oper)(f:FuncId)(c:Call)(K:St->Option R):Option R:=
 IM C P f s.hp 0 (DA P f c) (c.args.toList.map (Bz s.tm)) fun vs m x l=>
  A9 (Dy (l.flatMap Gc.ids++x)&&m.all (fun i=> !((l.flatMap Gc.ids++x).any (Nat.beq i)))&&Nat.blt 0 N&&Fz N o.dst) <|
  Ai (call f (Is (C.kz f) c.args.toList vs)) fun rv ro=>
   Y4 P (C.shr f) N (o.dst.getD N) (Mi P o.type) rv fun ws bs=>
    A9 (bif Nr P o.type then !Nat.beq ws.length 1 else Nat.beq ws.length 1) <|
    A8h (OD N s.hp 100 0) fun t0=>Tr N t0 l ro (R9 (Ag s.hp m) x) fun Cs bs'=>
     A9 (Bq Cs (bs++bs')) (K ⟨Bl s.tm o.dst (M0 ws (Nr P o.type)),Ar Cs (bs++bs')⟩)
def Td (C:Gl)(P:Program)(N:Nat)(call:An)(s:St)(o:Oper)(K:St->Option R):Option R:=
 match o.op with
 |.store t a x=>A9 (o.dst.isNone) (Xx P s t (Bz s.tm a) (Bz s.tm x) K)
 |.call c=>
  match c.callee with
  |.builtin .append=>Cy o.dst fun d=>Ab c.args.toList fun b r=>Ab r fun x r'=>Ad r' (Ab c.argTypes.toList fun t u=>Ab u fun tx _=>Nd P N s d t tx (Bz s.tm b) (Bz s.tm x) K)
  |.builtin .copy=>Ab c.args.toList fun b r=>Ab r fun x r'=>Ad r' (Ab c.argTypes.toList fun t u=>Ab u fun tx _=>JC P N s o.dst t tx (Bz s.tm b) (Bz s.tm x) K)
  |.value (.func f)=>Xt C P N call s o f c K
  |_=>none
 |_=>none
def QG (C:Gl)(P:Program)(N:Nat)(call:An)(o:Oper)(s:St)(K:St->Option R):Option R:=
 bif Qk C P o.op then Td C P N call s o K
 else CS C P N call s.tm (rd s.hp) (Ic s.hp) o fun v fz nw=>Xb N s o.dst v fz nw K
def Dm (C:Gl)(P:Program)(N:Nat)(call:An)(ops:Array Oper)(o:Oper)(s:St)(K:St->Option R):Option R:=
 match o.guard with
 |none=>QG C P N call o s K
 |some (j,want)=>
  match (ops[j]?).bind (·.dst) with
  |none=>none
  |some d=>
   match s.tm d with
   |.sc (.bool b)=>
    Ba b (bif want then QG C P N call o ⟨Cn s.tm d (.sc (.bool true)),s.hp⟩ K else A9 (Fz N o.dst) (K ⟨Bl (Cn s.tm d (.sc (.bool true))) o.dst (.sc undef),s.hp⟩))
     (bif want then A9 (Fz N o.dst) (K ⟨Bl (Cn s.tm d (.sc (.bool false))) o.dst (.sc undef),s.hp⟩) else QG C P N call o ⟨Cn s.tm d (.sc (.bool false)),s.hp⟩ K)
   |.sc (.tuple _)=>A9 (Fz N o.dst) (K ⟨Bl s.tm o.dst (.sc undef),s.hp⟩)
   |_=>none
def Mm (C:Gl)(P:Program)(N:Nat)(call:An)(ops:Array Oper):List Oper->St->(St->Option R)->Option R
 |[],s,K=>K s
 |o::r,s,K=>Dm C P N call ops o s fun s'=>Mm C P N call ops r s' K
noncomputable def KC (x y:Option R):Option R:=open Classical in if x=y then x else none
noncomputable def SU (ops:Array Oper)(o:Oper)(s:St)(F:St->Option R):Option R:=
 match o.guard with
 |none=>F s
 |some (j,_)=>
  match (ops[j]?).bind (·.dst) with
  |none=>F s
  |some d=>
   match s.tm d with
   |.ub=>KC (F ⟨Cn s.tm d (.sc (.bool true)),s.hp⟩) (F ⟨Cn s.tm d (.sc (.bool false)),s.hp⟩)
   |_=>F s
noncomputable def MR (C:Gl)(P:Program)(N:Nat)(call:An)(ops:Array Oper):List Oper->St->(St->Option R)->Option R
 |[],s,K=>K s
 |o::r,s,K=>SU ops o s fun s1=>Dm C P N call ops o s1 fun s'=>MR C P N call ops r s' K
end
def Ahk (o:Oper):List Nat:=o.op.operands.toList.filterMap fun x=>match x with | .tmp t=>some t|_=>none
def looks (ops:Array Oper)(o:Oper):List Nat:=
 Ahk o++(match o.guard with|some (g,_)=>((ops[g]?).bind (·.dst)).toList|none=>[])
def G5 (P:Program)(o:Op):Bool:=
 match o with
 |.slice t .. =>match P.underlying t with|some (.array _ _)=>true|_=>false
 |.buildSlice t _ _=>match P.underlying t with|some (.slice e)=>Ii P [e]|_=>true
 |.convert _ dst _=>match P.underlying dst with|some .string=>true|_=>false
 |.alloc _ | .box .. | .makeSlice .. =>false
 |.move _ | .assign _ | .pick .. | .build .. | .binOp .. | .unOp .. | .fieldAddr .. | .field .. | .index .. | .indexAddr .. | .extract .. | .nilCheck _=>false
 |.call c=>match c.callee with | .builtin .len=>false | .builtin .min=>false | .builtin .max=>false|_=>true
 |_=>true
def EU (C:Gl)(P:Program)(ops:Array Oper)(x y:Oper):Bool:=
 (match x.dst with|some d=>(looks ops y).any (Nat.beq d)||(match y.dst with|some e=>Nat.beq d e|none=>false)|none=>false) ||
 (match y.dst with|some e=>(looks ops x).any (Nat.beq e)|none=>false) ||
 (Qk C P x.op&&G5 P y.op)||(Qk C P y.op&&G5 P x.op)
def Hr (ops:List Oper):List Nat->List Nat
 |acc=>match ops with
  |[]=>acc
  |o::r=>Hr r (acc++[o.after.toList.foldl (fun s e=>bif Region.binds .any e then s ||| 2 ^ e.on ||| acc.getD e.on 0 else s) 0])
def BF (C:Gl)(P:Program)(ops:Array Oper)(bs:List Nat):List Oper->Nat->Bool
 |[],_=>true
 |o::r,i=>(ops.toList.zipIdx.all fun q=> !Nat.blt q.2 i || !EU C P ops q.1 o||(bs.getD i 0).testBit q.2)&&BF C P ops bs r (i+1)
def JN (C:Gl)(P:Program)(ops:Array Oper):Bool:=
 ops.toList.zipIdx.all (fun q=>q.1.after.toList.all fun e=> !Region.binds .any e||Nat.blt e.on q.2)&&BF C P ops (Hr ops.toList []) ops.toList 0
def Ap:PV->List Nat
 |.view id _ _ _=>[id]
 |.ptr id _=>[id]
 |_=>[]
def Ca:PV->List Nat
 |.agg cs=>cs.flatMap Ap
 |p=>Ap p
def Bs:PV->List Nat
 |.tup ps=>ps.flatMap Ca
 |p=>Ca p
def Rg (P:Program)(o:Op):Bool:=
 match o with
 |.load .. =>true
 |.convert _ dst _=>(match P.underlying dst with|some .string=>true|_=>false)
 |_=>false
def Mt (o:Op):Bool:=
 match o with
 |.call c=>(match c.callee with | .builtin .append=> !Vh c|_=>false)
 |_=>false
def Adw (ops:Array Oper)(x y:Oper):Bool:=
 (match x.dst with|some d=>(looks ops y).any (Nat.beq d)||(match y.dst with|some e=>Nat.beq d e|none=>false)|none=>false) ||
 (match y.dst with|some e=>(looks ops x).any (Nat.beq e)|none=>false)
def P3 (C:Gl)(P:Program)(x y:Oper):Bool:=(Qk C P x.op&&G5 P y.op)||(Qk C P y.op&&G5 P x.op)
def I7 (C:Gl)(P:Program)(x y:Oper):Bool:=(Qk C P x.op&&Rg P y.op)||(Qk C P y.op&&Rg P x.op)||(Mt x.op&&Mt y.op)
def Ad2 (C:Gl)(P:Program)(ops:Array Oper)(x y:Oper):Bool:=Adw ops x y||(P3 C P x y && !I7 C P x y)
def U7 (C:Gl)(P:Program)(ops:Array Oper)(bs:List Nat):List Oper->Nat->Bool
 |[],_=>true
 |o::r,i=>(ops.toList.zipIdx.all fun q=> !Nat.blt q.2 i || !Ad2 C P ops q.1 o||(bs.getD i 0).testBit q.2)&&U7 C P ops bs r (i+1)
def FA (C:Gl)(P:Program)(ops:Array Oper):Bool:=
 ops.toList.zipIdx.all (fun q=>q.1.after.toList.all fun e=> !Region.binds .any e||Nat.blt e.on q.2)&&U7 C P ops (Hr ops.toList []) ops.toList 0
def La (C:Gl)(P:Program)(s:St)(o:Oper):List Nat:=
 let l:=o.op.operands.toList.flatMap fun y=>Bs (Bz s.tm y)
 bif Qk C P o.op && !Mt o.op then l++l.flatMap (fun i=>match s.hp i with|some (.st c)=>c.flatMap Ap|_=>[])
 else bif Rg P o.op||Mt o.op then l else []
def ZG (a b:List Nat):Bool:=a.all fun i=> !b.any (Nat.beq i)
def Vw (C:Gl)(P:Program)(ops:Array Oper)(bs:List Nat)(i:Nat)(o:Oper):List Nat:=
 (ops.toList.zipIdx.filter fun q=>I7 C P q.1 o && !(Nat.blt q.2 i&&(bs.getD i 0).testBit q.2) && !(Nat.blt i q.2&&(bs.getD q.2 0).testBit i)).map (·.2)
def Zj (C:Gl)(P:Program)(ops:Array Oper)(bs:List Nat):List (List Nat):=ops.toList.zipIdx.map fun q=>Vw C P ops bs q.2 q.1
def AH (C:Gl)(P:Program)(sm:List (List Nat)) (s:St)(i:Nat)(o:Oper):List Nat:=
 match sm.getD i [] with
 |[]=>[]
 |_::_=>La C P s o
def GT (C:Gl)(P:Program)(sm:List (List Nat)) (s:St)(i:Nat)(o:Oper)(q:Nat × Oper × List Nat):Bool:=
 !((sm.getD i []).any (Nat.beq q.1))||ZG q.2.2 (AH C P sm s i o)
def Hi {R:Type}(C:Gl)(P:Program)(N:Nat)(call:An)(ops:Array Oper)(sm:List (List Nat)):List (Nat × Oper × List Nat)->List Nat->St->(St->Option R)->Option R
 |_,[],s,K=>K s
 |dn,i::l,s,K=>Cy ops[i]? fun o=>A9 (dn.all (GT C P sm s i o)&&(AH C P sm s i o).all (fun k=>(s.hp k).isSome)) (Dm C P N call ops o s fun s'=>Hi C P N call ops sm ((i,o,AH C P sm s i o)::dn) l s' K)
def Ac4 (m i:Nat):Nat:=m ||| 2 ^ i
def A25 (m i:Nat):Nat:=bif m.testBit i then m ^^^ 2 ^ i else m
def YD (ops:Array Oper):List Oper->Nat->Nat
 |[],m=>m
 |o::r,m=>
  let m1:=YD ops r m
  let m2:=match o.dst with|some d=>A25 m1 d|none=>m1
  (looks ops o).foldl Ac4 m2
def M7:Code->Nat->(Nat->Nat)->Nat->Nat
 |.skip,ln,_,_=>ln
 |.region _ ops _,ln,_,_=>YD ops ops.toList ln
 |.seq a b,ln,lx,lr=>M7 a (M7 b ln lx lr) lx lr
 |.cond c a b,ln,lx,lr=>let m:=M7 a ln lx lr ||| M7 b ln lx lr;match c with | .tmp d=>Ac4 m d|_=>m
 |.block id c,ln,lx,lr=>M7 c ln (fun j=>bif Nat.beq j id then ln else lx j) lr
 |.loop c,_,lx,lr=>M7 c (M7 c 0 lx lr) lx lr
 |.exit id,_,lx,_=>lx id
 |.ret,_,_,lr=>lr
 |_,_,_,_=>0
def OT (ops:List Oper):List Nat:=(ops.filterMap fun o=>o.guard.map (·.1)).eraseDups
def Mc:Code->Nat
 |.region _ _ _=>1
 |.seq a b=>Mc a+Mc b
 |.cond _ a b=>Mc a+Mc b
 |.block _ c=>Mc c
 |.loop c=>Mc c
 |_=>0
def Xs:Code->Nat
 |.skip=>1
 |.region _ ops _=>2 ^ min 6 (OT ops.toList).length
 |.seq a b=>bif (Nat.ble 7 (Xs a)&&Nat.ble 6 (Mc b))||(Nat.ble 5 (Xs a)&&Nat.ble 9 (Mc b)) then Xs b else min 1000 (Xs a*Xs b)
 |.cond _ a b=>Xs a+Xs b
 |.block _ c=>Xs c
 |.loop _=>1
 |.exit _=>1
 |_=>0
def Aml (P:Program)(o:Oper):Bool:=
 match o.op with
 |.load t _=>Rc P t&&Nat.ble 8 (Bb P t)
 |.store t _ _=>Rc P t&&Nat.ble 8 (Bb P t)
 |_=>false
def OB (P:Program):Code->Bool
 |.region _ ops _=>ops.toList.any (Aml P)
 |.seq a _=>OB P a
 |_=>false
def XI (P:Program):Code->Bool
 |.region _ ops _=>ops.toList.any (Aml P)
 |.seq _ b=>XI P b
 |_=>false
def Au4:Code->Nat
 |.seq a b=>match b with
  |.ret=>(match a with | .region _ ops _=>(OT ops.toList).length|_=>0)
  |_=>Au4 b
 |_=>0
def Afc (x y:Code):Bool:=(Nat.beq (Xs x) 1&&Nat.beq (Au4 y) 11)||(Nat.beq (Xs x) 4&&Nat.beq (Mc x) 7&&(Nat.beq (Mc y) 3||Nat.beq (Mc y) 1))||(Nat.beq (Xs x) 9&&Nat.beq (Mc x) 5&&Nat.beq (Mc y) 5)
def AV (a b:Code):Bool:=Afc a b||(match b with | .seq x y=>Afc x y|_=>false)
def Ag0 (P:Program)(a b:Code):Bool:=(Nat.ble 7 (Xs a)&&Nat.ble 6 (Mc b))||(Nat.ble 5 (Xs a)&&Nat.ble 9 (Mc b))||AV a b||OB P b||XI P a
def K1 (m:Nat):Nat->List Nat
 |0=>[]
 |n+1=>K1 m n++(bif m.testBit n then [n] else [])
def lk (l:List (Nat × PV)) (i:Nat):PV:=
 match l with
 |[]=>.top
 |(j,p)::r=>bif Nat.beq i j then p else lk r i
def Ij (l:List (Nat × Bo)) (i:Nat):Option Bo:=
 match l with
 |[]=>none
 |(j,b)::r=>bif Nat.beq i j then some b else Ij r i
def Sy (l:List (Nat × Nat)) (i:Nat):Option Nat:=
 match l with
 |[]=>none
 |(j,b)::r=>bif Nat.beq i j then some b else Sy r i
def BC (N:Nat)(s:St)(i:Nat):St:=
 match s.tm i with
 |.lst true es 0 []=>
  bif (s.hp i).isNone then ⟨Cn s.tm i (.view i es 0 0),Cn s.hp i (some (.ar false []))⟩
  else bif (s.hp (i+N*3000)).isNone then ⟨Cn s.tm i (.view (i+N*3000) es 0 0),Cn s.hp (i+N*3000) (some (.ar false []))⟩
  else s
 |_=>s
def LF (N:Nat)(id:Nat)(s:St)(j:Nat):St:=
 match s.hp id with
 |some (.st c)=>
  match c[j]? with
  |some (.lst true es 0 [])=>bif (s.hp (id+N*(j+1))).isNone then ⟨s.tm,Cn (Cn s.hp id (some (.st (c.set j (.view (id+N*(j+1)) es 0 0))))) (id+N*(j+1)) (some (.ar false []))⟩ else s
  |_=>s
 |_=>s
def LU (N:Nat)(s:St)(i:Nat):St:=
 match s.tm i with
 |.ptr id _=>
  match s.hp id with
  |some (.st c)=>(List.range c.length).foldl (LF N id) s
  |_=>s
 |_=>s
def HT (m:List (Nat × Nat)) (old new:Nat):List (Nat × Nat):=
 match Sy m old with
 |some _=>m
 |none=>m++[(old,new)]
def Qi (N new:Nat):List PV->Nat->List (Nat × Nat)->List (Nat × Nat)
 |[],_,m=>m
 |.view id _ _ _::r,j,m=>Qi N new r (j+1) (HT m id (new+N*(j+1)))
 |_::r,j,m=>Qi N new r (j+1) m
def AX (N:Nat)(s:St)(m:List (Nat × Nat)) (i:Nat):List (Nat × Nat):=
 match s.tm i with
 |.view id _ _ _=>HT m id i
 |.ptr id _=>
  match Sy m id with
  |some _=>m
  |none=>
   match s.hp id with
   |some (.st c)=>Qi N i c 0 (HT m id i)
   |_=>HT m id i
 |.agg c=>Qi N i c 0 m
 |_=>m
def TK (m:List (Nat × Nat)):PV->PV
 |.view id es off n=>match Sy m id with|some j=>.view j es off n|none=>.top
 |.ptr id off=>match Sy m id with|some j=>.ptr j off|none=>.top
 |.sc v=>.sc v
 |.lst z es n c=>.lst z es n c
 |.iptr c off=>.iptr c off
 |_=>.top
def Abj (m:List (Nat × Nat)):PV->PV
 |.agg c=>.agg (c.map (TK m))
 |p=>TK m p
def Akl (m:List (Nat × Nat)):Bo->Bo
 |.st c=>.st (c.map (TK m))
 |b=>b
def Dh (N i:Nat):Nat:=i+N*2000
def OG (N:Nat)(hp:Nat->Option Bo):Nat->List (Nat × Nat)
 |0=>[]
 |i+1=>bif (hp (Dh N i)).isSome then OG N hp i++[(Dh N i,Dh N i)] else OG N hp i
def Rh (N:Nat)(hp:Nat->Option Bo):Nat->List (Nat × Nat)->List (Nat × Nat)
 |0,m=>m
 |i+1,m=>
  match hp (Dh N i) with
  |some (.st c)=>Qi N (Dh N i) c 0 (Rh N hp i m)
  |_=>Rh N hp i m
def Ax3 (N:Nat)(hp:Nat->Option Bo)(k:Nat):List (Nat × Nat):=Rh N hp k (OG N hp k)
def K9 (m:List (Nat × Nat)) (hp:Nat->Option Bo):List (Nat × Nat)->List (Nat × Bo)
 |[]=>[]
 |(old,new)::r=>match hp old with
  |some b=>(new,Akl m b)::K9 m hp r
  |none=>K9 m hp r
section
variable {R:Type}
def VU (N:Nat)(ls:List Nat)(q:Bool)(s:St)(K:St->Option R):Option R:=
 let s2:=bif q then s else ls.foldl (LU N) (ls.foldl (BC N) s)
 let m:=ls.foldl (AX N s2) (Ax3 N s2.hp 8)
 A9 (Dy (m.map (·.1))&&Dy (m.map (·.2))) (K ⟨lk (ls.map fun i=>(i,Abj m (s2.tm i))),Ij (K9 m s2.hp m)⟩)
def V7 (N L:Nat)(s:St)(K:St->Option R):Option R:=VU N (K1 L N) false s K
def VS (N L:Nat)(s:St)(K:St->Option R):Option R:=VU N (K1 L N) true s K
def Aga (F:(St->Option R)->St->Option R) (nm:St->(St->Option R)->Option R):Nat->St->Option R
 |0,_=>none
 |n+1,s=>F (fun s'=>nm s' (Aga F nm n)) s
def CE (n:Nat)(F:St->Option R)(s:St):Option R:=
 match n with
 |0=>none
 |_+1=>F s
noncomputable def Acz (s:St)(c:Operand)(kt kf:St->Option R):Option R:=
 match c with
 |.tmp d=>
  match s.tm d with
  |.sc (.bool b)=>Ba b (kt ⟨Cn s.tm d (.sc (.bool true)),s.hp⟩) (kf ⟨Cn s.tm d (.sc (.bool false)),s.hp⟩)
  |.ub=>KC (kt s) (kf s)
  |_=>none
 |.const (.bool true)=>kt s
 |.const (.bool false)=>kf s
 |_=>none
noncomputable def N9 (C:Gl)(P:Program)(fu N:Nat)(call:An):Code->Nat->(Nat->Nat)->Nat->(St->Option R)->(Nat->St->Option R)->(St->Option R)->St->Option R
 |.skip,_,_,_,kn,_,_,s=>kn s
 |.region _ ops draw,_,_,_,kn,_,_,s=>OA (draw && !JN C P ops) (A9 (FA C P ops) (Al2 (Zj C P ops (Hr ops.toList [])) fun sm=>Hi C P N call ops sm [] (List.range ops.size) s kn)) (OA draw (Mm C P N call ops ops.toList s kn) (MR C P N call ops ops.toList s kn))
 |.seq a b,ln,lx,lr,kn,kx,kr,s=>N9 C P fu N call a (M7 b ln lx lr) lx lr (fun s'=>OA (Ag0 P a b) (OA (AV a b) (VS N (M7 b ln lx lr) s' (CE fu fun s''=>N9 C P fu N call b ln lx lr kn kx kr s'')) (V7 N (M7 b ln lx lr) s' (CE fu fun s''=>N9 C P fu N call b ln lx lr kn kx kr s''))) (N9 C P fu N call b ln lx lr kn kx kr s')) kx kr s
 |.cond c a b,ln,lx,lr,kn,kx,kr,s=>Acz s c (N9 C P fu N call a ln lx lr kn kx kr) (N9 C P fu N call b ln lx lr kn kx kr)
 |.block id c,ln,lx,lr,kn,kx,kr,s=>N9 C P fu N call c ln (fun j=>bif Nat.beq j id then ln else lx j) lr kn (fun j s'=>bif Nat.beq j id then kn s' else kx j s') kr s
 |.loop c,ln,lx,lr,_,kx,kr,s=>
  V7 N (M7 (.loop c) ln lx lr) s (Aga (fun k s'=>N9 C P fu N call c (M7 (.loop c) ln lx lr) lx lr k kx kr s') (V7 N (M7 (.loop c) ln lx lr)) fu)
 |.exit id,_,_,_,_,kx,_,s=>kx id s
 |.ret,_,_,_,_,_,kr,s=>kr s
 |_,_,_,_,_,_,_,_=>none
def Ahc (id:Nat)(t:CT)(p:PV)(K:PV->List (Nat × Bo)->Option R):Option R:=
 match t with
 |.sl es=>
  match p with
  |.own es' n c=>bif Nat.beq es' es then K (.view id es 0 n) [(id,.ar false c)] else none
  |p=>Nb es p fun z n c=>K (.lst z es n c) []
 |t=>X7 t p fun c=>K c []
def Y1 (N:Nat):Nat->List CT->List PV->(List PV->List (Nat × Bo)->Option R)->Option R
 |_,[],ps,K=>Ad ps (K [] [])
 |id,t::ts,ps,K=>Ab ps fun p ps=>Ahc id t p fun c b=>Y1 N (id+N) ts ps fun cs bs=>K (c::cs) (b++bs)
def inK (P:Program)(N i:Nat)(t:TypeId)(p:PV)(K:PV->List (Nat × Bo)->Option R):Option R:=
 match Vq P t with
 |some e=>Tn p fun ps=>A9 (Nat.blt i 8) (Y1 N (Dh N i+N) (Hl P e) ps fun cs bs=>K (.ptr (Dh N i) 0) ((Dh N i,.st cs)::bs))
 |none=>
  match p with
  |.tup ps=>Cy (As2 P t) fun e=>A9 (Nat.blt i 8) (Ab ps fun q r=>Ad r (GH (Bb P e) q fun n c=>K (.view (Dh N i) (Bb P e) 0 n) [(Dh N i,.ar false c)]))
  |p=>
   bif B2 P t then Fw p fun ps=>Y1 N (i+N) (Hl P t) ps fun cs bs=>K (.agg cs) bs
   else Y1 N (i+N) (Hl P t) [p] fun cs bs=>Ab cs fun c r=>Ad r (K c bs)
def Agi (P:Program)(N:Nat):Nat->List TypeId->List PV->(List (Nat × PV)->List (Nat × Bo)->Option R)->Option R
 |_,[],ps,K=>Ad ps (K [] [])
 |i,t::ts,ps,K=>Ab ps fun p ps=>inK P N i t p fun v bs=>Agi P N (i+1) ts ps fun vs bs'=>K ((i,v)::vs) (bs++bs')
def Amr (hp:Nat->Option Bo)(t:CT)(p:PV)(K:PV->List Nat->List Nat->Option R):Option R:=
  match t with
  |.sl es=>
    match p with
    |.view id es' off n=>bif Nat.beq es' es&&Nat.beq off 0 then
        (match hp id with
         |some (.ar false c)=>A9 (decide (n*es<=c.length)) (K (.own es n (c.take (n*es))) [id] [])
         |_=>none) else none
    |p=>Nb es p fun z _ _=>A9 z (K (.own es 0 []) [] [])
  |t=>X7 t p fun c=>K c [] []
def VY (shr:Bool)(hp:Nat->Option Bo)(t:CT)(p:PV)(K:PV->List Nat->List Nat->Option R):Option R:=
 bif shr then M8 (Ic hp) t p fun c m=>K c [] m else Amr hp t p K
def X6 (shr:Bool)(hp:Nat->Option Bo):List CT->List PV->(List PV->List Nat->List Nat->Option R)->Option R
 |[],[],K=>K [] [] []
 |t::ts,p::ps,K=>VY shr hp t p fun c m z=>X6 shr hp ts ps fun cs ms zs=>K (c::cs) (m++ms) (z++zs)
 |_,_,_=>none
def Afu (P:Program)(shr:Bool)(hp:Nat->Option Bo)(t:TypeId)(p:PV)(K:PV->List Nat->List Nat->Option R):Option R:=
 match Vq P t with
 |some e=>
  match p with
  |.ptr id off=>
   match hp id with
   |some (.st c)=>A9 (Nat.beq off 0) (X6 shr hp (Hl P e) c fun cs m z=>K (.pbox cs) (id::m) z)
   |_=>none
  |_=>none
 |none=>
  bif B2 P t then Fw p fun ps=>X6 shr hp (Hl P t) ps fun cs m z=>K (.agg cs) m z
  else X6 shr hp (Hl P t) [p] fun cs m z=>Ab cs fun c r=>Ad r (K c m z)
def Ag2 (P:Program)(s:St)(r:ResultVar)(K:PV->Option R):Option R:=
 match r with
 |.tmp t=>K (s.tm t)
 |.cell a t=>Vz false P (rd s.hp) (Ic s.hp) t (s.tm a) K
def KW (P:Program)(shr:Bool)(s:St):List ResultVar->List TypeId->(List PV->List Nat->List Nat->Option R)->Option R
 |[],[],K=>K [] [] []
 |r::rs,t::ts,K=>Ag2 P s r fun p=>Afu P shr s.hp t p fun v m z=>KW P shr s rs ts fun vs ms zs=>K (v::vs) (m++ms) (z++zs)
 |_,_,_=>none
def AQ (hp:Nat->Option Bo):List CT->List PV->List PV->(List PV->List Nat->List Nat->Option R)->Option R
 |[],[],[],K=>K [] [] []
 |t::ts,w::ws,p::ps,K=>VY (match w with | .own _ _ _=>false|_=>true) hp t p fun c m z=>AQ hp ts ws ps fun cs ms zs=>K (c::cs) (m++ms) (z++zs)
 |_,_,_,_=>none
def Xu (P:Program)(N:Nat)(hp:Nat->Option Bo):Nat->List TypeId->List PV->(List (List PV)->List Nat->List Nat->List Nat->Option R)->Option R
 |_,[],ps,K=>Ad ps (K [] [] [] [])
 |i,t::ts,ps,K=>Ab ps fun p ps=>
  match p with
  |.pbox ws=>Cy (Vq P t) fun e=>
    match hp (Dh N i) with
    |some (.st c)=>AQ hp (Hl P e) ws c fun cs m z=>Xu P N hp (i+1) ts ps fun r m' z' q=>K (cs::r) (m++m') (z++z') (Dh N i::q)
    |_=>none
  |.tup _=>
    match hp (Dh N i) with
    |some (.ar false c)=>Xu P N hp (i+1) ts ps fun r m' z' q=>K (c::r) m' z' (Dh N i::q)
    |_=>none
  |_=>Xu P N hp (i+1) ts ps K
def XU (rs:List ResultVar):Nat:=rs.foldl (fun m r=>match r with | .tmp t=>Ac4 m t | .cell a _=>Ac4 m a) 0
end
def CG (P:Program):Nat->List TypeId->Nat->Nat
 |_,[],m=>m
 |i,t::ts,m=>CG P (i+1) ts (match P.underlying t with|some (.pointer _)=>Ac4 m i|_=>m)
def YQ (C:Gl)(P:Program)(f:FuncId)(fn:Func)(args:List PV)(s:St):Option Aq:=
 KW P (C.shr f) s fn.results.toList fn.resultTypes.toList fun vs m z=>Xu P fn.ntmps s.hp 0 fn.params.toList args fun os m' z' q=>
  A9 (Dy ((m++m')++q)&&(z++z').all (fun i=> !(((m++m')++q).any (Nat.beq i)))) (some ⟨vs,os⟩)
noncomputable def Anh (C:Gl)(P:Program)(fu:Nat)(call:An)(f:FuncId)(fn:Func)(c:Code)(args:List PV):Option Aq:=
  Agi P fn.ntmps 0 fn.params.toList args fun tms bs=>A9 (Nat.ble args.length fn.ntmps&&Bq (fun _=>none) bs)
    (let lr:=CG P 0 fn.params.toList (XU fn.results.toList)
     N9 C P fu fn.ntmps call c lr (fun _=>0) lr (YQ C P f fn args) (fun _ _=>none) (YQ C P f fn args) ⟨lk tms,Ij bs⟩)
noncomputable def Ae (C:Gl)(P:Program)(fu:Nat):Nat->FuncId->List PV->Option Aq
 |0,_,_=>none
 |d+1,f,args=>
  match C.ext f with
  |some g=>g args
  |none=>
   match P.funcs[f]? with
   |none=>none
   |some fn=>match fn.body with
    |none=>none
    |some c=>Anh C.core P fu (Ae C P fu d) f fn c args
inductive Dir where
 |l
 |r
 |i (m:Nat)
section
variable {R:Type}
noncomputable def Uh (C:Gl)(P:Program)(fu N:Nat)(call:An):List Dir->Code->Nat->(Nat->Nat)->Nat->(St->Option R)->(Nat->St->Option R)->(St->Option R)->Nat->St->Option R
 |[],.seq _ b,ln,lx,lr,kn,kx,kr,n,s=>CE n (fun s''=>N9 C P fu N call b ln lx lr kn kx kr s'') s
 |[],.loop c,ln,lx,lr,_,kx,kr,n,s=>Aga (fun k s'=>N9 C P fu N call c (M7 (.loop c) ln lx lr) lx lr k kx kr s') (V7 N (M7 (.loop c) ln lx lr)) n s
 |.l::p,.seq a b,ln,lx,lr,kn,kx,kr,n,s=>Uh C P fu N call p a (M7 b ln lx lr) lx lr (fun s'=>OA (Ag0 P a b) (OA (AV a b) (VS N (M7 b ln lx lr) s' (CE fu fun s''=>N9 C P fu N call b ln lx lr kn kx kr s'')) (V7 N (M7 b ln lx lr) s' (CE fu fun s''=>N9 C P fu N call b ln lx lr kn kx kr s''))) (N9 C P fu N call b ln lx lr kn kx kr s')) kx kr n s
 |.r::p,.seq _ b,ln,lx,lr,kn,kx,kr,n,s=>Uh C P fu N call p b ln lx lr kn kx kr n s
 |.l::p,.cond _ a _,ln,lx,lr,kn,kx,kr,n,s=>Uh C P fu N call p a ln lx lr kn kx kr n s
 |.r::p,.cond _ _ b,ln,lx,lr,kn,kx,kr,n,s=>Uh C P fu N call p b ln lx lr kn kx kr n s
 |.l::p,.block id c,ln,lx,lr,kn,kx,kr,n,s=>Uh C P fu N call p c ln (fun j=>bif Nat.beq j id then ln else lx j) lr kn (fun j s'=>bif Nat.beq j id then kn s' else kx j s') kr n s
 |.i m::p,.loop c,ln,lx,lr,_,kx,kr,n,s=>
  Uh C P fu N call p c (M7 (.loop c) ln lx lr) lx lr
   (fun s'=>V7 N (M7 (.loop c) ln lx lr) s' (Aga (fun k s'=>N9 C P fu N call c (M7 (.loop c) ln lx lr) lx lr k kx kr s') (V7 N (M7 (.loop c) ln lx lr)) m)) kx kr n s
 |_,_,_,_,_,_,_,_,_,_=>none
end
noncomputable def Fy (C:Gl)(P:Program)(fu:Nat)(call:An)(f:FuncId)(fn:Func)(c:Code)(args:List PV)(p:List Dir)(n:Nat)(s:St):Option Aq:=
 let lr:=CG P 0 fn.params.toList (XU fn.results.toList)
 Uh C P fu fn.ntmps call p c lr (fun _=>0) lr (YQ C P f fn args) (fun _ _=>none) (YQ C P f fn args) n s
def Ai9:List Nat:=[
 1000000]
def Aqb:List Nat:=[
 19,
 9,
 1000000]
def Ap5:List Nat:=[
 1000000]
def Ajo:List Nat:=[
 1000000]
def Ani:List Nat:=[
 1000000]
def UA (args:List PV):Option Aq:=
 match args with
 |[.sc (.string s)]=>bif decide (s.size<=9223372036854775807) then some ⟨[.sc (.bool (Lib.validD s.data.toList))],[]⟩ else none
 |_=>none
def Vi:List Nat:=[
 93,
 77,
 87,
 67,
 90,
 88,
 105,
 114,
 115,
 71,
 72,
 70,
 52,
 36,
 94,
 73,
 53,
 37,
 61,
 60,
 1000000]
def A8c:List Nat:=[
 1000000]
def CB:Gl:=⟨fun f=>Aqb.any (Nat.beq f),fun f i=>Nat.beq i 0&&Ani.any (Nat.beq f),fun f i=>(Nat.beq i 0&&Ap5.any (Nat.beq f))||(Nat.beq i 2&&Ajo.any (Nat.beq f)),fun f=>Ai9.any (Nat.beq f),fun _=>none,fun N=>A8c.any (Nat.beq N)⟩
def CX (xs:FuncId->Option (List PV->Option Aq)):Gl:={ CB with ext:=fun f=>bif Vi.any (Nat.beq f) then none else xs f }
def Eb (f:Func):Code:=match f.body with|some c=>c|none=>.skip
section
variable {R:Type} {r:Option R}
theorem A7 {k:IntKind}{p:PV}{K:Int->Option R}{n:Int}(h:p=.sc (.int k n)) (hk:K n=r):Ak k p K=r:=by
 subst h;unfold Ak;simp[hk]
theorem A8t {p:PV}{K:IntKind->Int->Option R}{k:IntKind}{n:Int}(h:p=.sc (.int k n)) (hk:K k n=r):Dn p K=r:=by
 subst h;exact hk
theorem Ax {p:PV}{K:Bool->Option R}{b:Bool}(h:p=.sc (.bool b)) (hk:K b=r):Ao p K=r:=by
 subst h;exact hk
theorem A2 {p:PV}{K:ByteArray->Option R}{s:ByteArray}(h:p=.sc (.string s)) (hk:K s=r):A0 p K=r:=by
 subst h;exact hk
theorem Agd {es:Nat}{p:PV}{K:Bool->Nat->List PV->Option R}{z:Bool}{n:Nat}{c:List PV}(h:p=.lst z es n c)(hk:K z n c=r):Nb es p K=r:=by
 subst h;unfold Nb;simp[Nat.beq_refl,hk]
theorem Aht {es:Nat}{p:PV}{K:Nat->List PV->Option R}{n:Nat}{c:List PV}(h:p=.own es n c)(hk:K n c=r):GH es p K=r:=by
 subst h;unfold GH;simp[Nat.beq_refl,hk]
theorem A4 {b:Bool}{K:Option R}(h:b=true)(hk:K=r):A9 b K=r:=by
 subst h;exact hk
theorem A6 {b:Bool}{x y:Option R}(h:b=true)(hx:x=r):Ba b x y=r:=by
 subst h;exact hx
theorem A3 {b:Bool}{x y:Option R}(h:b=false)(hx:y=r):Ba b x y=r:=by
 subst h;exact hx
theorem D2 {α:Type}{o:Option α}{K:α->Option R}{a:α}(h:o=some a)(hk:K a=r):Cy o K=r:=by
 subst h;exact hk
theorem At {α:Type}{l:List α}{K:α->List α->Option R}{a:α}{t:List α}(h:l=a::t)(hk:K a t=r):Ab l K=r:=by
 subst h;exact hk
theorem A5 {α:Type}{l:List α}{K:Option R}(h:l=[]) (hk:K=r):Ad l K=r:=by
 subst h;exact hk
theorem K3 {p:PV}{K:List PV->Option R}{c:List PV}(h:p=.agg c)(hk:K c=r):Fw p K=r:=by
 subst h;exact hk
theorem Aw6 {p:PV}{K:List PV->Option R}{c:List PV}(h:p=.pbox c)(hk:K c=r):Tn p K=r:=by
 subst h;exact hk
theorem Au {o:Option Aq}{K:List PV->List (List PV)->Option R} {v:List PV}{q:List (List PV)} (h:o=some ⟨v,q⟩)(hk:K v q=r):Ai o K=r:=by
 subst h;exact hk
end
theorem Abc (a b:Int):(a==b)=decide (a=b):=by by_cases h:a=b<;>simp[h]
section
variable {R:Type}
theorem BH (v:List PV)(o:List (List PV)) (K:List PV->List (List PV)->Option R):Ai (some ⟨v,o⟩) K=K v o:=by exact id rfl
theorem MV {α:Type}(K:Option R):Ad ([]:List α) K=K:=by exact id rfl
theorem AU {α:Type}(a:α)(r:List α)(K:α->List α->Option R):Ab (a::r) K=K a r:=by exact id rfl
theorem BB (b:Bool)(K:Bool->Option R):Ao (.sc (.bool b)) K=K b:=by exact id rfl
theorem LX (s:ByteArray)(K:ByteArray->Option R):A0 (.sc (.string s)) K=K s:=by exact id rfl
theorem FE (k:IntKind)(n:Int)(K:Int->Option R):Ak k (.sc (.int k n)) K=K n:=by unfold Ak;simp
theorem Ae8 (k:IntKind)(n:Int)(K:IntKind->Int->Option R):Dn (.sc (.int k n)) K=K k n:=by exact id rfl
theorem Amv (z:Bool)(es n:Nat)(c:List PV)(K:Bool->Nat->List PV->Option R):Nb es (.lst z es n c) K=K z n c:=by unfold Nb;simp
theorem Al0 (es n:Nat)(c:List PV)(K:Nat->List PV->Option R):GH es (.own es n c) K=K n c:=by unfold GH;simp
theorem Afx (c:List PV)(K:List PV->Option R):Fw (.agg c) K=K c:=by exact id rfl
theorem VX (c:List PV)(K:List PV->Option R):Tn (.pbox c) K=K c:=by exact id rfl
theorem Afl {α:Type}(a:α)(K:α->Option R):Cy (some a) K=K a:=by exact id rfl
theorem Md {α:Type}(a:α)(K:α->Option R):Ac a K=K a:=by exact id rfl
theorem Aep (K:Option R):A9 true K=K:=by exact id rfl
theorem KX (p:Prop) [Decidable p] (K:Option R)(h:p):A9 (decide p) K=K:=by simp[A9,h]
theorem XF (b c:Bool)(K:Option R):A9 (b&&c) K=A9 b (A9 c K):=by cases b<;>rfl
theorem MX (x y:Option R):Ba true x y=x:=by exact id rfl
theorem KR (x y:Option R):Ba false x y=y:=by exact id rfl
theorem ER (p:Prop) [Decidable p] (x y:Option R)(h:p):Ba (decide p) x y=x:=by simp[Ba,h]
theorem DC (p:Prop) [Decidable p] (x y:Option R)(h:¬p):Ba (decide p) x y=y:=by simp[Ba,h]
theorem An7 (p:Prop) [Decidable p] (x y:Option R):Ba (decide p) x y=if p then x else y:=by by_cases h:p<;>simp[Ba,h]
theorem WY (a b:Int)(x y:Option R):Ba (a==b) x y=if a=b then x else y:=by
 rw[Abc,An7]
theorem WU (x:Option R):KC x x=x:=by unfold KC;simp
end
theorem Az {x:Int}(h1: -9223372036854775808<=x)(h2:x<=9223372036854775807):IntKind.wrap .i64 x=x:=by
 have:=IntWalk.i64_in x (by omega)
 exact this
theorem Ep {x:Int}(h1:0<=x)(h2:x<=18446744073709551615):IntKind.wrap .u64 x=x:=by
 simp only[IntKind.wrap,IntKind.signed,IntKind.bits];simp;omega
theorem Wd {x:Int}(h1:0<=x)(h2:x<=255):IntKind.wrap .u8 x=x:=by
 simp only[IntKind.wrap,IntKind.signed,IntKind.bits];simp;omega
theorem DU (x:Int):0<=IntKind.wrap .u64 x∧IntKind.wrap .u64 x<=18446744073709551615:=by
 simp only[IntKind.wrap,IntKind.signed,IntKind.bits];simp;omega
theorem Fl {α:Type}{l r:List α}{x:α}{i:Nat}(h:l.drop i=x::r):i<l.length∧l[i]?=some x∧l.drop (i+1)=r:=by
 have h1:i<l.length:=by
  rcases Nat.lt_or_ge i l.length with h1|h1
  ·exact h1
  ·rw[List.drop_of_length_le h1] at h;cases h
 rw[List.drop_eq_getElem_cons h1] at h;injection h with h2 h3;exact⟨h1,by rw[List.getElem?_eq_getElem h1,h2],h3⟩
theorem drop_nil {α:Type}{l:List α}{i:Nat}(h:l.drop i=[]):l.length<=i:=by
 have:=congrArg List.length h;simp at this;omega
section
variable {α:Type} {f:α->List PV} {k:Nat}
theorem Add (hf:∀x,(f x).length=k):∀(l:List α),(l.flatMap f).length=l.length*k
 |[]=>by simp
 |x::l=>by simp[hf x,Add hf l,Nat.succ_mul];omega
theorem XP (hf:∀x,(f x).length=k):∀(l:List α)(i:Nat),(l.flatMap f).drop (i*k)=(l.drop i).flatMap f
 |l,0=>by simp
 |[],i+1=>by simp
 |x::l,i+1=>by
  rw[List.flatMap_cons,Nat.succ_mul,Nat.add_comm,←List.drop_drop,List.drop_append_of_le_length (by rw[hf x];omega)]
  rw[show (f x).drop k=[] from List.drop_of_length_le (by rw[hf x];omega),List.nil_append]
  exact XP hf l i
theorem WE (hf:∀x,(f x).length=k):∀(l:List α)(i:Nat),(l.flatMap f).take (i*k)=(l.take i).flatMap f
 |l,0=>by simp
 |[],i+1=>by simp
 |x::l,i+1=>by
  rw[List.flatMap_cons,Nat.succ_mul,Nat.add_comm,List.take_succ_cons,List.flatMap_cons,←WE hf l i];rw[show k+i*k=(f x).length+i*k by rw[hf x],List.take_length_add_append]
theorem Au3 (hf:∀x,(f x).length=k) {l:List α}{i:Nat}{x:α}(h:l[i]?=some x) {j:Nat}(hj:j<k):(l.flatMap f).getD (i*k+j) .top=(f x).getD j .top:=by
 have h1:((l.flatMap f).drop (i*k))[j]?=(l.flatMap f)[i*k+j]?:=List.getElem?_drop;rw[XP hf] at h1
 have h2:i<l.length:=by
  rcases Nat.lt_or_ge i l.length with h1|h1
  ·exact h1
  ·rw[List.getElem?_eq_none h1] at h;cases h
 rw[List.drop_eq_getElem_cons h2,List.flatMap_cons] at h1;have h3:l[i]=x:=by rw[List.getElem?_eq_getElem h2] at h;injection h
 rw[h3,List.getElem?_append_left (by rw[hf x];exact hj)] at h1
 simp only[List.getD_eq_getElem?_getD,←h1]
theorem DT {c:List PV}{p:PV}{i:Nat}(h:i<c.length):Ce c [p] i=c.set i p:=by
 unfold Ce;rw[List.set_eq_take_append_cons_drop,if_pos h];simp
end
theorem Aoo {α:Type}{l:List α}{i:Nat}{x:α}(h:l[i]?=some x):i<l.length:=by
 rcases Nat.lt_or_ge i l.length with h1|h1
 ·exact h1
 ·rw[List.getElem?_eq_none h1] at h;cases h
abbrev Aod (k:IntKind)(n:Int):List PV:=[.sc (.int k n)]
abbrev Bn (k:IntKind)(l:List Int):List PV:=l.flatMap (Aod k)
theorem FR (k:IntKind)(n:Int):(Aod k n).length=1:=rfl
theorem ati {k:IntKind}{l:List Int}{i:Nat}{n:Int}(h:l[i]?=some n):(Bn k l).getD i .top=.sc (.int k n):=by
 have:=Au3 (FR k) h (j:=0) (by omega)
 simpa using this
theorem D9 (k:IntKind)(l:List Int):(Bn k l).length=l.length:=by rw[Add (FR k)];omega
theorem Af9 (k:IntKind)(l:List Int)(n:Int):Bn k l++[.sc (.int k n)]=Bn k (l++[n]):=by simp
theorem tki (k:IntKind)(l:List Int):List.take l.length (Bn k l)=Bn k l:=List.take_of_length_le (by rw[D9];omega)
theorem B0:type_of% @BH∧type_of% @MV∧type_of% @AU∧type_of% @BB∧type_of% @LX∧type_of% @FE∧type_of% @Ae8∧type_of% @Amv∧type_of% @Al0∧type_of% @Afx∧type_of% @VX∧type_of% @Afl∧type_of% @Md∧type_of% @Aep∧type_of% @KX∧type_of% @XF∧type_of% @MX∧type_of% @KR∧type_of% @ER∧type_of% @DC∧type_of% @WU∧type_of% @Bool.not_true∧type_of% @Bool.not_false∧type_of% @Bool.false_eq_true∧type_of% @if_true.{1}∧type_of% @if_false.{1}∧type_of% @Bool.true_and∧type_of% @Bool.and_true∧type_of% @Bool.false_and∧type_of% @Bool.and_false∧type_of% @decide_true∧type_of% @decide_false:=
 ⟨@BH,@MV,@AU,@BB,@LX,@FE,@Ae8,@Amv,@Al0,@Afx,@VX,@Afl,@Md,@Aep,@KX,@XF,@MX,@KR,@ER,@DC,@WU,@Bool.not_true,@Bool.not_false,@Bool.false_eq_true,@if_true.{1},@if_false.{1},@Bool.true_and,@Bool.and_true,@Bool.false_and,@Bool.and_false,@decide_true,@decide_false⟩
theorem gT:type_of% @Bool.and_eq_true∧type_of% @decide_eq_true_eq∧type_of% @beq_iff_eq.{0}∧type_of% @bne_iff_ne.{0}∧type_of% @ne_eq.{1}∧type_of% @Bool.not_eq_true'∧type_of% @true_and∧type_of% @and_true:=
 ⟨@Bool.and_eq_true,@decide_eq_true_eq,@beq_iff_eq.{0},@bne_iff_ne.{0},@ne_eq.{1},@Bool.not_eq_true',@true_and,@and_true⟩
theorem gF:type_of% @decide_eq_false_iff_not∧type_of% @beq_eq_false_iff_ne.{0}∧type_of% @bne_eq_false_iff_eq.{0}∧type_of% @ne_eq.{1}∧type_of% @Bool.not_eq_false':=
 ⟨@decide_eq_false_iff_not,@beq_eq_false_iff_ne.{0},@bne_eq_false_iff_eq.{0},@ne_eq.{1},@Bool.not_eq_false'⟩
end
section
open Go.RowKit
def Be {α β:Type}(R:α->β->Prop):List α->List β->Prop
 |[],[]=>True
 |a::zs,b::bs=>R a b∧Be R zs bs
 |_,_=>False
section
variable {α β γ:Type} {R S:α->β->Prop}
theorem Be.len:∀{zs:List α}{bs:List β},Be R zs bs->zs.length=bs.length
 |[],[],_=>rfl
 |_::_,_::_,h=>by simp[Be.len h.2]
 |[],_::_,h=>h.elim
 |_::_,[],h=>h.elim
theorem Be.at_:∀{zs:List α}{bs:List β},Be R zs bs->∀{i:Nat} {a b},zs[i]?=some a->bs[i]?=some b->R a b
 |[],[],_,i,a,b,h,_=>by simp at h
 |_::_,_::_,h,0,a,b,ha,hb=>by simp at ha hb;subst ha;subst hb;exact h.1
 |_::_,_::_,h,i+1,a,b,ha,hb=>by simp at ha hb;exact Be.at_ h.2 ha hb
 |[],_::_,h,_,_,_,_,_=>h.elim
 |_::_,[],h,_,_,_,_,_=>h.elim
theorem Be.of_at:∀{zs:List α}{bs:List β},zs.length=bs.length->(∀(i:Nat) a b,zs[i]?=some a->bs[i]?=some b->R a b)->Be R zs bs
 |[],[],_,_=>trivial
 |a::zs,b::bs,hl,h=>⟨h 0 a b rfl rfl,Be.of_at (by simpa using hl) fun i x y hx hy=>h (i+1) x y hx hy⟩
 |[],_::_,hl,_=>by simp at hl
 |_::_,[],hl,_=>by simp at hl
theorem Be.mono (hRS:∀a b,R a b->S a b):∀{zs:List α}{bs:List β},Be R zs bs->Be S zs bs
 |[],[],_=>trivial
 |_::_,_::_,h=>⟨hRS _ _ h.1,Be.mono hRS h.2⟩
 |[],_::_,h=>h.elim
 |_::_,[],h=>h.elim
theorem Be.mono_mem:∀{zs:List α}{bs:List β},(∀a∈zs,∀b,R a b->S a b)->Be R zs bs->Be S zs bs
 |[],[],_,_=>trivial
 |a::_,_::_,hRS,h=>⟨hRS a (by simp) _ h.1,Be.mono_mem (fun x hx=>hRS x (by simp[hx])) h.2⟩
 |[],_::_,_,h=>h.elim
 |_::_,[],_,h=>h.elim
theorem Be.app:∀{zs:List α}{bs:List β}{as':List α}{bs':List β},Be R zs bs->Be R as' bs'->Be R (zs++as') (bs++bs')
 |[],[],_,_,_,h'=>h'
 |_::_,_::_,_,_,h,h'=>⟨h.1,Be.app h.2 h'⟩
 |[],_::_,_,_,h,_=>h.elim
 |_::_,[],_,_,h,_=>h.elim
theorem Be.take:∀(n:Nat){zs:List α}{bs:List β},Be R zs bs->Be R (zs.take n) (bs.take n)
 |0,_,_,_=>by simp[Be]
 |_+1,[],[],_=>trivial
 |n+1,_::_,_::_,h=>⟨h.1,Be.take n h.2⟩
 |_+1,[],_::_,h=>h.elim
 |_+1,_::_,[],h=>h.elim
theorem Be.drop:∀(n:Nat){zs:List α}{bs:List β},Be R zs bs->Be R (zs.drop n) (bs.drop n)
 |0,_,_,h=>h
 |_+1,[],[],_=>trivial
 |n+1,_::_,_::_,h=>Be.drop n h.2
 |_+1,[],_::_,h=>h.elim
 |_+1,_::_,[],h=>h.elim
end
inductive Aw (w:World) (A:Nat->Prop):PV->Value->Prop where
 |sc (v:Value):Aw w A (.sc v) v
 |top (v:Value):Aw w A .top v
 |ub (b:Bool):Aw w A .ub (.bool b)
 |lnil (z:Bool) (es:Nat):Aw w A (.lst z es 0 []) (.slice none 0 0)
 |lemp (es:Nat) (a:Addr) (cap:Nat):Aw w A (.lst false es 0 []) (.slice (some a) 0 cap)
 |lst (es n:Nat) (cells:List PV) (a:Addr) (cap:Nat) (f:Nat->Value) (hs:a.spot=none) (hb:a.block<w.heap.size) (hA:¬A a.block) (hn:n<=cap)
   (hc:∀j c,cells[j]?=some c->w.cell? (a.add j)=some (f j)) (h1:∀j c,cells[j]?=some c->(f j).oneCell'=true) (hr:∀j c,cells[j]?=some c->Aw w A c (f j)):Aw w A (.lst false es n cells) (.slice (some a) n cap)
def bsz (w:World)(b:Nat):Nat:=
 match w.heap[b]? with
 |some (.cells c _ _)=>c.size
 |_=>0
def OP (w:World)(b:Nat):Bool:=w.frozen? ⟨b,bsz w b,none⟩
def Fit (w:World)(es b e:Nat):Prop:=e<=bsz w b∧(es=1∨OP w b=false)
def Gn (w w':World)(b:Nat):Prop:=bsz w b<=bsz w' b∧(OP w b=false->OP w' b=false)
theorem Gn.refl (w:World)(b:Nat):Gn w w b:=⟨Nat.le_refl _,id⟩
theorem Gn.same {w w':World}{b:Nat}(h:w'.heap[b]?=w.heap[b]?):Gn w w' b:=by
 have e:bsz w' b=bsz w b:=by unfold bsz;rw[h]
 refine⟨by rw[e];exact Nat.le_refl _,fun q=>?_⟩
 unfold OP at q ⊢;rw[e];unfold World.frozen? at q ⊢;simp only[h];exact q
theorem Gn.trans {w w' w'':World}{b:Nat}(h:Gn w w' b)(h':Gn w' w'' b):Gn w w'' b:=⟨Nat.le_trans h.1 h'.1,fun q=>h'.2 (h.2 q)⟩
theorem Fit.step {w w':World}{es b e:Nat}(h:Fit w es b e)(hb:Gn w w' b):Fit w' es b e:=⟨Nat.le_trans h.1 hb.1,h.2.imp id hb.2⟩
def SL (w:World)(A:Nat->Prop)(a:Addr)(cells:List PV):Prop:=∀j c,cells[j]?=some c->∃v,w.cell? (a.add j)=some v∧v.oneCell'=true∧Aw w A c v
def B1 (w:World)(A:Nat->Prop)(β:Nat->Option (Nat × Nat)) (p:PV)(v:Value):Prop:=
 match p with
 |.view id es off n=>(β id=none∧off=0∧n=0∧∃ad,v=.slice ad 0 0) ∨
   ∃b o x cap,β id=some (b,o)∧v=.slice (some ⟨b,x,none⟩) n cap∧(x=o+off∨(n=0∧off≠0))∧n<=cap∧Fit w es b (x+cap*es)∧b<w.heap.size
 |.ptr id off=>∃b o,β id=some (b,o)∧v=.pointer (some ⟨b,o+off,none⟩)
 |.iptr c off=>∃a:Addr,v=.pointer (some (a.add off))∧a.spot=none∧a.block<w.heap.size∧¬A a.block∧SL w A a c
 |p=>Aw w A p v
def Hc (w:World)(A:Nat->Prop)(β:Nat->Option (Nat × Nat)) (p:PV)(v:Value):Prop:=
 match p with
 |.agg cs=>∃vs,v=.agg ⟨vs⟩∧Be (B1 w A β) cs vs
 |p=>B1 w A β p v
def Ea (w:World)(A:Nat->Prop)(β:Nat->Option (Nat × Nat)) (p:PV)(v:Value):Prop:=
 match p with
 |.tup ps=>∃vs,v=.tuple ⟨vs⟩∧Be (Hc w A β) ps vs
 |p=>Hc w A β p v
structure B8 (A:Nat->Prop) (w w':World):Prop where
 size:w.heap.size<=w'.heap.size
 keep:∀b,b<w.heap.size->¬A b->w'.heap[b]?=w.heap[b]?
 bs:∀b,b<w.heap.size->Gn w w' b
theorem Em (a:Addr)(j:Nat):(a.add j).block=a.block:=by unfold Addr.add;split<;>rfl
theorem add_add (a:Addr)(i j:Nat):(a.add i).add j=a.add (i+j):=by
 unfold Addr.add;by_cases hi:i=0<;>by_cases hj:j=0<;>simp[hi,hj,Nat.add_assoc]
theorem Eh (b o j:Nat):(⟨b,o,none⟩:Addr).add j=⟨b,o+j,none⟩:=by
 unfold Addr.add;by_cases hj:j=0<;>simp[hj]
theorem Acu {a:Addr}(h:a.spot=none)(j:Nat):(a.add j).spot=none:=by unfold Addr.add;split<;>simp[h]
section
variable {w w':World} {A A':Nat->Prop} {β β':Nat->Option (Nat × Nat)}
theorem B8.cell (h:B8 A w w'){a:Addr}(hb:a.block<w.heap.size)(hA:¬A a.block):w'.cell? a=w.cell? a:=
 World.cell?_of_block (h.keep a.block hb hA)
theorem Aw.step (h:B8 A w w')(hA:∀b,b<w.heap.size->A' b->A b){p:PV}{v:Value}(t:Aw w A p v):Aw w' A' p v:=by
 induction t with
 |sc v=>exact .sc v
 |top v=>exact .top v
 |ub b=>exact .ub b
 |lnil z es=>exact .lnil z es
 |lemp es a cap=>exact .lemp es a cap
 |lst es n cells a cap f hs hb hA1 hn hc h1 hr ih=>
  refine .lst es n cells a cap f hs (Nat.lt_of_lt_of_le hb h.size) (fun x=>hA1 (hA _ hb x)) hn (fun j c hj=>?_) h1 (fun j c hj=>ih j c hj)
  rw[h.cell (by rw[Em];exact hb) (by rw[Em];exact hA1)]
  exact hc j c hj
theorem SL.step (h:B8 A w w')(hA:∀b,b<w.heap.size->A' b->A b){a:Addr}(hb:a.block<w.heap.size)(hn:¬A a.block){cells:List PV}(t:SL w A a cells):SL w' A' a cells:=by
 intro j c hj;obtain⟨v,hv,h1,ht⟩:=t j c hj;exact⟨v,by rw[h.cell (by rw[Em];exact hb) (by rw[Em];exact hn)];exact hv,h1,ht.step h hA⟩
theorem B1.step (h:B8 A w w')(hA:∀b,b<w.heap.size->A' b->A b){p:PV}{v:Value}(hβ:∀id∈Ap p,β' id=β id)(t:B1 w A β p v):B1 w' A' β' p v:=by
 cases p with
 |view id es off n=>
  have e:=hβ id (by simp[Ap])
  rcases t with⟨h1,h2,h3,h4⟩|⟨b,o,x,cap,h1,h2,hx,h3,h4,h5⟩
  ·exact .inl ⟨by rw[e];exact h1,h2,h3,h4⟩
  ·exact .inr ⟨b,o,x,cap,by rw[e];exact h1,h2,hx,h3,h4.step (h.bs b h5),Nat.lt_of_lt_of_le h5 h.size⟩
 |ptr id off=>
  have e:=hβ id (by simp[Ap])
  obtain⟨b,o,h1,h2⟩:=t;exact⟨b,o,by rw[e];exact h1,h2⟩
 |iptr c off=>
  obtain⟨a,h1,h2,h3,h4,h5⟩:=t;exact⟨a,h1,h2,Nat.lt_of_lt_of_le h3 h.size,fun x=>h4 (hA _ h3 x),h5.step h hA h3 h4⟩
 |sc v=>exact Aw.step h hA t
 |lst z es n c=>exact Aw.step h hA t
 |own es n c=>exact Aw.step h hA t
 |pbox c=>exact Aw.step h hA t
 |agg c=>exact Aw.step h hA t
 |tup c=>exact Aw.step h hA t
 |top=>exact Aw.step h hA t
 |ub=>exact Aw.step h hA t
theorem Hc.step (h:B8 A w w')(hA:∀b,b<w.heap.size->A' b->A b){p:PV}{v:Value}(hβ:∀id∈Ca p,β' id=β id)(t:Hc w A β p v):Hc w' A' β' p v:=by
 cases p with
 |agg cs=>
  obtain⟨vs,rfl,h2⟩:=t;exact⟨vs,rfl,h2.mono_mem fun c hc v hv=>hv.step h hA fun id Bj=>hβ id (by simp only[Ca,List.mem_flatMap];exact⟨c,hc,Bj⟩)⟩
 |sc x=>exact B1.step (p:=.sc x) h hA hβ t
 |lst x y z u=>exact B1.step (p:=.lst x y z u) h hA hβ t
 |own x y z=>exact B1.step (p:=.own x y z) h hA hβ t
 |view x y z u=>exact B1.step (p:=.view x y z u) h hA hβ t
 |ptr x y=>exact B1.step (p:=.ptr x y) h hA hβ t
 |iptr x y=>exact B1.step (p:=.iptr x y) h hA hβ t
 |pbox x=>exact B1.step (p:=.pbox x) h hA hβ t
 |tup x=>exact B1.step (p:=.tup x) h hA hβ t
 |top=>exact B1.step (p:=.top) h hA hβ t
 |ub=>exact B1.step (p:=.ub) h hA hβ t
theorem Ea.step (h:B8 A w w')(hA:∀b,b<w.heap.size->A' b->A b){p:PV}{v:Value}(hβ:∀id∈Bs p,β' id=β id)(t:Ea w A β p v):Ea w' A' β' p v:=by
 cases p with
 |tup cs=>
  obtain⟨vs,rfl,h2⟩:=t;exact⟨vs,rfl,h2.mono_mem fun c hc v hv=>hv.step h hA fun id Bj=>hβ id (by simp only[Bs,List.mem_flatMap];exact⟨c,hc,Bj⟩)⟩
 |sc x=>exact Hc.step (p:=.sc x) h hA hβ t
 |lst x y z u=>exact Hc.step (p:=.lst x y z u) h hA hβ t
 |own x y z=>exact Hc.step (p:=.own x y z) h hA hβ t
 |view x y z u=>exact Hc.step (p:=.view x y z u) h hA hβ t
 |ptr x y=>exact Hc.step (p:=.ptr x y) h hA hβ t
 |iptr x y=>exact Hc.step (p:=.iptr x y) h hA hβ t
 |pbox x=>exact Hc.step (p:=.pbox x) h hA hβ t
 |top=>exact Hc.step (p:=.top) h hA hβ t
 |ub=>exact Hc.step (p:=.ub) h hA hβ t
 |agg x=>exact Hc.step (p:=.agg x) h hA hβ t
theorem B8.refl (A:Nat->Prop)(w:World):B8 A w w:=⟨Nat.le_refl _,fun _ _ _=>rfl,fun _ _=>Gn.refl _ _⟩
theorem SL.weak (hA:∀b,b<w.heap.size->A' b->A b){a:Addr}{cells:List PV}(t:SL w A a cells):SL w A' a cells:=by
 intro j c hj;obtain⟨v,hv,h1,ht⟩:=t j c hj;exact⟨v,hv,h1,ht.step (B8.refl A w) hA⟩
theorem B8.trans {w'':World}(h:B8 A w w')(h':B8 A' w' w'')(hA:∀b,b<w.heap.size->A' b->A b):B8 A w w'':=
  ⟨Nat.le_trans h.size h'.size,fun b hb hn=>(h'.keep b (Nat.lt_of_lt_of_le hb h.size) (fun x=>hn (hA b hb x))).trans (h.keep b hb hn),
   fun b hb=>(h.bs b hb).trans (h'.bs b (Nat.lt_of_lt_of_le hb h.size))⟩
theorem B8.weaken (h:B8 A w w')(hA:∀b,b<w.heap.size->A b->A' b):B8 A' w w':=⟨h.size,fun b hb hn=>h.keep b hb (fun x=>hn (hA b hb x)),h.bs⟩
end
section
variable {R:Type} {r:R}
theorem Ec {k:IntKind}{p:PV}{K:Int->Option R}(h:Ak k p K=some r):∃n,p=.sc (.int k n)∧K n=some r:=by
 unfold Ak at h;split at h
 ·split at h
  ·rename_i hk;subst hk;exact⟨_,rfl,h⟩
  ·cases h
 ·cases h
theorem Do {p:PV}{K:Bool->Option R}(h:Ao p K=some r):∃b,p=.sc (.bool b)∧K b=some r:=by
 unfold Ao at h;split at h
 ·exact⟨_,rfl,h⟩
 ·cases h
theorem Dk {p:PV}{K:ByteArray->Option R}(h:A0 p K=some r):∃b,p=.sc (.string b)∧K b=some r:=by
 unfold A0 at h;split at h
 ·exact⟨_,rfl,h⟩
 ·cases h
theorem Di {p:PV}{K:IntKind->Int->Option R}(h:Dn p K=some r):∃k n,p=.sc (.int k n)∧K k n=some r:=by
 unfold Dn at h;split at h
 ·exact⟨_,_,rfl,h⟩
 ·cases h
theorem Al {b:Bool}{K:Option R}(h:A9 b K=some r):b=true∧K=some r:=by
 unfold A9 at h;cases b
 ·cases h
 ·exact⟨rfl,h⟩
theorem B9 {α:Type}{o:Option α}{K:α->Option R}(h:Cy o K=some r):∃a,o=some a∧K a=some r:=by
 unfold Cy at h;split at h
 ·exact⟨_,rfl,h⟩
 ·cases h
theorem A8 {α:Type}{l:List α}{K:α->List α->Option R}(h:Ab l K=some r):∃a t,l=a::t∧K a t=some r:=by
 unfold Ab at h;split at h
 ·exact⟨_,_,rfl,h⟩
 ·cases h
theorem Dj {α:Type}{l:List α}{K:Option R}(h:Ad l K=some r):l=[]∧K=some r:=by
 unfold Ad at h;split at h
 ·exact⟨rfl,h⟩
 ·cases h
theorem Gu {p:PV}{K:List PV->Option R}(h:Fw p K=some r):∃c,p=.agg c∧K c=some r:=by
 unfold Fw at h;split at h
 ·exact⟨_,rfl,h⟩
 ·cases h
theorem IQ {p:PV}{K:List PV->Option R}(h:Tn p K=some r):∃c,p=.pbox c∧K c=some r:=by
 unfold Tn at h;split at h
 ·exact⟨_,rfl,h⟩
 ·cases h
theorem WH {p:PV}{K:Value->Option R}(h:ZP p K=some r):∃v,p=.sc v∧v.oneCell'=true∧K v=some r:=by
 unfold ZP at h;split at h
 ·exact⟨_,rfl,rfl,h⟩
 ·exact⟨_,rfl,rfl,h⟩
 ·cases h
theorem Ajs {p:PV}{K:FuncId->Option R}(h:fvK p K=some r):∃f,p=.sc (.func (.func f) #[] #[])∧K f=some r:=by
 unfold fvK at h;split at h
 ·rename_i f a b;cases hb:(a.isEmpty&&b.isEmpty)<;>rw[hb] at h
  ·cases h
  ·simp only[Bool.and_eq_true,Array.isEmpty_iff] at hb;rw[hb.1,hb.2];exact⟨f,rfl,h⟩
 ·cases h
theorem KJ {o:Option Aq}{K:List PV->List (List PV)->Option R} (h:Ai o K=some r):∃v x,o=some ⟨v,x⟩∧K v x=some r:=by
 unfold Ai at h;split at h
 ·exact⟨_,_,rfl,h⟩
 ·cases h
theorem Lv {b:Bool}{x y:Option R}(h:Ba b x y=some r):(b=true∧x=some r)∨(b=false∧y=some r):=by
 unfold Ba at h;cases b
 ·exact .inr ⟨rfl,h⟩
 ·exact .inl ⟨rfl,h⟩
theorem E6 {es:Nat}{p:PV}{K:Bool->Nat->List PV->Option R}(h:Nb es p K=some r):
  ∃z n c,K z n c=some r∧(p=.lst z es n c∨(p=.sc (.slice none 0 0)∧z=true∧n=0∧c=[])):=by
 unfold Nb at h;split at h
 ·rename_i z es' n c;cases hb:Nat.beq es' es
  ·rw[hb] at h;cases h
  ·rw[hb] at h;have:=Nat.eq_of_beq_eq_true hb;subst this;exact⟨z,n,c,h,.inl rfl⟩
 ·exact⟨true,0,[],h,.inr ⟨rfl,rfl,rfl,rfl⟩⟩
 ·cases h
def Th:PV->Prop
 |.sc _=>True
 |.lst _ _ _ _=>True
 |_=>False
def GQ:PV->Prop
 |.sc _=>True
 |.lst _ _ _ _=>True
 |.view _ _ _ _=>True
 |_=>False
theorem Pu {c:PV}(h:Th c):GQ c:=by
 cases c<;>first|trivial|exact h.elim
theorem Hb {c:PV}(h:Th c):Ap c=[]:=by
 cases c<;>first|rfl|exact h.elim
variable {w:World} {A:Nat->Prop} {β:Nat->Option (Nat × Nat)}
theorem Kl {c:PV}{v:Value}(h:Th c):B1 w A β c v↔Aw w A c v:=by
 cases c<;>first|exact Iff.rfl|exact h.elim
theorem V4 {c:PV}{v:Value}(h:∀cs,c ≠ .agg cs):Hc w A β c v↔B1 w A β c v:=by
 cases c<;>first|exact Iff.rfl|exact absurd rfl (h _)
theorem Nm {c:PV}{v:Value}(h:∀cs,c ≠ .tup cs):Ea w A β c v↔Hc w A β c v:=by
 cases c<;>first|exact Iff.rfl|exact absurd rfl (h _)
theorem Vg {c:PV}(h:Th c)(cs:List PV):c ≠ .agg cs:=by rintro rfl;exact h
theorem YA {c:PV}(h:Th c)(cs:List PV):c ≠ .tup cs:=by rintro rfl;exact h
theorem Aw.val {v u:Value}(h:Aw w A (.sc v) u):u=v:=by cases h;rfl
theorem Ut {es n:Nat}{z:Bool}{c:List PV}{p:PV}{v:Value}(h:p=.lst z es n c∨(p=.sc (.slice none 0 0)∧z=true∧n=0∧c=[])) (hv:B1 w A β p v):Aw w A (.lst z es n c) v:=by
 rcases h with rfl|⟨rfl,rfl,rfl,rfl⟩
 ·exact hv
 ·have:=Aw.val (w:=w) (A:=A) hv;subst this;exact .lnil true es
theorem Ly {t:CT}{p:PV}{K:PV->Option R}(h:X7 t p K=some r):
  ∃c,K c=some r∧Th c∧Th p∧∀(w:World) (A:Nat->Prop) (β:Nat->Option (Nat × Nat)) (v:Value),B1 w A β p v->Aw w A c v∧v.oneCell'=true:=by
 cases t with
 |int k=>obtain⟨n,rfl,h2⟩:=Ec h;exact⟨_,h2,trivial,trivial,fun w A β v hv=>⟨hv,by have:=Aw.val (w:=w) (A:=A) hv;subst this;rfl⟩⟩
 |bool=>obtain⟨n,rfl,h⟩:=Do h;exact⟨_,h,trivial,trivial,fun w A β v hv=>⟨hv,by have:=Aw.val (w:=w) (A:=A) hv;subst this;rfl⟩⟩
 |str=>obtain⟨n,rfl,h⟩:=Dk h;exact⟨_,h,trivial,trivial,fun w A β v hv=>⟨hv,by have:=Aw.val (w:=w) (A:=A) hv;subst this;rfl⟩⟩
 |sl es=>
  obtain⟨z,n,c,h,hp⟩:=E6 h;refine⟨_,h,trivial,?_,fun w A β v hv=>⟨Ut hp hv,?_⟩⟩
  ·rcases hp with rfl|⟨rfl,_⟩<;>trivial
  ·have ht:=Ut hp hv;cases ht<;>rfl
 |any=>
  obtain⟨u,rfl,h1,h2⟩:=WH (show ZP p (fun v=>K (.sc v))=some r from h)
  exact⟨_,h2,trivial,trivial,fun w A β v hv=>⟨hv,by have:=Aw.val (w:=w) (A:=A) hv;subst this;exact h1⟩⟩
theorem Aip {t:CT}{p:PV}{K:PV->Option R}(h:fcK t p K=some r):
  ∃c,K c=some r∧(Th c∨c=p)∧GQ p∧p ≠ .top∧(∀cs,c ≠ .agg cs)∧(∀cs,c ≠ .tup cs)∧(∀id,id∈Ap c->id∈Ap p)∧∀(w:World) (A:Nat->Prop) (β:Nat->Option (Nat × Nat)) (v:Value),B1 w A β p v->B1 w A β c v∧v.oneCell'=true:=by
 have tree:∀t',X7 t' p K=some r->∃c,K c=some r∧(Th c∨c=p)∧GQ p∧p ≠ .top∧(∀cs,c ≠ .agg cs)∧(∀cs,c ≠ .tup cs)∧(∀id,id∈Ap c->id∈Ap p)∧∀(w:World) (A:Nat->Prop) (β:Nat->Option (Nat × Nat)) (v:Value),B1 w A β p v->B1 w A β c v∧v.oneCell'=true:=by
  intro t' h;obtain⟨c,h,hc,hp,hv⟩:=Ly h;exact⟨c,h,.inl hc,Pu hp,by rintro rfl;exact hp,Vg hc,YA hc,by rw[Hb hc];simp,fun w A β v h=>⟨(Kl hc).2 (hv w A β v h).1,(hv w A β v h).2⟩⟩
 cases t with
 |sl es=>
  unfold fcK fsK at h;dsimp only at h;split at h
  ·rename_i id es' off n;cases hb:Nat.beq es' es
   ·rw[hb] at h;cases h
   ·rw[hb] at h;have:=Nat.eq_of_beq_eq_true hb;subst this;exact⟨_,h,.inr rfl,trivial,by simp,by simp,by simp,fun _ h=>h,fun _ _ _ _ h=>⟨h,by rcases h with⟨_,_,_,_,rfl⟩|⟨_,_,_,_,_,rfl,_⟩<;>rfl⟩⟩
  ·exact tree (.sl es) h
 |int k=>exact tree (.int k) h
 |bool=>exact tree (.bool) h
 |str=>exact tree (.str) h
 |any=>exact tree (.any) h
theorem Zf {cells:List PV}{i:Nat}{p:PV}(h:cells.getD i .top=p)(hp:p ≠ .top):cells[i]?=some p:=by
 rw[List.getD_eq_getElem?_getD] at h;cases hc:cells[i]? with
 |none=>rw[hc] at h;exact absurd h.symm hp
 |some q=>rw[hc] at h;simp at h;rw[h]
theorem Rf:∀{ts:List CT}{cells:List PV}{off:Nat}{K:List PV->Option R},Qv ts cells off K=some r ->
  ∃cs,K cs=some r∧cs.length=ts.length∧∀j c,cs[j]?=some c->Th c∧∃p,cells[off+j]?=some p∧Th p ∧
   ∀(w:World) (A:Nat->Prop) (β:Nat->Option (Nat × Nat)) (v:Value),B1 w A β p v->Aw w A c v∧v.oneCell'=true
 |[],_,_,_,h=>⟨[],h,rfl,fun j c hj=>by simp at hj⟩
 |t::ts,cells,off,K,h=>by
  unfold Qv at h;obtain⟨c,h,hc,hp,hv⟩:=Ly h;obtain⟨cs,h,hl,AO⟩:=Rf h;refine⟨c::cs,h,by simp[hl],fun j c' hj=>?_⟩
  cases j with
  |zero=>
   simp at hj;subst hj;refine⟨hc,cells.getD off .top,Zf rfl ?_,hp,hv⟩;intro e;rw[e] at hp;exact hp
  |succ j=>
   simp at hj;have:=AO j c' hj
   rwa [Nat.add_right_comm,Nat.add_assoc] at this
theorem Rt:∀{ts:List CT}{cells:List PV}{off:Nat}{K:List PV->Option R},Na ts cells off K=some r ->
  ∃cs,K cs=some r∧cs.length=ts.length∧(∀c∈cs,(∀x,c ≠ .agg x)∧(∀x,c ≠ .tup x))∧∀j c,cs[j]?=some c->∃p,cells[off+j]?=some p∧GQ p∧(∀id,id∈Ap c->id∈Ap p) ∧
   ∀(w:World) (A:Nat->Prop) (β:Nat->Option (Nat × Nat)) (v:Value),B1 w A β p v->B1 w A β c v∧v.oneCell'=true
 |[],_,_,_,h=>⟨[],h,rfl,by simp,fun j c hj=>by simp at hj⟩
 |t::ts,cells,off,K,h=>by
  unfold Na at h;obtain⟨c,h,hc,hf,hp,ha,ht,hr,hv⟩:=Aip h;obtain⟨cs,h,hl,Yn,AO⟩:=Rt h;refine⟨c::cs,h,by simp[hl],?_,fun j c' hj=>?_⟩
  ·intro x hx;rcases List.mem_cons.1 hx with rfl|hx
   ·exact⟨ha,ht⟩
   ·exact Yn x hx
  ·cases j with
   |zero=>
    simp at hj;subst hj;exact⟨cells.getD off .top,Zf rfl hp,hf,hr,hv⟩
   |succ j=>
    simp at hj;have:=AO j c' hj
    rwa [Nat.add_right_comm,Nat.add_assoc] at this
theorem MN {agg:Bool}{cells:List PV}{K:PV->Option R}(h:XZ agg cells K=some r):
  (agg=true∧K (.agg cells)=some r)∨(agg=false∧∃c,cells=[c]∧K c=some r):=by
 unfold XZ at h;cases agg
 ·obtain⟨c,t,rfl,h⟩:=A8 h;obtain⟨rfl,h⟩:=Dj h;exact .inr ⟨rfl,c,rfl,h⟩
 ·exact .inl ⟨rfl,h⟩
end
open Go.RowKit
def C8 (b:Option Bo):Prop:=
 match b with
 |some (.st _)=>True
 |some (.ar false _)=>True
 |_=>False
abbrev Bt:=Nat->Option (Nat × Nat)
def LW (hp:Nat->Option Bo)(β:Bt)(b:Nat):Prop:=∃id o,C8 (hp id)∧β id=some (b,o)
def C7 (hp:Nat->Option Bo)(β:Bt)(Y:Nat->Prop)(b:Nat):Prop:=LW hp β b∨Y b
def Pr (w:World)(A:Nat->Prop)(β:Bt)(id:Nat)(bx:Bo):Prop:=
 match bx with
 |.st cells=>∃b o,β id=some (b,o)∧(∀j c,cells[j]?=some c->∃v,w.cell? ⟨b,o+j,none⟩=some v∧B1 w A β c v)∧∀j,j<cells.length->w.frozen? ⟨b,o+j,none⟩=false
 |.ar fz cells=>(β id=none∧cells=[])∨∃b o,β id=some (b,o)∧SL w A ⟨b,o,none⟩ cells∧(fz=false->∀j,o<=j->j<bsz w b->w.frozen? ⟨b,j,none⟩=false)∧(fz=true->¬A b)
 |.mv=>True
structure Hg where
 X:Nat->Prop
 L:Nat->Nat->Prop
 pn:Nat->Prop
 pt:Nat->Option (Nat × Nat)
 p8:∀i,pn i->i<8
def BR (bx:Bo)(o j:Nat):Prop:=
 match bx with
 |.st c=>o<=j∧j<o+c.length
 |.ar _ _=>o<=j
 |.mv=>False
structure Fr (X0:Hg) (w0 w:World):Prop where
 os:w.os=w0.os
 tape:w.tape=w0.tape
 output:w.output=w0.output
 step:B8 X0.X w0 w
 rng:∀b j,b<w0.heap.size->¬X0.L b j->w.cell? ⟨b,j,none⟩=w0.cell? ⟨b,j,none⟩∧w.frozen? ⟨b,j,none⟩=w0.frozen? ⟨b,j,none⟩
structure Cr (N:Nat) (w0:World) (X0:Hg) (Y:Nat->Prop) (β:Bt) (s:St) (a:Act) (w:World):Prop where
 dfr:a.defers=[]
 tsz:a.tmps.size=N
 tmo:∀i,N<=i->s.tm i=.top
 tms:∀i,i<N->Ea w (C7 s.hp β Y) β (s.tm i) (a.tmps.getD i undef)
 box:∀id b,s.hp id=some b->Pr w (C7 s.hp β Y) β id b
 inj:∀id id' b o o',C8 (s.hp id)->C8 (s.hp id')->β id=some (b,o)->β id'=some (b,o')->id=id'
 blt:∀id b o,s.hp id≠none->β id=some (b,o)->b<w.heap.size
 wfT:∀i,i<N->∀id∈Bs (s.tm i),s.hp id≠none
 wfB:∀id cells,s.hp id=some (.st cells)->∀c∈cells,∀id'∈Ap c,s.hp id'≠none
 ownd:∀b,LW s.hp β b->X0.X b∨w0.heap.size<=b
 rngB:∀id bx b o,s.hp id=some bx->C8 (some bx)->β id=some (b,o)->b<w0.heap.size->∀j,BR bx o j->X0.L b j
 pin:∀i,X0.pn i->s.hp (Dh N i)≠none∧β (Dh N i)=X0.pt i
 stp:∀id c b o,s.hp id=some (.st c)->β id=some (b,o)->b<w0.heap.size->∃i,id=Dh N i∧X0.pn i
 Yx:∀b,Y b->¬LW s.hp β b
 Ylt:∀b,Y b->b<w0.heap.size
 fr:Fr X0 w0 w
theorem Cu {b:Option Bo}(h:C8 b):b≠none:=by rintro rfl;exact h
theorem Am {α:Type}(f:Nat->α)(i:Nat)(v:α):Cn f i v i=v:=by simp[Cn,Nat.beq_refl]
theorem Aj {α:Type}(f:Nat->α){i j:Nat}(v:α)(h:j≠i):Cn f i v j=f j:=by
 have:Nat.beq j i=false:=by
  cases hb:Nat.beq j i
  ·rfl
  ·exact absurd (Nat.eq_of_beq_eq_true hb) h
 simp[Cn,this]
theorem V6 {α:Type}(f:Nat->α){i:Nat}{v:α}(h:f i=v):Cn f i v=f:=by
 funext j
 by_cases e:j=i
 ·subst e;rw[Am];exact h.symm
 ·exact Aj f v e
theorem OV {α:Type}(f:Nat->α){i j:Nat}(u v:α)(h:i≠j):Cn (Cn f i u) j v=Cn (Cn f j v) i u:=by
 funext k
 by_cases e:k=j
 ·subst e;rw[Am,Aj _ _ (Ne.symm h),Am]
 ·rw[Aj _ _ e];by_cases e':k=i
  ·subst e';rw[Am,Am]
  ·rw[Aj _ _ e',Aj _ _ e',Aj _ _ e]
theorem HE {a:Act}{d:Nat}{v:Value}(h:d<a.tmps.size):(a.put (some d) v).tmps.getD d undef=v:=by
 simp[Act.put,h]
theorem DK {a:Act}{d i:Nat}{v:Value}(h:i≠d):(a.put (some d) v).tmps.getD i undef=a.tmps.getD i undef:=by
 have h':d≠i:=fun e=>h e.symm
 simp[Act.put,Array.getElem?_setIfInBounds_ne h']
section
variable {N:Nat} {w0:World} {X0:Hg} {Y:Nat->Prop} {β β':Bt} {s:St} {a:Act} {w w':World}
theorem Vm (d:Option Tmp)(v:Value):(a.put d v).tmps.size=a.tmps.size:=by cases d<;>simp[Act.put]
theorem Qg (d:Option Tmp)(v:Value):(a.put d v).defers=a.defers:=by cases d<;>rfl
theorem Oq {d:Option Tmp}(h:Fz N d=true){i:Nat}(e:d=some i):i<N:=by
 subst e;exact Nat.lt_of_succ_le (Nat.le_of_ble_eq_true h)
theorem Nu {Q:Nat->PV->Value->Prop}{tm:Nat->PV}{d:Option Tmp}{v:PV}{val:Value}(hN:a.tmps.size=N)(hd:Fz N d=true)
  (h:∀i,i<N->Q i (tm i) (a.tmps.getD i undef)) (hv:∀i,Q i v val):∀i,i<N->Q i (Bl tm d v i) ((a.put d val).tmps.getD i undef):=by
 intro i hi;cases d with
 |none=>exact h i hi
 |some d=>
  have B7:=Oq hd rfl;by_cases e:i=d
  ·subst e;show Q i (Cn tm i v i) _;rw[Am,HE (by omega)]
   exact hv i
  ·show Q i (Cn tm d v i) _;rw[Aj _ _ e,DK e];exact h i hi
theorem LG {tm:Nat->PV}{d:Option Tmp}{v:PV}(hd:Fz N d=true)(h:∀i,N<=i->tm i=.top):∀i,N<=i->Bl tm d v i=.top:=by
 intro i hi;cases d with
 |none=>exact h i hi
 |some d=>
  have:=Oq hd rfl;show Cn tm d v i=_;rw[Aj _ _ (by omega)]
  exact h i hi
theorem Cr.put (h:Cr N w0 X0 Y β s a w){d:Option Tmp}{v:PV}{val:Value}(hd:Fz N d=true)(hv:Ea w (C7 s.hp β Y) β v val) (hr:∀id∈Bs v,s.hp id≠none):
  Cr N w0 X0 Y β ⟨Bl s.tm d v,s.hp⟩ (a.put d val) w where
 dfr:=by rw[Qg];exact h.dfr
 tsz:=by rw[Vm];exact h.tsz
 tmo:=LG hd h.tmo
 tms:=Nu (Q:=fun _ p u=>Ea w (C7 s.hp β Y) β p u) h.tsz hd h.tms (fun _=>hv)
 box:=h.box
 inj:=h.inj
 blt:=h.blt
 wfT:=by
  have:=Nu (Q:=fun _ p _=>∀id∈Bs p,s.hp id≠none) (val:=val) h.tsz hd h.wfT (fun _=>hr)
  exact this
 wfB:=h.wfB
 ownd:=h.ownd
 rngB:=h.rngB
 pin:=h.pin
 stp:=h.stp
 Yx:=h.Yx
 Ylt:=h.Ylt
 fr:=h.fr
theorem Bv (hp:Nat->Option Bo)(ids:List Nat)(i:Nat):Ag hp ids i=if i∈ids then (hp i).map Rp else hp i:=by
 unfold Ag;by_cases hi:i∈ids
 ·have:ids.any (Nat.beq i)=true:=List.any_eq_true.2 ⟨i,hi,Nat.beq_refl i⟩;rw[this,if_pos hi];rfl
 ·have:ids.any (Nat.beq i)=false:=by
   cases hb:ids.any (Nat.beq i)
   ·rfl
   ·obtain⟨j,hj,e⟩:=List.any_eq_true.1 hb;exact absurd (Nat.eq_of_beq_eq_true e ▸ hj) hi
  rw[this,if_neg hi];rfl
theorem Dx {hp:Nat->Option Bo}{ids:List Nat}{i:Nat}:Ag hp ids i=none↔hp i=none:=by
 rw[Bv];split<;>simp
theorem Nn {hp:Nat->Option Bo}{ids:List Nat}{i:Nat}(h:C8 (Ag hp ids i)):C8 (hp i):=by
 rw[Bv] at h;split at h
 ·cases hb:hp i with
  |none=>rw[hb] at h;exact h
  |some b=>cases b with
   |st c=>trivial
   |ar fz c=>rw[hb] at h;exact h.elim
   |mv=>rw[hb] at h;exact h
 ·exact h
theorem H0 {hp:Nat->Option Bo}{ids:List Nat}{i:Nat}{bx:Bo}(h:Ag hp ids i=some bx)(hl:C8 (some bx)):hp i=some bx:=by
 rw[Bv] at h;split at h
 ·cases hb:hp i with
  |none=>rw[hb] at h;cases h
  |some b=>
   rw[hb] at h;cases b with
   |st c=>exact h
   |ar fz c=>simp only[Option.map_some,Rp,Option.some.injEq] at h;subst h;exact hl.elim
   |mv=>simp only[Option.map_some,Rp,Option.some.injEq] at h;subst h;exact hl.elim
 ·exact h
theorem Pa {hp:Nat->Option Bo}{ids:List Nat}{b:Nat}(h:LW (Ag hp ids) β b):LW hp β b:=by
 obtain⟨id,o,hl,hb⟩:=h;exact⟨id,o,Nn hl,hb⟩
theorem Pr.step' {A A':Nat->Prop}{id:Nat}{bx:Bo}(hA:∀b,A' b->A b)(h:Pr w A β id bx):Pr w A' β id bx:=by
 have hs:=B8.refl A w;cases bx with
 |st c=>
  obtain⟨b,o,h1,h2,h3⟩:=h;exact⟨b,o,h1,fun j c hj=>let ⟨v,hv,hc⟩:=h2 j c hj;⟨v,hv,hc.step hs (fun b _=>hA b) (fun _ _=>rfl)⟩,h3⟩
 |ar fz c=>
  rcases h with h|⟨b,o,h1,h2,h3,h4⟩
  ·exact .inl h
  ·exact .inr ⟨b,o,h1,h2.weak (fun b _=>hA b),h3,fun e x=>h4 e (hA b x)⟩
 |mv=>trivial
theorem Cr.freeze (h:Cr N w0 X0 Y β s a w){fz:List Nat}(Xl:∀id∈fz,∃f c,s.hp id=some (.ar f c)):Cr N w0 X0 Y β ⟨s.tm,Ag s.hp fz⟩ a w:=by
 have hA:∀b,C7 (Ag s.hp fz) β Y b->C7 s.hp β Y b:=fun b hb=>hb.imp Pa id
 refine⟨h.dfr,h.tsz,h.tmo,fun i hi=>(h.tms i hi).step (B8.refl _ _) (fun b _=>hA b) (fun _ _=>rfl),fun id b hb=>?_,fun id id' b o o' h1 h2=>h.inj id id' b o o' (Nn h1) (Nn h2),
  fun id b o hn=>h.blt id b o (fun e=>hn (Dx.2 e)),fun i hi id Bj e=>h.wfT i hi id Bj (Dx.1 e),fun id cells hc c QP id' Bj e=>?_,fun b hb=>h.ownd b (Pa hb),
  fun id bx b o hb hl=>h.rngB id bx b o (H0 hb hl) hl,fun i hi=>⟨fun e=>(h.pin i hi).1 (Dx.1 e),(h.pin i hi).2⟩,fun id c b o hc=>h.stp id c b o (H0 hc trivial),fun b hb x=>h.Yx b hb (Pa x),h.Ylt,h.fr⟩
 ·simp only at hb;rw[Bv] at hb;split at hb
  ·rename_i hm;obtain⟨f,c,hc⟩:=Xl id hm;rw[hc] at hb;simp only[Option.map_some,Rp,Option.some.injEq] at hb;subst hb;have Ku:=h.box id _ hc;rcases Ku with Ku|⟨b,o,h1,h2,h3,h4⟩
   ·exact .inl Ku
   ·refine .inr ⟨b,o,h1,h2.weak (fun b _=>hA b),(fun e=>by cases e),fun _ hb=>?_⟩
    rcases hb with⟨id',o',hl,hb⟩|hY
    ·have hl0:=Nn hl;cases f with
     |true=>exact h4 rfl (.inl ⟨id',o',hl0,hb⟩)
     |false=>
      have e:=h.inj id' id b o' o hl0 (by rw[hc];trivial) hb h1
      subst e;simp only at hl;rw[Bv,if_pos hm,hc] at hl;exact hl
    ·cases f with
     |true=>exact h4 rfl (.inr hY)
     |false=>exact h.Yx b hY ⟨id,o,by rw[hc];trivial,h1⟩
  ·exact (h.box id b hb).step' hA
 ·simp only at hc;rw[Bv] at hc;refine h.wfB id cells ?_ c QP id' Bj (Dx.1 e);split at hc
  ·rename_i hm;obtain⟨f,c,Oo⟩:=Xl id hm;rw[Oo] at hc;cases hc
  ·exact hc
theorem Bk:∀{nw:List (Nat × Bo)} {hp:Nat->Option Bo},Bq hp nw=true ->
  (∀id bx,(id,bx)∈nw->hp id=none)∧(∀id bx bx',(id,bx)∈nw->(id,bx')∈nw->bx=bx')
 |[],_,_=>⟨by simp,by simp⟩
 |(i,b)::r,hp,h=>by
  simp only[Bq,Bool.and_eq_true,Option.isNone_iff_eq_none,Bool.not_eq_true'] at h;obtain⟨⟨h1,h2⟩,h3⟩:=h;obtain⟨h4,h5⟩:=Bk h3
  have Eo:∀bx,(i,bx) ∉ r:=by
   intro bx hm;have:r.any (fun q=>Nat.beq q.1 i)=true:=List.any_eq_true.2 ⟨_,hm,Nat.beq_refl i⟩
   rw[this] at h2;cases h2
  refine⟨fun id bx hm=>?_,fun id bx bx' hm I6=>?_⟩
  ·rcases List.mem_cons.1 hm with e|hm
   ·cases e;exact h1
   ·exact h4 id bx hm
  ·rcases List.mem_cons.1 hm with e|hm
   ·cases e;rcases List.mem_cons.1 I6 with e|I6
    ·cases e;rfl
    ·exact absurd I6 (Eo _)
   ·rcases List.mem_cons.1 I6 with e|I6
    ·cases e;exact absurd hm (Eo _)
    ·exact h5 id bx bx' hm I6
theorem D6:∀{nw:List (Nat × Bo)} {hp:Nat->Option Bo},(∀id bx bx',(id,bx)∈nw->(id,bx')∈nw->bx=bx') ->
  (∀id bx,(id,bx)∈nw->Ar hp nw id=some bx)∧(∀id,(∀bx,(id,bx) ∉ nw)->Ar hp nw id=hp id)
 |[],_,_=>⟨by simp,fun _ _=>rfl⟩
 |(i,b)::r,hp,h=>by
  obtain⟨h1,h2⟩:=D6 (nw:=r) (hp:=Cn hp i (some b)) (fun id bx bx' hm I6=>h id bx bx' (by simp[hm]) (by simp[I6]))
  refine⟨fun id bx hm=>?_,fun id hn=>?_⟩
  ·by_cases hr:∃bx',(id,bx')∈r
   ·obtain⟨bx',hr⟩:=hr;have:=h id bx bx' hm (by simp[hr])
    subst this;exact h1 id bx hr
   ·rcases List.mem_cons.1 hm with e|hm
    ·cases e;show Ar (Cn hp i (some b)) r i=_;rw[h2 i (fun bx' hb=>hr ⟨bx',hb⟩),Am]
    ·exact absurd ⟨bx,hm⟩ hr
  ·show Ar (Cn hp i (some b)) r id=_;rw[h2 id (fun bx hb=>hn bx (by simp[hb])),Aj]
   rintro rfl
   exact hn b (by simp)
structure IU (Y:Nat->Prop) (β:Bt) (s:St) (w:World) (v:PV) (nw:List (Nat × Bo)) (val:Value) (w':World) (β':Bt):Prop where
 os:w'.os=w.os
 tape:w'.tape=w.tape
 output:w'.output=w.output
 ext:B8 (fun _=>False) w w'
 old:∀id,s.hp id≠none->β' id=β id
 nlive:∀id bx,(id,bx)∈nw->C8 (some bx)
 nbox:∀id bx,(id,bx)∈nw->Pr w' (C7 (Ar s.hp nw) β' Y) β' id bx
 nblk:∀id bx b o,(id,bx)∈nw->β' id=some (b,o)->w.heap.size<=b∧b<w'.heap.size
 ninj:∀id bx id' bx' b o o',(id,bx)∈nw->(id',bx')∈nw->β' id=some (b,o)->β' id'=some (b,o')->id=id'
 nwf:∀id cells,(id,.st cells)∈nw->∀c∈cells,∀id'∈Ap c,s.hp id'≠none∨∃bx,(id',bx)∈nw
 val:Ea w' (C7 (Ar s.hp nw) β' Y) β' v val
 vwf:∀id∈Bs v,s.hp id≠none∨∃bx,(id,bx)∈nw
theorem Cr.stepR (h:Cr N w0 X0 Y β s a w){d:Option Tmp}{v:PV}{nw:List (Nat × Bo)} {val:Value}(hd:Fz N d=true)(Ny:Bq s.hp nw=true)
  (st:IU Y β s w v nw val w' β'):Cr N w0 X0 Y β' ⟨Bl s.tm d v,Ar s.hp nw⟩ (a.put d val) w':=by
 obtain⟨ha1,Jr⟩:=Bk Ny;obtain⟨hg1,hg2⟩:=D6 (hp:=s.hp) Jr
 have G3:∀id,(∃bx,(id,bx)∈nw)∨Ar s.hp nw id=s.hp id:=fun id=>by
  by_cases hx:∃bx,(id,bx)∈nw
  ·exact .inl hx
  ·exact .inr (hg2 id fun bx hb=>hx ⟨bx,hb⟩)
 have Av6:∀id,s.hp id≠none->Ar s.hp nw id=s.hp id:=fun id hn=>by
  rcases G3 id with⟨bx,hx⟩|e
  ·exact absurd (ha1 id bx hx) hn
  ·exact e
 have Pe:∀id,(s.hp id≠none∨∃bx,(id,bx)∈nw)->Ar s.hp nw id≠none:=by
  rintro id (hn|⟨bx,hx⟩)
  ·rw[Av6 id hn];exact hn
  ·rw[hg1 id bx hx];simp
 have Anb:∀b,b<w.heap.size->LW (Ar s.hp nw) β' b->LW s.hp β b:=by
  rintro b hb ⟨id,o,hl,hβ⟩
  rcases G3 id with⟨bx,hx⟩|e
  ·have:=(st.nblk id bx b o hx hβ).1;omega
  ·rw[e] at hl;exact⟨id,o,hl,by rw[←st.old id (Cu hl)];exact hβ⟩
 have XL:∀b,b<w.heap.size->C7 (Ar s.hp nw) β' Y b->C7 s.hp β Y b:=fun b hb hA=>hA.imp (Anb b hb) id
 have XM:B8 (C7 s.hp β Y) w w':=st.ext.weaken (fun _ _ x=>x.elim)
 refine⟨by rw[Qg];exact h.dfr,by rw[Vm];exact h.tsz,LG hd h.tmo,?_,?_,?_,?_,?_,?_,?_,?_,?_,?_,?_,h.Ylt,?_⟩
 ·refine Nu (Q:=fun _ p u=>Ea w' (C7 (Ar s.hp nw) β' Y) β' p u) h.tsz hd (fun i hi=>?_) (fun _=>st.val)
  exact (h.tms i hi).step XM XL fun id Bj=>st.old id (h.wfT i hi id Bj)
 ·intro id b hb;simp only at hb;rcases G3 id with⟨bx,hx⟩|e
  ·rw[hg1 id bx hx] at hb;cases hb;exact st.nbox id _ hx
  ·rw[e] at hb;have hβ:=st.old id (by rw[hb];simp)
   have Ku:=h.box id b hb;have B7:=h.blt id;have Eo:s.hp id≠none:=by rw[hb];simp
   cases b with
   |st c=>
    obtain⟨b,o,h1,h2,h3⟩:=Ku;have Hf:=B7 b o Eo h1;have Pj:=st.ext.keep b Hf (fun x=>x)
    refine⟨b,o,by rw[hβ];exact h1,fun j c hj=>?_,fun j hj=>?_⟩
    ·obtain⟨v,hv,hc⟩:=h2 j c hj;refine⟨v,by rw[World.cell?_of_block (w:=w) Pj];exact hv,hc.step XM XL fun id' Bj=>st.old id' ?_⟩
     exact h.wfB id _ hb c (List.mem_of_getElem? hj) id' Bj
    ·rw[World.frozen?_of_block (w:=w) Pj];exact h3 j hj
   |ar fz c=>
    rcases Ku with⟨h1,h2⟩|⟨b,o,h1,h2,h3,h4⟩
    ·exact .inl ⟨by rw[hβ];exact h1,h2⟩
    ·have Hf:=B7 b o Eo h1;have Pj:=st.ext.keep b Hf (fun x=>x)
     have GI:bsz w' b=bsz w b:=by unfold bsz;rw[Pj]
     refine .inr ⟨b,o,by rw[hβ];exact h1,fun j c hj=>?_,fun e j hj Q4=>?_,fun e x=>h4 e (XL b Hf x)⟩
     ·obtain⟨v,hv,h5,hc⟩:=h2 j c hj;exact⟨v,by rw[World.cell?_of_block (w:=w) (by rw[Em];exact Pj)];exact hv,h5,hc.step XM XL⟩
     ·rw[World.frozen?_of_block (w:=w) Pj];exact h3 e j hj (by rw[←GI];exact Q4)
   |mv=>trivial
 ·intro id id' b o o' hl Je hb Hf;simp only at hl Je;rcases G3 id with⟨bx,hx⟩|e
  ·rcases G3 id' with⟨bx',R6⟩|e'
   ·exact st.ninj id bx id' bx' b o o' hx R6 hb Hf
   ·rw[e'] at Je;have h1:=(st.nblk id bx b o hx hb).1;have h2:=h.blt id' b o' (Cu Je) (by rw[←st.old id' (Cu Je)];exact Hf)
    omega
  ·rw[e] at hl;rcases G3 id' with⟨bx',R6⟩|e'
   ·have h1:=(st.nblk id' bx' b o' R6 Hf).1;have h2:=h.blt id b o (Cu hl) (by rw[←st.old id (Cu hl)];exact hb)
    omega
   ·rw[e'] at Je;exact h.inj id id' b o o' hl Je (by rw[←st.old id (Cu hl)];exact hb) (by rw[←st.old id' (Cu Je)];exact Hf)
 ·intro id b o hn hb;simp only at hn;rcases G3 id with⟨bx,hx⟩|e
  ·exact (st.nblk id bx b o hx hb).2
  ·rw[e] at hn;exact Nat.lt_of_lt_of_le (h.blt id b o hn (by rw[←st.old id hn];exact hb)) st.ext.size
 ·have:=Nu (Q:=fun _ p _=>∀id∈Bs p,Ar s.hp nw id≠none) (val:=val) (d:=d) (v:=v) h.tsz hd (fun i hi id Bj=>Pe id (.inl (h.wfT i hi id Bj))) (fun _ id Bj=>Pe id (st.vwf id Bj))
  exact this
 ·intro id cells hc c QP id' Bj;simp only at hc;rcases G3 id with⟨bx,hx⟩|e
  ·rw[hg1 id bx hx] at hc;cases hc;exact Pe id' (st.nwf id _ hx c QP id' Bj)
  ·rw[e] at hc;exact Pe id' (.inl (h.wfB id cells hc c QP id' Bj))
 ·rintro b ⟨id,o,hl,hb⟩
  simp only at hl;rcases G3 id with⟨bx,hx⟩|e
  ·exact .inr (Nat.le_trans h.fr.step.size (st.nblk id bx b o hx hb).1)
  ·rw[e] at hl;exact h.ownd b ⟨id,o,hl,by rw[←st.old id (Cu hl)];exact hb⟩
 ·intro id bx b o hb hl hβ B7;simp only at hb;rcases G3 id with⟨bx',hx⟩|e
  ·have:=(st.nblk id bx' b o hx hβ).1;have:=h.fr.step.size;omega
  ·rw[e] at hb;exact h.rngB id bx b o hb hl (by rw[←st.old id (by rw[hb];simp)];exact hβ) B7
 ·intro i hi;obtain⟨h1,h2⟩:=h.pin i hi;exact⟨Pe _ (.inl h1),by rw[st.old _ h1];exact h2⟩
 ·intro id c b o hb hβ B7;simp only at hb;rcases G3 id with⟨bx',hx⟩|e
  ·have:=(st.nblk id bx' b o hx hβ).1;have:=h.fr.step.size;omega
  ·rw[e] at hb;exact h.stp id c b o hb (by rw[←st.old id (by rw[hb];simp)];exact hβ) B7
 ·rintro b hY hX
  have hb:b<w.heap.size:=Nat.lt_of_lt_of_le (h.Ylt b hY) h.fr.step.size;exact h.Yx b hY (Anb b hb hX)
 ·refine⟨st.os.trans h.fr.os,st.tape.trans h.fr.tape,st.output.trans h.fr.output,h.fr.step.trans st.ext (fun _ _ x=>x.elim),fun b j hb hL=>?_⟩
  have Pj:=st.ext.keep b (Nat.lt_of_lt_of_le hb h.fr.step.size) (fun x=>x)
  have hc:w'.cell? ⟨b,j,none⟩=w.cell? ⟨b,j,none⟩:=World.cell?_of_block (w:=w) Pj;have hf:w'.frozen? ⟨b,j,none⟩=w.frozen? ⟨b,j,none⟩:=World.frozen?_of_block (w:=w) Pj;rw[hc,hf];exact h.fr.rng b j hb hL
end
open Go.RowKit
section
variable {P:Program} {N:Nat} {w0:World} {X0:Hg} {Y:Nat->Prop} {β β':Bt} {s:St} {a:Act} {w w':World} {o:Oper}
theorem RK (cs:List Value)(A:Nat->Prop):Be (B1 w A β) (cs.map PV.sc) cs:=by
 induction cs with
 |nil=>trivial
 |cons v r ih=>exact⟨Aw.sc v,ih⟩
theorem UC (cs:List Value):(cs.map PV.sc).flatMap Ap=[]:=by
 induction cs with
 |nil=>rfl
 |cons v r ih=>exact ih
theorem Cv (h:Cr N w0 X0 Y β s a w)(x:Operand):Ea w (C7 s.hp β Y) β (Bz s.tm x) (a.eval x):=by
 cases x with
 |tmp t=>
  show Ea _ _ _ (s.tm t) (a.tmps.getD t undef);by_cases ht:t<N
  ·exact h.tms t ht
  ·rw[h.tmo t (Nat.le_of_not_lt ht)];exact Aw.top _
 |const v=>
  cases v with
  |agg cs=>exact⟨cs.toList,by simp[Act.eval],RK cs.toList _⟩
  |_=>exact Aw.sc _
 |func f=>exact Aw.sc _
 |global g=>exact Aw.sc _
theorem Ex (h:Cr N w0 X0 Y β s a w)(x:Operand):∀id∈Bs (Bz s.tm x),s.hp id≠none:=by
 cases x with
 |tmp t=>
  show ∀id∈Bs (s.tm t),_;by_cases ht:t<N
  ·exact h.wfT t ht
  ·rw[h.tmo t (Nat.le_of_not_lt ht)];intro id Bj;cases Bj
 |const v=>
  cases v with
  |agg cs=>
   intro id Bj;have:Bs (.agg (cs.toList.map .sc))=[]:=UC cs.toList;simp only[Bz] at Bj;rw[this] at Bj;cases Bj
  |_=>intro id Bj;cases Bj
 |func f=>intro id Bj;cases Bj
 |global g=>intro id Bj;cases Bj
theorem Yh {A:Nat->Prop}{v u:Value}(h:Ea w A β (.sc v) u):u=v:=Aw.val h
theorem B6 (h:Cr N w0 X0 Y β s a w){x:Operand}{v:Value}(e:Bz s.tm x=.sc v):a.eval x=v:=by
 have:=Cv h x;rw[e] at this;exact Yh this
def D4 (P:Program)(a:Act)(w:World)(o:Oper)(Y:Nat->Prop)(β:Bt)(s:St)(v:PV)(fz:List Nat)(nw:List (Nat × Bo)):Prop:=
 (∀id∈fz,∃f c,s.hp id=some (.ar f c))∧∃val w',(execOp a.eval o).run P w=.ok (.value val) w'∧(Bq s.hp nw=true->∃β',IU Y β ⟨s.tm,Ag s.hp fz⟩ w v nw val w' β')
theorem TP {v:PV}{val:Value}(hv:Ea w (C7 s.hp β Y) β v val) (hr:∀id∈Bs v,s.hp id≠none):IU Y β s w v [] val w β:=
 ⟨rfl,rfl,rfl,B8.refl _ _,fun _ _=>rfl,by simp,by simp,by simp,by simp,by simp,hv,fun id Bj=>.inl (hr id Bj)⟩
theorem B3 {v:PV}{val:Value}(Cm:(execOp a.eval o).run P w=.ok (.value val) w) (hv:Ea w (C7 s.hp β Y) β v val) (hr:∀id∈Bs v,s.hp id≠none):D4 P a w o Y β s v [] []:=
 ⟨by simp,val,w,Cm,fun _=>⟨β,TP (s:=⟨s.tm,Ag s.hp []⟩) hv hr⟩⟩
theorem Cg {v:Value}(Cm:(execOp a.eval o).run P w=.ok (.value v) w):D4 P a w o Y β s (.sc v) [] []:=B3 Cm (Aw.sc v) (by intro id Bj;cases Bj)
structure F2 (w w':World) (c:Array Value) (e:TypeId):Prop where
 os:w'.os=w.os
 tape:w'.tape=w.tape
 output:w'.output=w.output
 old:∀b,b<w.heap.size->w'.heap[b]?=w.heap[b]?
 size:w'.heap.size=w.heap.size+1
 new:∃fz:Nat × Nat,w'.heap[w.heap.size]?=some (.cells c e fz)∧(fz.1=fz.2∨c.size<=fz.1)
theorem F2.alloc (w:World)(c:Array Value)(e:TypeId):F2 w (w.alloc (.cells c e)) c e:=
 ⟨rfl,rfl,rfl,fun b hb=>Below.heap_alloc w _ b hb,by show (w.heap.push _).size=_;simp,(0,0),by show (w.heap.push _)[w.heap.size]?=_;simp,.inl rfl⟩
theorem F2.drew {c:Array Value}{e:TypeId}(h:F2 w w' c e):F2 w w'.drew c e:=⟨h.os,h.tape,h.output,h.old,h.size,h.new⟩
section
variable {c:Array Value} {e:TypeId}
theorem F2.step (h:F2 w w' c e):B8 (fun _=>False) w w':=
 ⟨by rw[h.size];omega,fun b hb _=>h.old b hb,fun b hb=>Gn.same (h.old b hb)⟩
theorem F2.cell (h:F2 w w' c e)(j:Nat):w'.cell? ⟨w.heap.size,j,none⟩=c[j]?:=by
 obtain⟨fz,hn,_⟩:=h.new;simp[World.cell?,hn]
theorem F2.frozen (h:F2 w w' c e){j:Nat}(hj:j<c.size):w'.frozen? ⟨w.heap.size,j,none⟩=false:=by
 obtain⟨fz,hn,hf⟩:=h.new;simp only[World.frozen?,hn];rcases hf with hf|hf<;>simp<;>omega
theorem Js (w:World)(c:Array Value)(e:TypeId):OP (w.alloc (.cells c e)) w.heap.size=false:=by
 unfold OP World.frozen?;have:(w.alloc (.cells c e)).heap[w.heap.size]?=some (.cells c e (0,0)):=by show (w.heap.push _)[w.heap.size]?=_;simp
 simp only[this];simp
theorem F2.bsz (h:F2 w w' c e):bsz w' w.heap.size=c.size:=by
 obtain⟨fz,hn,_⟩:=h.new;simp[Pv.bsz,hn]
end
theorem O6 {c:Array Value}{e:TypeId}{d:Nat}{bx:Bo}{v:PV}{val:Value}(hg:F2 w w' c e)(hd:s.hp d=none)(hl:C8 (some bx))
  (Ku:Pr w' (C7 (Cn s.hp d (some bx)) (Cn β d (some (w.heap.size,0))) Y) (Cn β d (some (w.heap.size,0))) d bx)
  (hcw:∀cells,bx=.st cells->∀x∈cells,∀id'∈Ap x,s.hp id'≠none)
  (hv:Ea w' (C7 (Cn s.hp d (some bx)) (Cn β d (some (w.heap.size,0))) Y) (Cn β d (some (w.heap.size,0))) v val)
  (hvr:∀id∈Bs v,s.hp id≠none∨id=d):IU Y β s w v [(d,bx)] val w' (Cn β d (some (w.heap.size,0))) where
 os:=hg.os
 tape:=hg.tape
 output:=hg.output
 ext:=hg.step
 old:=fun id hn=>Aj _ _ (by rintro rfl;exact hn hd)
 nlive:=by intro id b hm;simp at hm;obtain⟨rfl,rfl⟩:=hm;exact hl
 nbox:=by intro id b hm;simp at hm;obtain⟨rfl,rfl⟩:=hm;exact Ku
 nblk:=by
  intro id b x y hm hb;simp at hm;obtain⟨rfl,rfl⟩:=hm;rw[Am] at hb;simp at hb;have:=hg.size;omega
 ninj:=by intro id b id' b' x y z hm I6 _ _;simp at hm I6;rw[hm.1,I6.1]
 nwf:=by intro id cells hm x hx id' Bj;simp at hm;exact .inl (hcw cells hm.2.symm x hx id' Bj)
 val:=hv
 vwf:=by
  intro id Bj;rcases hvr id Bj with h|rfl
  ·exact .inl h
  ·exact .inr ⟨bx,by simp⟩
theorem XN {c:Array Value}{e:TypeId}(hg:F2 w w' c e){A A':Nat->Prop}(hA:∀b,b<w.heap.size->A' b->A b){cells:List PV}
  (h:∀(j:Nat) p,cells[j]?=some p->∃v,c[j]?=some v∧v.oneCell'=true∧Aw w A p v):SL w' A' ⟨w.heap.size,0,none⟩ cells:=by
 intro j p hj;obtain⟨v,hv,h1,ht⟩:=h j p hj;exact⟨v,by rw[Eh,Nat.zero_add,hg.cell];exact hv,h1,ht.step (hg.step.weaken (fun _ _ x=>x.elim)) hA⟩
theorem XG {d:Nat}{bx:Bo}(hwf:s.hp d=none):∀b,b<w.heap.size->C7 (Cn s.hp d (some bx)) (Cn β d (some (w.heap.size,0))) Y b->C7 s.hp β Y b:=by
 intro b hb hA;rcases hA with⟨id,o,hl,hβ⟩|hY
 ·by_cases e:id=d
  ·subst e;rw[Am] at hβ;simp at hβ;omega
  ·rw[Aj _ _ e] at hl hβ;exact .inl ⟨id,o,hl,hβ⟩
 ·exact .inr hY
theorem Ou {c:Array Value}{e:TypeId}{d:Nat}{cells:List PV}{fz:List Nat}{v:PV}{val:Value}
  (Xl:∀id∈fz,∃f c,s.hp id=some (.ar f c))
  (Cm:(execOp a.eval o).run P w=.ok (.value val) w') (hg:F2 w w' c e)
  (hc:∀(j:Nat) p,cells[j]?=some p->∃u,c[j]?=some u∧u.oneCell'=true∧Aw w (C7 (Ag s.hp fz) β Y) p u)
  (hv:(v=.ptr d 0∧val=.pointer (some ⟨w.heap.size,0,none⟩))∨∃es n cap,v=.view d es 0 n∧val=.slice (some ⟨w.heap.size,0,none⟩) n cap∧n<=cap∧cap*es<=c.size∧(es=1∨OP w' w.heap.size=false)):
  D4 P a w o Y β s v fz [(d,.ar false cells)]:=by
 refine⟨Xl,val,w',Cm,fun Ny=>⟨Cn β d (some (w.heap.size,0)),?_⟩⟩
 have hd:s.hp d=none:=(Bk Ny).1 d (.ar false cells) (by simp)
 have hd':Ag s.hp fz d=none:=Dx.2 hd;refine O6 (s:=⟨s.tm,Ag s.hp fz⟩) hg hd' trivial ?_ (fun cells hx=>by cases hx) ?_ ?_
 ·refine .inr ⟨w.heap.size,0,Am _ _ _,?_,fun _ j _ hj=>?_,(fun x=>by cases x)⟩
  ·exact XN hg (XG (s:=⟨s.tm,Ag s.hp fz⟩) hd') hc
  ·rw[hg.bsz] at hj;exact hg.frozen hj
 ·rcases hv with⟨rfl,rfl⟩|⟨es,n,cap,rfl,rfl,hn,T8,Ax9⟩
  ·exact⟨w.heap.size,0,Am _ _ _,rfl⟩
  ·exact .inr ⟨w.heap.size,0,0,cap,Am _ _ _,rfl,.inl rfl,hn,⟨by rw[hg.bsz];omega,Ax9⟩,by rw[hg.size];omega⟩
 ·intro id Bj;rcases hv with⟨rfl,_⟩|⟨es,n,cap,rfl,_⟩<;>(simp[Bs,Ca,Ap] at Bj;exact .inr Bj)
theorem HP {c:Array Value}{e:TypeId}{d:Nat}{cells:List PV}
  (Cm:(execOp a.eval o).run P w=.ok (.value (.pointer (some ⟨w.heap.size,0,none⟩))) w') (hg:F2 w w' c e)
  (hc:∀(j:Nat) p,cells[j]?=some p->∃u,c[j]?=some u∧B1 w (C7 s.hp β Y) β p u) (hr:∀x∈cells,∀id∈Ap x,s.hp id≠none):
  D4 P a w o Y β s (.ptr d 0) [] [(d,.st cells)]:=by
 refine⟨by simp,_,w',Cm,fun Ny=>⟨Cn β d (some (w.heap.size,0)),?_⟩⟩
 have hd:s.hp d=none:=(Bk Ny).1 d (.st cells) (by simp)
 refine O6 (s:=⟨s.tm,Ag s.hp []⟩) hg hd trivial ?_ (fun cs hx x hxm id Bj=>?_) ?_ ?_
 ·refine⟨w.heap.size,0,Am _ _ _,fun j p hj=>?_,fun j hj=>?_⟩
  ·obtain⟨u,hu,hp⟩:=hc j p hj;refine⟨u,by rw[Nat.zero_add,hg.cell];exact hu,hp.step (hg.step.weaken (fun _ _ x=>x.elim)) (XG (s:=⟨s.tm,Ag s.hp []⟩) hd) fun id Bj=>Aj _ _ ?_⟩
   rintro rfl
   exact hr p (List.mem_of_getElem? hj) id Bj hd
  ·rw[Nat.zero_add];obtain⟨u,hu,_⟩:=hc j _ (List.getElem?_eq_getElem hj)
   exact hg.frozen (by
    rcases Nat.lt_or_ge j c.size with h|h
    ·exact h
    ·rw[Array.getElem?_eq_none h] at hu;cases hu)
 ·injection hx with hx;subst hx;exact hr x hxm id Bj
 ·exact⟨w.heap.size,0,Am _ _ _,rfl⟩
 ·intro id Bj;simp[Bs,Ca,Ap] at Bj;exact .inr Bj
end
open Go.RowKit
section
variable {R:Type} {r:R} {P:Program} {N:Nat} {w0:World} {X0:Hg} {Y:Nat->Prop} {β β':Bt} {s:St} {a:Act} {w w':World} {o:Oper}
theorem Jx {t:TypeId}{n:Nat}(h:(P.info? t).map (·.size)=some n) (w:World):(sizeOf t).run P w=.ok n w:=by
 cases hi:P.info? t with
 |none=>rw[hi] at h;cases h
 |some i=>rw[hi] at h;simp at h;simp[sizeOf,typeInfo,hi,h]
theorem Afv {t:TypeId}{n:Nat}(h:Bb P t=n)(hn:0<n):(P.info? t).map (·.size)=some n:=by
 unfold Bb at h;cases hi:(P.info? t).map (·.size) with
 |none=>rw[hi] at h;simp at h;omega
 |some i=>rw[hi] at h;simp at h;rw[h]
theorem L8 {t:TypeId}{d:TypeDesc}(h:P.underlying t=some d)(w:World):(isAgg t).run P w=.ok (B2 P t) w:=by
 unfold isAgg B2;rw[h];simp only[Sem.run_bind,run_underlying h,Result.andThen_ok];cases d<;>rfl
theorem WS {t:TypeId}{v:Value}{K:PV->Option R}(h:cvK P t v K=some r):∃p,K p=some r∧Bs p=[]∧∀(w:World)(A:Nat->Prop)(β:Bt),Ea w A β p v:=by
 have sc:∀v:Value,K (.sc v)=some r->∃p,K p=some r∧Bs p=[]∧∀(w:World) (A:Nat->Prop) (β:Bt),Ea w A β p v:=fun v h=>⟨_,h,rfl,fun w A β=>Aw.sc v⟩
 unfold cvK at h;split at h
 ·rename_i cs;obtain⟨hl,h⟩:=Al h;obtain⟨xs,h,hxl,hx⟩:=Rf h;have hl:=Nat.eq_of_beq_eq_true hl;refine⟨_,h,?_,fun w A β=>⟨cs.toList,by simp,?_⟩⟩
  ·show xs.flatMap Ap=[];rw[List.flatMap_eq_nil_iff];intro c hc;obtain⟨j,hj⟩:=List.mem_iff_getElem?.1 hc;exact Hb (hx j c hj).1
  ·refine Be.of_at (by rw[hxl,hl]) fun i c u hc hu=>?_
   obtain⟨hT,p,hp,_,Yk⟩:=hx i c hc;refine (Kl hT).2 (Yk w A β u ?_).1;rw[Nat.zero_add,List.getElem?_map,hu] at hp;simp at hp;subst hp;exact Aw.sc u
 ·split at h
  ·exact⟨_,h,rfl,fun w A β=>Aw.lnil true _⟩
  ·cases h
 ·exact sc _ h
theorem Vk (h:Cr N w0 X0 Y β s a w){x:Operand}(Cm:(execOp a.eval o).run P w=.ok (.value (a.eval x)) w) {K:PV->Option R}(hk:Xr P o.type s.tm x K=some r):
  ∃v,K v=some r∧D4 P a w o Y β s v [] []:=by
 have dflt:K (Bz s.tm x)=some r->∃v,K v=some r∧D4 P a w o Y β s v [] []:=fun hk=>⟨_,hk,B3 Cm (Cv h x) (Ex h x)⟩
 cases x with
 |const v=>
  obtain⟨p,hk,hr,hv⟩:=WS hk;exact⟨p,hk,B3 Cm (hv _ _ _) (by rw[hr];simp)⟩
 |tmp t=>exact dflt hk
 |func f=>exact dflt hk
 |global g=>exact dflt hk
theorem Aaq {x:Operand}(ho:o.op=.move x):(execOp a.eval o).run P w=.ok (.value (a.eval x)) w:=by unfold execOp;rw[ho];rfl
theorem OM {x:Operand}(ho:o.op=.assign x):(execOp a.eval o).run P w=.ok (.value (a.eval x)) w:=by unfold execOp;rw[ho];rfl
theorem VQ (h:Cr N w0 X0 Y β s a w){c x y:Operand}(ho:o.op=.pick c x y){K:PV->Option R}(hk:(Ao (Bz s.tm c) fun t=>Ba t (K (Bz s.tm x)) (K (Bz s.tm y)))=some r):
  ∃v,K v=some r∧D4 P a w o Y β s v [] []:=by
 obtain⟨b,hb,hk⟩:=Do hk;have hc:=B6 h hb;rcases Lv hk with⟨rfl,hk⟩|⟨rfl,hk⟩
 ·exact⟨_,hk,B3 (by unfold execOp;rw[ho];simp[asBool,hc]) (Cv h x) (Ex h x)⟩
 ·exact⟨_,hk,B3 (by unfold execOp;rw[ho];simp[asBool,hc]) (Cv h y) (Ex h y)⟩
theorem Nh {t:TypeId}{K:List PV->Option R}(h:Gk P t K=some r):∃(v:Value)(cs:List PV),K cs=some r∧Nw P t=some v∧cs.length=(Hl P t).length∧cs.length=v.cells.toList.length∧cs.length=Bb P t ∧
  ∀(j:Nat) c,cs[j]?=some c->Th c∧∃u,v.cells.toList[j]?=some u∧u.oneCell'=true∧∀(w:World) (A:Nat->Prop),Aw w A c u:=by
 unfold Gk at h;obtain⟨v,hz,h⟩:=B9 h;obtain⟨hl,h⟩:=Al h;obtain⟨cs,h,I1,hc⟩:=Rf h;simp only[Bool.and_eq_true] at hl;have FZ:=Nat.eq_of_beq_eq_true hl.1
 have Q1:(Hl P t).length=Bb P t:=by
  have:=hl.2;simp only[Hy,Bool.and_eq_true] at this;exact Nat.eq_of_beq_eq_true this.2
 refine⟨v,cs,h,hz,I1,by rw[I1,FZ],by rw[I1,Q1],fun j c hj=>?_⟩
 obtain⟨hT,p,hp,_,Yk⟩:=hc j c hj;rw[Nat.zero_add,List.getElem?_map] at hp;cases hu:v.cells.toList[j]? with
 |none=>rw[hu] at hp;cases hp
 |some u=>
  rw[hu] at hp;simp at hp;subst hp;exact⟨hT,u,rfl,(Yk default (fun _=>False) (fun _=>none) u (Aw.sc u)).2,fun w A=>(Yk w A (fun _=>none) u (Aw.sc u)).1⟩
theorem Tp {t:TypeId}{v:Value}(h:Nw P t=some v)(w:World):(zeroValue t).run P w=.ok v w:=by
 unfold Nw at h;cases hi:P.info? t with
 |none=>rw[hi] at h;cases h
 |some i=>rw[hi] at h;simp at h;simp[zeroValue,typeInfo,hi,h]
theorem RY {t:TypeId}(ho:o.op=.alloc t){d:Nat}{K:PV->List Nat->List (Nat × Bo)->Option R}
  (hk:(Gk P t fun cs=>K (.ptr d 0) [] [(d,Ahu P t cs)])=some r):∃v fz nw,K v fz nw=some r∧D4 P a w o Y β s v fz nw:=by
 obtain⟨z,cs,hk,hz,_,hl,_,hc⟩:=Nh hk
 have Cm:(execOp a.eval o).run P w=.ok (.value (.pointer (some ⟨w.heap.size,0,none⟩))) (w.alloc (.cells z.cells t)):=by
  unfold execOp;rw[ho];simp[Instr.alloc,Tp hz,newVar,newRow]
 have hg:=F2.alloc w z.cells t;refine⟨_,_,_,hk,?_⟩;unfold Ahu;cases Rc P t
 ·refine HP Cm hg (fun j p hj=>?_) fun x hx id Bj=>?_
  ·obtain⟨hT,u,hu,_,hv⟩:=hc j p hj;exact⟨u,by simpa using hu,(Kl hT).2 (hv _ _)⟩
  ·obtain⟨j,hj⟩:=List.mem_iff_getElem?.1 hx;rw[Hb (hc j x hj).1] at Bj;cases Bj
 ·refine Ou (by simp) Cm hg (fun j p hj=>?_) (.inl ⟨rfl,rfl⟩)
  obtain⟨hT,u,hu,h1,hv⟩:=hc j p hj;exact⟨u,by simpa using hu,h1,hv _ _⟩
end
open Go.RowKit
section
variable {R:Type} {r:R} {P:Program} {N:Nat} {w0:World} {X0:Hg} {Y:Nat->Prop} {β β':Bt} {s:St} {a:Act} {w w':World} {o:Oper} {A:Nat->Prop}
theorem Oh {t:TypeId}(h:Hy P t=true):(∃d,P.underlying t=some d)∧(Hl P t).length=Bb P t∧(P.info? t).map (·.size)=some (Bb P t):=by
 simp only[Hy,Bool.and_eq_true] at h;refine⟨Option.isSome_iff_exists.1 h.1,Nat.eq_of_beq_eq_true h.2,?_⟩;unfold Bb;cases hi:P.info? t with
 |none=>unfold Program.underlying at h;rw[hi] at h;cases h.1
 |some i=>simp
theorem L7 {v:Value}(h:v.oneCell'=true):v.cells = #[v]:=by cases v<;>first|rfl|cases h
theorem XD {p:PV}{v:Value}{ts:List CT}{K:List PV->Option R}(hv:Ea w A β p v)(hl:(cellsOf p).length=ts.length) (h:Na ts (cellsOf p) 0 K=some r):
  ∃cs,K cs=some r∧cs.length=ts.length∧Be (B1 w A β) cs v.cells.toList∧(∀u∈v.cells.toList,u.oneCell'=true)∧(∀c∈cs,∀id∈Ap c,id∈Bs p)∧∀c∈cs,(∀x,c ≠ .agg x)∧(∀x,c ≠ .tup x):=by
 obtain⟨cs,h,I1,Yn,hc⟩:=Rt h;refine⟨cs,h,I1,?_⟩
 have single:(∀x,p ≠ .agg x)->cellsOf p=[p]:=by
  intro hp;cases p<;>first|rfl|exact absurd rfl (hp _)
 by_cases Fn:∃x,p=.agg x
 ·obtain⟨x,rfl⟩:=Fn;obtain⟨vs,rfl,h2⟩:=hv;have Cz:cs.length=vs.length:=by rw[I1,←hl];exact h2.len
  have key:∀(i:Nat) c u,cs[i]?=some c->vs[i]?=some u->B1 w A β c u∧u.oneCell'=true:=by
   intro i c u Oo hu;obtain⟨q,hq,_,_,hqv⟩:=hc i c Oo;rw[Nat.zero_add] at hq;exact hqv w A β u (h2.at_ hq hu)
  refine⟨Be.of_at Cz fun i c u Oo hu=>(key i c u Oo hu).1,?_,?_,Yn⟩
  ·intro u hu;obtain⟨i,hi⟩:=List.mem_iff_getElem?.1 (show u∈vs from hu)
   have B7:i<vs.length:=by
    rcases Nat.lt_or_ge i vs.length with h|h
    ·exact h
    ·rw[List.getElem?_eq_none h] at hi;cases hi
   exact (key i _ u (List.getElem?_eq_getElem (by omega)) hi).2
  ·intro c QP id Bj;obtain⟨i,hi⟩:=List.mem_iff_getElem?.1 QP;obtain⟨q,hq,_,hr,_⟩:=hc i c hi;rw[Nat.zero_add] at hq;show id∈x.flatMap Ap;exact List.mem_flatMap.2 ⟨q,List.mem_of_getElem? hq,hr id Bj⟩
 ·have hp:∀x,p ≠ .agg x:=fun x e=>Fn ⟨x,e⟩
  rw[single hp] at hl hc;have FZ:cs.length=1:=by rw[I1,←hl];rfl
  match cs,FZ with
  |[c],_=>
   obtain⟨q,hq,hf,hr,hqv⟩:=hc 0 c rfl;simp at hq;subst hq;have O8:∀x,p ≠ .tup x:=by rintro x rfl;exact hf
   have Np:B1 w A β p v:=(V4 hp).1 ((Nm O8).1 hv);obtain⟨h5,h6⟩:=hqv w A β v Np;rw[L7 h6];refine⟨⟨h5,trivial⟩,?_,?_,Yn⟩
   ·intro u hu;simp at hu;subst hu;exact h6
   ·intro c' Oo id Bj;simp at Oo;subst Oo;have:=hr id Bj;cases p<;>first|exact this|exact absurd rfl (hp _)|exact absurd rfl (O8 _)
end
open Go.RowKit
section
variable {R:Type} {r:R} {P:Program} {N:Nat} {w0:World} {X0:Hg} {Y:Nat->Prop} {β β':Bt} {s:St} {a:Act} {w w':World} {o:Oper} {A:Nat->Prop}
theorem Be.get {α β':Type}{R':α->β'->Prop}{zs:List α}{bs:List β'}(h:Be R' zs bs){i:Nat}{x:α}(hx:zs[i]?=some x):∃y,bs[i]?=some y∧R' x y:=by
 have B7:i<zs.length:=by
  rcases Nat.lt_or_ge i zs.length with h|h
  ·exact h
  ·rw[List.getElem?_eq_none h] at hx;cases hx
 have hb:bs[i]?=some (bs[i]'(by rw[←h.len];exact B7)):=List.getElem?_eq_getElem _
 exact⟨_,hb,h.at_ hx hb⟩
theorem Ak2 {p:PV}{v:Value}{ts:List CT}{K:List PV->Option R}(hv:Ea w A β p v)(hl:(cellsOf p).length=ts.length) (h:Qv ts (cellsOf p) 0 K=some r):
  ∃cs,K cs=some r∧cs.length=ts.length∧Be (Aw w A) cs v.cells.toList∧∀u∈v.cells.toList,u.oneCell'=true:=by
 obtain⟨cs,h,I1,hc⟩:=Rf h;refine⟨cs,h,I1,?_⟩;by_cases Fn:∃x,p=.agg x
 ·obtain⟨x,rfl⟩:=Fn;obtain⟨vs,rfl,h2⟩:=hv;have Cz:cs.length=vs.length:=by rw[I1,←hl];exact h2.len
  have key:∀(i:Nat) c u,cs[i]?=some c->vs[i]?=some u->Aw w A c u∧u.oneCell'=true:=by
   intro i c u Oo hu;obtain⟨_,q,hq,_,hqv⟩:=hc i c Oo;rw[Nat.zero_add] at hq;exact hqv w A β u (h2.at_ hq hu)
  refine⟨Be.of_at Cz fun i c u Oo hu=>(key i c u Oo hu).1,?_⟩
  intro u hu;obtain⟨i,hi⟩:=List.mem_iff_getElem?.1 (show u∈vs from hu)
  have B7:i<vs.length:=by
   rcases Nat.lt_or_ge i vs.length with h|h
   ·exact h
   ·rw[List.getElem?_eq_none h] at hi;cases hi
  exact (key i _ u (List.getElem?_eq_getElem (by omega)) hi).2
 ·have hp:∀x,p ≠ .agg x:=fun x e=>Fn ⟨x,e⟩
  have single:cellsOf p=[p]:=by cases p<;>first|rfl|exact absurd rfl (hp _)
  rw[single] at hl hc;have FZ:cs.length=1:=by rw[I1,←hl];rfl
  match cs,FZ with
  |[c],_=>
   obtain⟨_,q,hq,hf,hqv⟩:=hc 0 c rfl;simp at hq;subst hq;have O8:∀x,p ≠ .tup x:=by rintro x rfl;exact hf
   have Np:B1 w A β p v:=(V4 hp).1 ((Nm O8).1 hv);obtain⟨h5,h6⟩:=hqv w A β v Np;rw[L7 h6];exact⟨⟨h5,trivial⟩,fun u hu=>by simp at hu;subst hu;exact h6⟩
theorem Ab6 (h:Cr N w0 X0 Y β s a w){t:TypeId}{x:Operand}(ho:o.op=.box t x){d:Nat}{K:PV->List Nat->List (Nat × Bo)->Option R}
    (hk:(A9 (Hy P t&&Nat.beq (cellsOf (Bz s.tm x)).length (Hl P t).length)
      (bif Rc P t then Qv (Hl P t) (cellsOf (Bz s.tm x)) 0 fun cs=>K (.ptr d 0) [] [(d,.ar false cs)]
       else Na (Hl P t) (cellsOf (Bz s.tm x)) 0 fun cs=>K (.ptr d 0) [] [(d,.st cs)]))=some r):∃v fz nw,K v fz nw=some r∧D4 P a w o Y β s v fz nw:=by
  obtain⟨hl,hk⟩:=Al hk
  simp only[Bool.and_eq_true] at hl
  have hl:=Nat.eq_of_beq_eq_true hl.2
  have Cm:(execOp a.eval o).run P w=.ok (.value (.pointer (some ⟨w.heap.size,0,none⟩))) (w.alloc (.cells (a.eval x).cells t)):=by
    unfold execOp
    rw[ho]
    simp[Instr.box,newVar,newRow]
  have hg:=F2.alloc w (a.eval x).cells t
  cases ha:Rc P t
  · rw[ha] at hk
    obtain⟨cs,hk,_,h2,_,hr,_⟩:=XD (Cv h x) hl hk
    refine⟨_,_,_,hk,HP Cm hg (fun j p hj=>?_) fun c hc id Bj=>Ex h x id (hr c hc id Bj)⟩
    obtain⟨u,hu,hp⟩:=h2.get hj
    exact⟨u,by simpa using hu,hp⟩
  · rw[ha] at hk
    obtain⟨cs,hk,_,h2,h1⟩:=Ak2 (Cv h x) hl hk
    refine⟨_,_,_,hk,Ou (by simp) Cm hg (fun j p hj=>?_) (.inl ⟨rfl,rfl⟩)⟩
    obtain⟨u,hu,hp⟩:=h2.get hj
    exact⟨u,by simpa using hu,h1 u (List.mem_of_getElem? hu),hp⟩
theorem UB {c:PV}(h1:∀x,c ≠ .agg x)(h2:∀x,c ≠ .tup x):Bs c=Ap c:=by
 cases c<;>first|rfl|exact absurd rfl (h1 _)|exact absurd rfl (h2 _)
theorem Wt {t:TypeId}{ad:Addr}{cs:List PV}{p:PV}(hok:Hy P t=true)(Cz:cs.length=(Hl P t).length)
  (Yn:∀c∈cs,(∀x,c ≠ .agg x)∧(∀x,c ≠ .tup x))
  (hc:∀(j:Nat) c,cs[j]?=some c->∃v,w.cell? (ad.add j)=some v∧B1 w A β c v)
  (hp:(B2 P t=true∧p=.agg cs)∨(B2 P t=false∧cs=[p])):∃val,(loadVar t ad).run P w=.ok val w∧Ea w A β p val:=by
 obtain⟨⟨d,hd⟩,hl,hi⟩:=Oh hok;rcases hp with⟨Fn,rfl⟩|⟨Fn,rfl⟩
 ·have hf:∀j,j<Bb P t->w.cell? (ad.add j)=some ((w.cell? (ad.add j)).getD undef):=by
   intro j hj;obtain⟨v,hv,_⟩:=hc j _ (List.getElem?_eq_getElem (by omega))
   rw[hv];rfl
  refine⟨_,?_,(List.range (Bb P t)).map (fun j=>(w.cell? (ad.add j)).getD undef),rfl,?_⟩
  ·simp only[loadVar,Sem.run_bind,L8 hd,Fn,Result.andThen_ok,if_true,Jx hi,run_loadCells w ad (Bb P t) _ hf];simp
  ·refine Be.of_at (by simp;omega) fun i c u Oo hu=>?_
   obtain⟨v,hv,Ze⟩:=hc i c Oo
   have B7:i<Bb P t:=by
    rcases Nat.lt_or_ge i cs.length with h|h
    ·omega
    ·rw[List.getElem?_eq_none h] at Oo;cases Oo
   rw[List.getElem?_map,List.getElem?_range B7] at hu;simp[hv] at hu;subst hu;exact Ze
 ·obtain⟨v,hv,Ze⟩:=hc 0 p rfl;have hn:=Yn p (by simp)
  have h0:ad.add 0=ad:=by simp[Addr.add]
  rw[h0] at hv;refine⟨v,?_,(Nm hn.2).2 ((V4 hn.1).2 Ze)⟩;simp only[loadVar,Sem.run_bind,L8 hd,Fn,Result.andThen_ok];simp[hv]
theorem Adh {hp:Nat->Option Bo}{id:Nat}{c:List PV}(h:rd hp id=some c):hp id=some (.st c)∨∃f,hp id=some (.ar f c):=by
 unfold rd at h;split at h
 ·rename_i e;simp at h;subst h;exact .inl e
 ·rename_i f _ e;simp at h;subst h;exact .inr ⟨_,e⟩
 ·cases h
theorem LE {hp:Nat->Option Bo}{id:Nat}{c:List PV}(h:Ic hp id=some c):∃f,hp id=some (.ar f c):=by
 unfold Ic at h;split at h
 ·rename_i e;simp at h;subst h;exact⟨_,e⟩
 ·cases h
theorem DV (h:Cr N w0 X0 Y β s a w){id:Nat}{c:List PV}(hr:rd s.hp id=some c){b ob:Nat}(hβ:β id=some (b,ob)) {j:Nat}{p:PV}(hj:c[j]?=some p):
  ∃v,w.cell? ⟨b,ob+j,none⟩=some v∧B1 w (C7 s.hp β Y) β p v:=by
 rcases Adh hr with hb|⟨f,hb⟩
 ·obtain⟨b',o',h1,h2,_⟩:=h.box id _ hb;rw[hβ] at h1;simp at h1;obtain⟨rfl,rfl⟩:=h1;exact h2 j p hj
 ·rcases h.box id _ hb with⟨h1,_⟩|⟨b',o',h1,h2,_⟩
  ·rw[hβ] at h1;cases h1
  ·rw[hβ] at h1;simp at h1;obtain⟨rfl,rfl⟩:=h1
   obtain⟨v,hv,_,ht⟩:=h2 j p hj;rw[Eh] at hv;refine⟨v,hv,?_⟩;cases ht with
   |sc=>exact Aw.sc _
   |top=>exact Aw.top _
   |ub=>exact Aw.ub _
   |lnil=>exact Aw.lnil _ _
   |lemp=>exact Aw.lemp _ _ _
   |lst es n cells a cap f hs hb hA hn hc h1 hr=>exact Aw.lst es n cells a cap f hs hb hA hn hc h1 hr
theorem Jl:∀{ts:List CT}{cells:List PV}{off:Nat}{K:List PV->Option R},Qv ts cells off K=some r->Na ts cells off K=some r
 |[],_,_,_,h=>h
 |.int k::ts,cells,off,K,h=>by
  obtain⟨n,hp,h⟩:=Ec (show Ak k (cells.getD off .top) _=some r from h)
  show Ak k _ _=_;rw[hp];simp only[Ak,if_true];exact Jl h
 |.bool::ts,cells,off,K,h=>by
  obtain⟨n,hp,h⟩:=Do (show Ao (cells.getD off .top) _=some r from h)
  show Ao _ _=_;rw[hp];exact Jl h
 |.str::ts,cells,off,K,h=>by
  obtain⟨n,hp,h⟩:=Dk (show A0 (cells.getD off .top) _=some r from h)
  show A0 _ _=_;rw[hp];exact Jl h
 |.sl es::ts,cells,off,K,h=>by
  obtain⟨z,n,c,h,hp⟩:=E6 (show Nb es (cells.getD off .top) _=some r from h)
  change fcK (.sl es) (cells.getD off .top) (fun c=>Na ts cells (off+1) fun r=>K (c::r))=some r
  unfold fcK;dsimp only;unfold fsK;rcases hp with hp|⟨hp,rfl,rfl,rfl⟩
  ·rw[hp];simp only[Nb,Nat.beq_refl,cond_true];exact Jl h
  ·rw[hp];exact Jl h
 |.any::ts,cells,off,K,h=>by
  have hK:∀v,Qv ts cells (off+1) (fun r=>K (.sc v::r))=some r->Na ts cells (off+1) (fun r=>K (.sc v::r))=some r:=fun v h=>Jl h
  have h:ZP (cells.getD off .top) (fun v=>Qv ts cells (off+1) fun r=>K (.sc v::r))=some r:=h
  show ZP (cells.getD off .top) (fun v=>Na ts cells (off+1) fun r=>K (.sc v::r))=some r
  unfold ZP at h ⊢;split at h
  ·rename_i e;exact hK _ h
  ·exact hK _ h
  ·cases h
theorem Aw.unz {w:World}{A:Nat->Prop}{z:Bool}{es n:Nat}{c:List PV}{u:Value}(h:Aw w A (.lst z es n c) u):Aw w A (.lst false es n c) u:=by
 cases h with
 |lnil z es=>exact .lnil false es
 |lemp es a cap=>exact .lemp es a cap
 |lst es n c a cap f h1 h2 h3 h4 h5 h6 h7=>exact .lst es n c a cap f h1 h2 h3 h4 h5 h6 h7
theorem YV {w:World}{A:Nat->Prop}{β:Bt}{p:PV}{u:Value}(h:B1 w A β p u):B1 w A β (LD p) u:=by
 cases p with
 |lst z es n c=>exact Aw.unz h
 |_=>exact h
theorem VF (p:PV):Ap (LD p)=Ap p:=by cases p<;>rfl
theorem KP {w:World}{A:Nat->Prop}{β:Bt}:∀{cs:List PV}{vs:List Value},Be (B1 w A β) cs vs->Be (B1 w A β) (cs.map LD) vs
 |[],[],_=>trivial
 |_::_,_::_,h=>⟨YV h.1,KP h.2⟩
 |[],_::_,h=>h.elim
 |_::_,[],h=>h.elim
theorem YU {w:World}{A:Nat->Prop}{β:Bt}{p:PV}{u:Value}(h:Ea w A β p u):Ea w A β (UD p) u:=by
 cases p with
 |agg cs=>
  obtain⟨vs,h1,h2⟩:=(show Hc w A β (.agg cs) u from h)
  exact⟨vs,h1,KP h2⟩
 |lst z es n c=>exact Aw.unz (show Aw w A (.lst z es n c) u from h)
 |_=>exact h
theorem Aa4 (p:PV):Bs (UD p)=Bs p:=by
 cases p with
 |agg cs=>
  show (cs.map LD).flatMap Ap=cs.flatMap Ap
  induction cs with
  |nil=>rfl
  |cons a l ih=>rw[List.map_cons,List.flatMap_cons,List.flatMap_cons,ih,VF]
 |_=>rfl
theorem Aj1 {nz:Bool}{hp:Nat->Option Bo}{t:TypeId}{x:PV}{K:PV->Option R}(h:Vz nz P (rd hp) (Ic hp) t x K=some r):
  Un P (rd hp) t x K=some r∨Un P (rd hp) t x (fun v=>K (UD v))=some r:=by
 have h':Un P (rd hp) t x K=some r∨Un P (rd hp) t x (fun v=>K (bif nz then v else UD v))=some r:=by
  unfold Vz at h;unfold Un;split at h
  ·rename_i id off;obtain⟨hb,h⟩:=Al h;rw[hb];show Cy _ _=_∨Cy _ _=_;split at h
   ·rename_i c hc;obtain⟨f,Ku⟩:=LE hc;have:rd hp id=some c:=by unfold rd;rw[Ku]
    rw[this];exact .inr (Jl h)
   ·exact .inl h
  ·exact .inr h
  ·cases h
 cases nz
 ·exact h'
 ·exact .inl (h'.elim id id)
theorem KO (h:Cr N w0 X0 Y β s a w){t:TypeId}{x:PV}{u:Value}(hx:Ea w (C7 s.hp β Y) β x u) {K:PV->Option R}(hk:Un P (rd s.hp) t x K=some r):
  ∃v ad val,K v=some r∧u=.pointer (some ad)∧(loadVar t ad).run P w=.ok val w∧Ea w (C7 s.hp β Y) β v val∧∀i∈Bs v,s.hp i≠none:=by
 unfold Un at hk;split at hk
 ·rename_i id off;obtain⟨hok,hk⟩:=Al hk;obtain⟨c,hr,hk⟩:=B9 hk;obtain⟨cs,hk,hl,Yn,hc⟩:=Rt hk;obtain⟨b,ob,hβ,Db⟩:=hx
  have Cx:∀(j:Nat) q,cs[j]?=some q->∃v,w.cell? ((⟨b,ob+off,none⟩:Addr).add j)=some v∧B1 w (C7 s.hp β Y) β q v:=by
   intro j q hq;obtain⟨p,hp,_,_,Yk⟩:=hc j q hq;obtain⟨v,hv,Ze⟩:=DV h hr hβ hp;exact⟨v,by rw[Eh,Nat.add_assoc];exact hv,(Yk _ _ _ _ Ze).1⟩
  have Tj:∀q∈cs,∀i∈Ap q,s.hp i≠none:=by
   intro q hq i hi;obtain⟨j,hj⟩:=List.mem_iff_getElem?.1 hq;obtain⟨p,hp,_,hpr,_⟩:=hc j q hj;rcases Adh hr with hb|⟨f,hb⟩
   ·exact h.wfB id c hb p (List.mem_of_getElem? hp) i (hpr i hi)
   ·obtain⟨v,hv,Ze⟩:=DV h hr hβ hp;exfalso;have Cs:=hpr i hi;rcases h.box id _ hb with⟨_,rfl⟩|⟨b',o',h1,h2,_⟩
    ·simp at hp
    ·obtain⟨v',_,_,ht⟩:=h2 _ p hp;cases ht<;>cases Cs
  rcases MN hk with⟨Fn,Ef⟩|⟨Fn,q,rfl,Ef⟩
  ·obtain⟨val,Vp,hv⟩:=Wt hok hl Yn Cx (.inl ⟨Fn,rfl⟩);refine⟨_,_,val,Ef,Db,Vp,hv,fun i hi=>?_⟩
   obtain⟨q,hq,hi⟩:=List.mem_flatMap.1 (show i∈cs.flatMap Ap from hi)
   exact Tj q hq i hi
  ·obtain⟨val,Vp,hv⟩:=Wt hok hl Yn Cx (.inr ⟨Fn,rfl⟩);refine⟨_,_,val,Ef,Db,Vp,hv,fun i hi=>Tj q (by simp) i ?_⟩
   have hn:=Yn q (by simp)
   rw[UB hn.1 hn.2] at hi;exact hi
 ·rename_i c off;obtain⟨hok,hk⟩:=Al hk;obtain⟨cs,hk,hl,hc⟩:=Rf hk;obtain⟨ad,Db,hs,hb,hA,hrd⟩:=hx
  have Yn:∀q∈cs,(∀x,q ≠ .agg x)∧(∀x,q ≠ .tup x):=by
   intro q hq;obtain⟨j,hj⟩:=List.mem_iff_getElem?.1 hq;exact⟨Vg (hc j q hj).1,YA (hc j q hj).1⟩
  have Cx:∀(j:Nat) q,cs[j]?=some q->∃v,w.cell? ((ad.add off).add j)=some v∧B1 w (C7 s.hp β Y) β q v:=by
   intro j q hq;obtain⟨hT,p,hp,FY,Yk⟩:=hc j q hq;obtain⟨v,hv,_,ht⟩:=hrd (off+j) p hp;exact⟨v,by rw[add_add];exact hv,(Kl hT).2 (Yk w (C7 s.hp β Y) β v ((Kl FY).2 ht)).1⟩
  have Tj:∀q∈cs,Ap q=[]:=by
   intro q hq;obtain⟨j,hj⟩:=List.mem_iff_getElem?.1 hq;exact Hb (hc j q hj).1
  rcases MN hk with⟨Fn,Ef⟩|⟨Fn,q,rfl,Ef⟩
  ·obtain⟨val,Vp,hv⟩:=Wt hok hl Yn Cx (.inl ⟨Fn,rfl⟩);refine⟨_,_,val,Ef,Db,Vp,hv,fun i hi=>?_⟩
   obtain⟨q,hq,hi⟩:=List.mem_flatMap.1 (show i∈cs.flatMap Ap from hi)
   rw[Tj q hq] at hi;cases hi
  ·obtain⟨val,Vp,hv⟩:=Wt hok hl Yn Cx (.inr ⟨Fn,rfl⟩);refine⟨_,_,val,Ef,Db,Vp,hv,fun i hi=>?_⟩
   have hn:=Yn q (by simp)
   rw[UB hn.1 hn.2,Tj q (by simp)] at hi
   cases hi
 ·cases hk
theorem QZ (h:Cr N w0 X0 Y β s a w){t:TypeId}{x:PV}{u:Value}(hx:Ea w (C7 s.hp β Y) β x u) {nz:Bool}{K:PV->Option R}(hk:Vz nz P (rd s.hp) (Ic s.hp) t x K=some r):
  ∃v ad val,K v=some r∧u=.pointer (some ad)∧(loadVar t ad).run P w=.ok val w∧Ea w (C7 s.hp β Y) β v val∧∀i∈Bs v,s.hp i≠none:=by
 rcases Aj1 hk with hk|hk
 ·exact KO h hx hk
 ·obtain⟨v,ad,val,h1,h2,h3,h4,h5⟩:=KO h hx hk;exact⟨UD v,ad,val,h1,h2,h3,YU h4,by rw[Aa4];exact h5⟩
theorem UT (h:Cr N w0 X0 Y β s a w){t:TypeId}{x:Operand}(ho:o.op=.load t x){nz:Bool}{K:PV->Option R}(hk:Vz nz P (rd s.hp) (Ic s.hp) t (Bz s.tm x) K=some r):
  ∃v,K v=some r∧D4 P a w o Y β s v [] []:=by
 obtain⟨v,ad,val,Ds,Db,hl,hv,hr⟩:=QZ h (Cv h x) hk;refine⟨v,Ds,B3 ?_ hv hr⟩;unfold execOp;rw[ho];simp[Instr.loadAt,Instr.sureAddr,Db,hl]
theorem ZV {x:PV}{d:Nat}{K:PV->Option R}(h:Rb x d K=some r):(∃id off,x=.ptr id off∧K (.ptr id (off+d))=some r)∨∃c off,x=.iptr c off∧K (.iptr c (off+d))=some r:=by
 unfold Rb at h;split at h
 ·exact .inl ⟨_,_,rfl,h⟩
 ·exact .inr ⟨_,_,rfl,h⟩
 ·cases h
theorem Tu (h:Cr N w0 X0 Y β s a w){x:Operand}{d:Nat}{K:PV->Option R}(hk:Rb (Bz s.tm x) d K=some r)
  (Cm:∀ad:Addr,a.eval x=.pointer (some ad)->(execOp a.eval o).run P w=.ok (.value (.pointer (some (ad.add d)))) w):∃v,K v=some r∧D4 P a w o Y β s v [] []:=by
 have hx:=Cv h x;have GF:=Ex h x;rcases ZV hk with⟨id,off,e,hk⟩|⟨c,off,e,hk⟩
 ·rw[e] at hx GF;obtain⟨b,ob,hβ,Db⟩:=hx;refine⟨_,hk,B3 (Cm _ Db) ⟨b,ob,hβ,by rw[Eh,Nat.add_assoc]⟩ GF⟩
 ·rw[e] at hx;obtain⟨ad,Db,h1,h2,h3,h4⟩:=hx;exact⟨_,hk,B3 (Cm _ Db) ⟨ad,by rw[add_add],h1,h2,h3,h4⟩ (by intro i hi;cases hi)⟩
theorem CJ (h:Cr N w0 X0 Y β s a w){x:Operand}(ho:o.op=.nilCheck x){K:PV->Option R}(hk:Rb (Bz s.tm x) 0 K=some r):∃v,K v=some r∧D4 P a w o Y β s v [] []:=by
 refine Tu h hk fun ad Db=>?_
 unfold execOp;rw[ho];simp[Db,Addr.add]
theorem Vr {t:TypeId}{f:Nat}{q:Nat × TypeId}(h:Oy P t f=some q):∃fs g,P.underlying t=some (.struct fs)∧fs[f]?=some g∧q=(g.offset,g.type):=by
 unfold Oy at h;split at h
 ·rename_i fs e;cases hg:fs[f]? with
  |none=>rw[hg] at h;cases h
  |some g=>rw[hg] at h;simp at h;exact⟨fs,g,e,hg,h.symm⟩
 ·cases h
theorem AG (h:Cr N w0 X0 Y β s a w){t:TypeId}{x:Operand}{f:Nat}(ho:o.op=.fieldAddr t x f){K:PV->Option R}
  (hk:(Cy (Oy P t f) fun q=>A9 (Nat.ble 1 (Bb P q.2)) (Rb (Bz s.tm x) q.1 K))=some r):∃v,K v=some r∧D4 P a w o Y β s v [] []:=by
 obtain⟨q,hq,hk⟩:=B9 hk;obtain⟨hs,hk⟩:=Al hk;obtain⟨fs,g,hu,hg,rfl⟩:=Vr hq;have hs:1<=Bb P g.type:=Nat.le_of_ble_eq_true hs;have M3:=Afv (P:=P) (t:=g.type) rfl (by omega)
 refine Tu h hk fun ad Db=>?_
 unfold execOp;rw[ho];have Eo:¬Bb P g.type=0:=by omega
 simp[Instr.fieldAt,run_underlying hu,hg,Instr.sureAddr,Db,fieldPlace,Jx M3,Eo]
end
open Go.RowKit
section
variable {R:Type} {r:R} {P:Program} {N:Nat} {w0:World} {X0:Hg} {Y:Nat->Prop} {β β':Bt} {s:St} {a:Act} {w w':World} {o:Oper} {A:Nat->Prop}
theorem CQ (h:Cr N w0 X0 Y β s a w){t:TypeId}{cs:List PV}{vs:List Value}{off:Nat}{K:PV->Option R}{x:Operand}(hx:Bz s.tm x=.agg cs)(hv:Be (B1 w (C7 s.hp β Y) β) cs vs)
  (hk:A9 (Hy P t) (Na (Hl P t) cs off fun c=>XZ (B2 P t) c K)=some r)
  (Cm:∀val,(part t ⟨vs⟩ off).run P w=.ok val w->(execOp a.eval o).run P w=.ok (.value val) w):∃v,K v=some r∧D4 P a w o Y β s v [] []:=by
 obtain⟨hok,hk⟩:=Al hk;obtain⟨⟨d,hd⟩,hl,hi⟩:=Oh hok;obtain⟨qs,hk,hql,Yn,hq⟩:=Rt hk;have GF:=Ex h x;rw[hx] at GF
 have Cx:∀(j:Nat) q,qs[j]?=some q->∃v,vs[off+j]?=some v∧B1 w (C7 s.hp β Y) β q v:=by
  intro j q hj;obtain⟨p,hp,_,_,Yk⟩:=hq j q hj;obtain⟨v,Np,hc⟩:=hv.get hp;exact⟨v,Np,(Yk _ _ _ _ hc).1⟩
 have Tj:∀q∈qs,∀i∈Ap q,s.hp i≠none:=by
  intro q hqm i hi;obtain⟨j,hj⟩:=List.mem_iff_getElem?.1 hqm;obtain⟨p,hp,_,hpr,_⟩:=hq j q hj;exact GF i (List.mem_flatMap.2 ⟨p,List.mem_of_getElem? hp,hpr i hi⟩)
 rcases MN hk with⟨Fn,Ef⟩|⟨Fn,q,rfl,Ef⟩
 ·have Y0:Bb P t=0∨off+Bb P t<=vs.length:=by
   rcases Nat.eq_zero_or_pos (Bb P t) with h0|h0
   ·exact .inl h0
   ·obtain⟨v,Np,_⟩:=Cx (Bb P t-1) _ (List.getElem?_eq_getElem (by omega))
    have:off+(Bb P t-1)<vs.length:=by
     rcases Nat.lt_or_ge (off+(Bb P t-1)) vs.length with h|h
     ·exact h
     ·rw[List.getElem?_eq_none h] at Np;cases Np
    exact .inr (by omega)
  refine⟨_,Ef,B3 (Cm (.agg ⟨(vs.drop off).take (Bb P t)⟩) ?_) ⟨(vs.drop off).take (Bb P t),rfl,?_⟩ fun i hi=>?_⟩
  ·simp only[part,Sem.run_bind,L8 hd,Fn,Result.andThen_ok,if_true,Jx hi];simp[List.extract_eq_take_drop]
  ·refine Be.of_at ?_ fun i c u hc hu=>?_
   ·simp only[List.length_take,List.length_drop];omega
   ·obtain⟨v,Np,Ze⟩:=Cx i c hc
    have B7:i<Bb P t:=by
     rcases Nat.lt_or_ge i qs.length with h|h
     ·omega
     ·rw[List.getElem?_eq_none h] at hc;cases hc
    rw[List.getElem?_take_of_lt B7,List.getElem?_drop,Np] at hu;cases hu;exact Ze
  ·obtain⟨q,hqm,hi⟩:=List.mem_flatMap.1 (show i∈qs.flatMap Ap from hi)
   exact Tj q hqm i hi
 ·obtain⟨v,Np,Ze⟩:=Cx 0 q rfl;have hn:=Yn q (by simp)
  refine⟨_,Ef,B3 (Cm v ?_) ((Nm hn.2).2 ((V4 hn.1).2 Ze)) fun i hi=>?_⟩
  ·simp only[part,Sem.run_bind,L8 hd,Fn,Result.andThen_ok];rw[Nat.add_zero] at Np;simp[Np]
  ·rw[UB hn.1 hn.2] at hi;exact Tj q (by simp) i hi
theorem SA (h:Cr N w0 X0 Y β s a w){t:TypeId}{x:Operand}{f:Nat}(ho:o.op=.field t x f){K:PV->Option R}
  (hk:(Cy (Oy P t f) fun q=>A9 (Hy P q.2)<|Fw (Bz s.tm x) fun cs=>Na (Hl P q.2) cs q.1 fun c=>XZ (B2 P q.2) c K)=some r):∃v,K v=some r∧D4 P a w o Y β s v [] []:=by
 obtain⟨q,hq,hk⟩:=B9 hk;obtain⟨hok,hk⟩:=Al hk;obtain⟨cs,hx,hk⟩:=Gu hk;obtain⟨fs,g,hu,hg,rfl⟩:=Vr hq;have hxv:=Cv h x;rw[hx] at hxv;obtain⟨vs,Db,hv⟩:=hxv;refine CQ (t:=g.type) (off:=g.offset) h hx hv (by rw[show Hy P g.type=true from hok];exact hk) fun val hp=>?_
 unfold execOp;rw[ho];simp[Instr.field,run_underlying hu,hg,asAgg,Db,hp]
theorem HB (h:Cr N w0 X0 Y β s a w){x:Operand}{i:Nat}(ho:o.op=.extract x i){K:PV->Option R}
  (hk:(match Bz s.tm x with | .tup vs=>Cy vs[i]? K|_=>none)=some r):∃v,K v=some r∧D4 P a w o Y β s v [] []:=by
 have hx:=Cv h x;have GF:=Ex h x;split at hk
 ·rename_i ps e;rw[e] at hx GF;obtain⟨p,hp,hk⟩:=B9 hk;obtain⟨vs,Db,hv⟩:=hx;obtain⟨v,Np,Yk⟩:=hv.get hp
  have Am2:∀y,p ≠ .tup y:=by
   rintro y rfl
   have Ay0:Aw _ _ (.tup y) v:=Yk;cases Ay0
  refine⟨p,hk,B3 (val:=v) ?_ ((Nm Am2).2 Yk) fun id Bj=>GF id ?_⟩
  ·unfold execOp;rw[ho];simp[Instr.extract,Db,Np]
  ·refine List.mem_flatMap.2 ⟨p,List.mem_of_getElem? hp,?_⟩;cases p<;>first|exact Bj|exact absurd rfl (Am2 _)
 ·cases hk
theorem F7 {es:Nat}{p:PV}{z:Bool}{n:Nat}{c:List PV}{v:Value}(hp:p=.lst z es n c∨(p=.sc (.slice none 0 0)∧z=true∧n=0∧c=[])) (hv:Ea w A β p v):
  (v=.slice none 0 0∧n=0∧c=[])∨(∃ad cap,v=.slice (some ad) n cap∧z=false∧n<=cap∧ad.spot=none∧ad.block<w.heap.size∧¬A ad.block∧SL w A ad c)∨∃ad cap,v=.slice (some ad) 0 cap∧z=false∧n=0∧c=[]:=by
 have Np:B1 w A β p v:=by rcases hp with rfl|⟨rfl,_⟩<;>exact hv
 have ht:=Ut hp Np;cases ht with
 |lnil=>exact .inl ⟨rfl,rfl,rfl⟩
 |lst _ _ _ ad cap f hs hb hA hn hc h1 hr=>exact .inr (.inl ⟨ad,cap,rfl,rfl,hn,hs,hb,hA,fun j q hj=>⟨f j,hc j q hj,h1 j q hj,hr j q hj⟩⟩)
 |lemp _ ad cap=>exact .inr (.inr ⟨ad,cap,rfl,rfl,rfl,rfl⟩)
theorem Zt (h:Cr N w0 X0 Y β s a w){t:TypeId}{x i:Operand}(ho:o.op=.indexAddr t x i){K:PV->Option R}
  (hk:(Dn (Bz s.tm i) fun _ n=>Jq P t (Bz s.tm x) n K)=some r):∃v,K v=some r∧D4 P a w o Y β s v [] []:=by
 obtain⟨ik,n,hi,hk⟩:=Di hk;have hai:=B6 h hi;have hx:=Cv h x;have GF:=Ex h x;unfold Jq at hk;split at hk
 ·rename_i len e hu;obtain⟨hz,hk⟩:=Al hk;obtain⟨hb,hk⟩:=Al hk;simp only[Bool.and_eq_true,decide_eq_true_eq] at hb;obtain⟨inf,N3⟩:=Option.isSome_iff_exists.1 hz;refine Tu h hk fun ad Db=>?_
  unfold execOp;rw[ho];simp[Instr.indexAt,asIntOf,hai,Db,run_underlying hu,Instr.sureAddr,hb.1,hb.2,sizeOf,typeInfo,N3,Bb]
 ·rename_i e hu;obtain⟨hz,hk⟩:=Al hk;obtain⟨inf,N3⟩:=Option.isSome_iff_exists.1 hz;have M3:Bb P e=inf.size:=by simp[Bb,N3]
  split at hk
  ·rename_i id es off n' e';rw[e'] at hx GF;obtain⟨S0,hk⟩:=Al hk;have S0:=Nat.eq_of_beq_eq_true S0;subst S0;obtain⟨hb,hk⟩:=Al hk;simp only[Bool.and_eq_true,decide_eq_true_eq] at hb;rcases hx with⟨_,_,rfl,_⟩|⟨b,ob,y,cap,hβ,Db,hy,_⟩
   ·omega
   ·have hy:y=ob+off:=by rcases hy with hy|⟨rfl,_⟩<;>omega
    subst hy;refine⟨_,hk,B3 (val:=.pointer (some ⟨b,ob+(off+n.toNat*Bb P e),none⟩)) ?_ ⟨b,ob,hβ,rfl⟩ GF⟩;unfold execOp;rw[ho];simp[Instr.indexAt,asIntOf,hai,Db,run_underlying hu,hb.1,hb.2,sizeOf,typeInfo,N3,M3,Eh,Nat.add_assoc]
  ·obtain⟨z,n',c,hk,hp⟩:=E6 hk;obtain⟨hb,hk⟩:=Al hk;simp only[Bool.and_eq_true,decide_eq_true_eq] at hb;rcases F7 hp hx with⟨_,rfl,_⟩|⟨ad,cap,Db,_,_,h1,h2,h3,h4⟩|⟨_,_,_,_,rfl,_⟩
   ·omega
   rotate_left
   ·omega
   ·refine⟨_,hk,B3 (val:=.pointer (some (ad.add (n.toNat*Bb P e)))) ?_ ⟨ad,rfl,h1,h2,h3,h4⟩ (by intro i hi;cases hi)⟩
    unfold execOp;rw[ho];simp[Instr.indexAt,asIntOf,hai,Db,run_underlying hu,hb.1,hb.2,sizeOf,typeInfo,N3,M3]
 ·cases hk
theorem PS (h:Cr N w0 X0 Y β s a w){t:TypeId}{x i:Operand}(ho:o.op=.index t x i){K:PV->Option R}
  (hk:(Dn (Bz s.tm i) fun _ n=>
   match P.underlying t with
   |some .string=>A0 (Bz s.tm x) fun s=>A9 (decide (0<=n)) (Cy (s.data.toList[n.toNat]?) fun b=>K (.sc (.int .u8 b.toNat)))
   |some (.array len e)=>Fw (Bz s.tm x) fun cs=>A9 (decide (0<=n)&&decide (n<len)&&Hy P e) (Na (Hl P e) cs (n.toNat*Bb P e) fun c=>XZ (B2 P e) c K)
   |_=>none)=some r):∃v,K v=some r∧D4 P a w o Y β s v [] []:=by
 obtain⟨ik,n,hi,hk⟩:=Di hk;have hai:=B6 h hi;split at hk
 ·rename_i hu;obtain⟨sb,hx,hk⟩:=Dk hk;have Db:=B6 h hx;obtain⟨h0,hk⟩:=Al hk;obtain⟨b,hb,hk⟩:=B9 hk;have h0:=of_decide_eq_true h0;refine⟨_,hk,Cg ?_⟩
  have B7:n.toNat<sb.size:=by
   rcases Nat.lt_or_ge n.toNat sb.data.toList.length with h|h
   ·simpa using h
   ·rw[List.getElem?_eq_none h] at hb;cases hb
  have Hf:sb[n.toNat]=b:=by
   have:sb.data.toList[n.toNat]?=some sb[n.toNat]:=by
    rw[List.getElem?_eq_getElem (by simpa using B7)]
    rfl
   rw[hb] at this;injection this with this;exact this.symm
  unfold execOp;rw[ho];simp[Instr.index,asIntOf,hai,Db,run_underlying hu,h0,B7,Hf]
 ·rename_i len e hu;obtain⟨cs,hx,hk⟩:=Gu hk;obtain⟨hb,hk⟩:=Al hk;simp only[Bool.and_eq_true,decide_eq_true_eq] at hb;have hxv:=Cv h x;rw[hx] at hxv;obtain⟨vs,Db,hv⟩:=hxv;obtain⟨_,_,M3⟩:=Oh hb.2;refine CQ (t:=e) (off:=n.toNat*Bb P e) h hx hv (by rw[hb.2];exact hk) fun val hp=>?_
  unfold execOp;rw[ho];simp[Instr.index,asIntOf,hai,Db,run_underlying hu,hb.1.1,hb.1.2,Jx M3,hp]
 ·cases hk
end
open Go.RowKit
section
variable {R:Type} {r:R} {P:Program} {N:Nat} {w0:World} {X0:Hg} {Y:Nat->Prop} {β β':Bt} {s:St} {a:Act} {w w':World} {o:Oper} {A:Nat->Prop}
theorem Du (h:Cr N w0 X0 Y β s a w){x:Option Operand}{dflt:Nat}{K:Nat->Option R}(hk:Gg (x.map (Bz s.tm)) dflt K=some r):
  ∃l,K l=some r∧((x=none∧l=dflt)∨∃y k,x=some y∧a.eval y=.int k (l:Int)):=by
 cases x with
 |none=>exact⟨dflt,hk,.inl ⟨rfl,rfl⟩⟩
 |some y=>
  obtain⟨k,i,hi,hk⟩:=Di (show Dn (Bz s.tm y) _=some r from hk)
  obtain⟨h0,hk⟩:=Al hk;have h0:=of_decide_eq_true h0;exact⟨i.toNat,hk,.inr ⟨y,k,rfl,by rw[B6 h hi,Int.toNat_of_nonneg h0]⟩⟩
theorem Hv {lo hi:Option Operand}{isS:Bool}{len cap l u:Nat}(hl:(lo=none∧l=0)∨∃y k,lo=some y∧a.eval y=.int k (l:Int))
  (hu:(hi=none∧u=len)∨∃y k,hi=some y∧a.eval y=.int k (u:Int)) (h1:l<=u)(h2:u<=cap):
  (Instr.sliceBounds isS len cap (lo.map a.eval) (hi.map a.eval) none).run P w=.ok (l,u,cap) w:=by
 rcases hl with⟨rfl,rfl⟩|⟨y,k,rfl,hy⟩<;>rcases hu with⟨rfl,rfl⟩|⟨y',k',rfl,hy'⟩
 ·simp[Instr.sliceBounds]
 ·simp[Instr.sliceBounds,Instr.sliceBound,asIntOf,hy',h2]
 ·simp[Instr.sliceBounds,Instr.sliceBound,asIntOf,hy,h1]
 ·simp[Instr.sliceBounds,Instr.sliceBound,asIntOf,hy,hy',h1,h2]
theorem Cp {e:TypeId}(h:(P.info? e).isSome=true) (w:World):(sizeOf e).run P w=.ok (Bb P e) w:=by
 obtain⟨i,hi⟩:=Option.isSome_iff_exists.1 h;exact Jx (by simp[Bb,hi]) w
theorem BI {b j:Nat}{v:Value}(h:w.cell? ⟨b,j,none⟩=some v):j<bsz w b:=by
 unfold World.cell? at h;unfold bsz;split at h
 ·rename_i c e fz hb;simp only at hb;rw[hb];simp only[Option.isSome_none,Bool.false_eq_true,if_false] at h;rcases Nat.lt_or_ge j c.size with B7|hge
  ·exact B7
  ·rw[Array.getElem?_eq_none hge] at h;cases h
 ·cases h
theorem QR (h:Cr N w0 X0 Y β s a w){t:TypeId}{x:Operand}{lo hi:Option Operand}(ho:o.op=.slice t x lo hi none){K:PV->Option R}
  (hk:Xm P (rd s.hp) t (Bz s.tm x) (lo.map (Bz s.tm)) (hi.map (Bz s.tm)) K=some r):∃v,K v=some r∧D4 P a w o Y β s v [] []:=by
 have hx:=Cv h x;have GF:=Ex h x;unfold Xm at hk;split at hk
 ·rename_i hu;obtain⟨sb,GD,hk⟩:=Dk hk;have Db:=B6 h GD;obtain⟨l,hk,hl⟩:=Du h hk;obtain⟨u,hk,H9⟩:=Du h hk;obtain⟨hb,hk⟩:=Al hk;simp only[Bool.and_eq_true,decide_eq_true_eq] at hb;refine⟨_,hk,Cg ?_⟩;unfold execOp;rw[ho];simp[Instr.sliceAt,Instr.slice,run_underlying hu,Db,Hv hl H9 hb.1 hb.2]
 ·rename_i e hu;obtain⟨N3,hk⟩:=Al hk;split at hk
  ·rename_i id es off n e';rw[e'] at hx GF;obtain⟨S0,hk⟩:=Al hk;have S0:=Nat.eq_of_beq_eq_true S0;subst S0;obtain⟨l,hk,hl⟩:=Du h hk;obtain⟨u,hk,H9⟩:=Du h hk;obtain⟨hb,hk⟩:=Al hk;simp only[Bool.and_eq_true,decide_eq_true_eq] at hb;rcases hx with⟨hβ,rfl,rfl,ad,Db⟩|⟨b,ob,y,cap,hβ,Db,hy,hn,T8,B7⟩
   ·have hu0:u=0:=by omega
    have hl0:l=0:=by omega
    subst hu0 hl0;refine⟨_,hk,B3 (val:=.slice ad 0 0) ?_ (.inl ⟨hβ,by simp,rfl,ad,rfl⟩) GF⟩
    unfold execOp;rw[ho];cases ad<;>simp[Instr.sliceAt,Instr.slice,run_underlying hu,Db,Hv hl H9 (Nat.le_refl 0) (Nat.le_refl 0),Cp N3]
   ·have Cm:(execOp a.eval o).run P w=.ok (.value (.slice (some (if cap=l then ⟨b,y,none⟩ else ⟨b,y+l*Bb P e,none⟩)) (u-l) (cap-l))) w:=by
     unfold execOp;rw[ho];have NH:=Hv (P:=P) (w:=w) (isS:=true) hl H9 hb.1 (Nat.le_trans hb.2 hn);simp[Instr.sliceAt,Instr.slice,run_underlying hu,Db,NH,Cp N3,Eh];split<;>rfl
    refine⟨_,hk,B3 Cm (.inr ?_) GF⟩;by_cases hc:cap=l
    ·rw[if_pos hc];refine⟨b,ob,y,cap-l,hβ,rfl,?_,by omega,⟨by rw[hc,Nat.sub_self];have:=T8.1;omega,T8.2⟩,B7⟩
     by_cases h0:l*Bb P e=0
     ·rw[h0,Nat.add_zero];rcases hy with hy|⟨Wz,N0⟩
      ·exact .inl hy
      ·exact .inr ⟨by omega,N0⟩
     ·exact .inr ⟨by omega,by omega⟩
    ·rw[if_neg hc];refine⟨b,ob,y+l*Bb P e,cap-l,hβ,rfl,?_,by omega,?_,B7⟩
     ·rcases hy with hy|⟨Wz,N0⟩
      ·exact .inl (by omega)
      ·exact .inr ⟨by omega,by omega⟩
     ·have:l*Bb P e+(cap-l)*Bb P e=cap*Bb P e:=by
       rw[←Nat.add_mul]
       congr 1
       omega
      have:=T8.1;exact⟨by omega,T8.2⟩
  ·obtain⟨z,n,c,hk,hp⟩:=E6 hk;obtain⟨l,hk,hl⟩:=Du h hk;obtain⟨u,hk,H9⟩:=Du h hk;obtain⟨hb,hk⟩:=Al hk;simp only[Bool.and_eq_true,decide_eq_true_eq] at hb;rcases F7 hp hx with⟨Db,rfl,rfl⟩|⟨ad,cap,Db,rfl,hn,h1,h2,h3,h4⟩|⟨ad,cap,Db,rfl,rfl,rfl⟩
   rotate_right
   ·have hu0:u=0:=by omega
    have hl0:l=0:=by omega
    subst hu0 hl0;refine⟨_,hk,B3 (val:=.slice (some (if cap=0 then ad else ad.add (0*Bb P e))) (0-0) (cap-0)) ?_ ?_ (by intro i hi;cases hi)⟩
    ·unfold execOp;rw[ho];have NH:=Hv (P:=P) (w:=w) (isS:=true) hl H9 (Nat.le_refl 0) (Nat.zero_le cap);simp[Instr.sliceAt,Instr.slice,run_underlying hu,Db,NH,Cp N3];split<;>rfl
    ·have:((([]:List PV).drop (0*Bb P e)).take ((0-0)*Bb P e))=[]:=by simp
     rw[this];exact Aw.lemp _ _ _
   ·have hu0:u=0:=by omega
    have hl0:l=0:=by omega
    subst hu0 hl0;refine⟨_,hk,B3 (val:=.slice none 0 0) ?_ ?_ (by intro i hi;cases hi)⟩
    ·unfold execOp;rw[ho];simp[Instr.sliceAt,Instr.slice,run_underlying hu,Db,Hv hl H9 (Nat.le_refl 0) (Nat.le_refl 0),Cp N3]
    ·have:((([]:List PV).drop (0*Bb P e)).take ((0-0)*Bb P e))=[]:=by simp
     rw[this];exact Aw.lnil z _
   ·have Cm:(execOp a.eval o).run P w=.ok (.value (.slice (some (if cap=l then ad else ad.add (l*Bb P e))) (u-l) (cap-l))) w:=by
     unfold execOp;rw[ho];have NH:=Hv (P:=P) (w:=w) (isS:=true) hl H9 hb.1 (Nat.le_trans hb.2 hn);simp[Instr.sliceAt,Instr.slice,run_underlying hu,Db,NH,Cp N3];split<;>rfl
    refine⟨_,hk,B3 Cm ?_ (by intro i hi;cases hi)⟩
    by_cases hc:cap=l
    ·rw[if_pos hc];have:u-l=0:=by omega
     rw[this];simp only[Nat.zero_mul,List.take_zero];exact Aw.lst _ _ [] ad _ (fun _=>undef) h1 h2 h3 (by omega) (by simp) (by simp) (by simp)
    ·rw[if_neg hc]
     have Cx:∀(j:Nat) q,((c.drop (l*Bb P e)).take ((u-l)*Bb P e))[j]?=some q->c[l*Bb P e+j]?=some q:=by
      intro j q hq;rw[List.getElem?_take] at hq;split at hq
      ·rw[List.getElem?_drop] at hq;exact hq
      ·cases hq
     refine Aw.lst _ _ _ (ad.add (l*Bb P e)) _ (fun j=>(w.cell? (ad.add (l*Bb P e+j))).getD undef) (Acu h1 _) (by rw[Em];exact h2) (by rw[Em];exact h3) (by omega) (fun j q hq=>?_) (fun j q hq=>?_) (fun j q hq=>?_)
     ·obtain⟨v,hv,_⟩:=h4 _ q (Cx j q hq);rw[add_add,hv];rfl
     ·obtain⟨v,hv,h5,_⟩:=h4 _ q (Cx j q hq);rw[hv];exact h5
     ·obtain⟨v,hv,_,ht⟩:=h4 _ q (Cx j q hq);rw[hv];exact ht
 ·rename_i n e hu;obtain⟨N3,hk⟩:=Al hk;split at hk
  ·rename_i id off e';rw[e'] at hx GF;obtain⟨c,hrc,hk⟩:=B9 hk;obtain⟨Cz,hk⟩:=Al hk;simp only[Bool.and_eq_true,decide_eq_true_eq] at Cz;have S0:=Nat.eq_of_beq_eq_true Cz.2
   replace Cz:=Cz.1
   obtain⟨l,hk,hl⟩:=Du h hk;obtain⟨u,hk,H9⟩:=Du h hk;obtain⟨hb,hk⟩:=Al hk;simp only[Bool.and_eq_true,decide_eq_true_eq] at hb;obtain⟨b,ob,hβ,Db⟩:=hx
   have GI:ob+off+n*Bb P e<=bsz w b:=by
    obtain⟨v,hv,_⟩:=DV h hrc hβ (j:=off+n*Bb P e-1) (List.getElem?_eq_getElem (by omega))
    have:=BI hv;omega
   have B7:b<w.heap.size:=h.blt id b ob (GF id (by simp[Bs,Ca,Ap])) hβ
   have Cm:(execOp a.eval o).run P w=.ok (.value (.slice (some (if n=l then ⟨b,ob+off,none⟩ else ⟨b,ob+off+l*Bb P e,none⟩)) (u-l) (n-l))) w:=by
    unfold execOp;rw[ho];have NH:=Hv (P:=P) (w:=w) (isS:=false) hl H9 hb.1 hb.2;simp[Instr.sliceAt,Instr.sureAddr,run_underlying hu,Db,NH,Cp N3,Eh]
   refine⟨_,hk,B3 Cm (.inr ?_) GF⟩;by_cases hc:n=l
   ·rw[if_pos hc];refine⟨b,ob,ob+off,n-l,hβ,rfl,?_,by omega,⟨by rw[hc,Nat.sub_self];omega,.inl S0⟩,B7⟩
    by_cases h0:l*Bb P e=0
    ·rw[h0,Nat.add_zero];exact .inl rfl
    ·exact .inr ⟨by omega,by omega⟩
   ·rw[if_neg hc];refine⟨b,ob,ob+off+l*Bb P e,n-l,hβ,rfl,.inl (by omega),by omega,?_,B7⟩
    have:l*Bb P e+(n-l)*Bb P e=n*Bb P e:=by
     rw[←Nat.add_mul]
     congr 1
     omega
    exact⟨by omega,.inl S0⟩
  ·cases hk
 ·cases hk
end
open Go.RowKit
section
variable {R:Type} {r:R} {P:Program} {N:Nat} {w0:World} {X0:Hg} {Y:Nat->Prop} {β β':Bt} {s:St} {a:Act} {w w':World} {o:Oper} {A:Nat->Prop}
theorem Abi (h:Cr N w0 X0 Y β s a w){c:Call}(ho:o.op=.call c)(hc:c.callee=.builtin .len){K:PV->Option R}
  (hk:(Ab c.args.toList fun x _=>Ab c.argTypes.toList fun t _=>YM P t (Bz s.tm x) fun n=>K (.sc (.int .i64 n)))=some r):∃v,K v=some r∧D4 P a w o Y β s v [] []:=by
 obtain⟨x,xs,GD,hk⟩:=A8 hk;obtain⟨t,ts,NN,hk⟩:=A8 hk;have hx:=Cv h x;have Ey:c.args=(x::xs).toArray:=by rw[←GD]
 have Z1:c.argTypes=(t::ts).toArray:=by rw[←NN]
 have Cm:∀n:Nat,(Builtin.len_ c.argTypes o.type (c.args.map a.eval)).run P w=.ok (.int .i64 n) w->(execOp a.eval o).run P w=.ok (.value (.int .i64 n)) w:=by
  intro n hl;unfold execOp;rw[ho];simp only[resolve,hc,invoke,builtin,Sem.run_bind,Sem.run_pure,Result.andThen_ok,hl]
 unfold YM at hk;split at hk
 ·rename_i hu;obtain⟨sb,Azl,hk⟩:=Dk hk;have Db:=B6 h Azl;refine⟨_,hk,Cg (Cm _ ?_)⟩;simp[Builtin.len_,Ey,Z1,run_underlying hu,Db,goInt]
 ·rename_i n e hu;refine⟨_,hk,Cg (Cm _ ?_)⟩;simp[Builtin.len_,Ey,Z1,run_underlying hu,goInt]
 ·rename_i e hu;split at hk
  ·rename_i id es off n e';rw[e'] at hx;obtain⟨_,hk⟩:=Al hk;refine⟨_,hk,Cg (Cm _ ?_)⟩;rcases hx with⟨_,_,rfl,ad,Db⟩|⟨b,ob,y,cap,_,Db,_⟩<;>simp[Builtin.len_,Ey,Z1,run_underlying hu,Db,goInt]
  ·obtain⟨z,n,cc,hk,hp⟩:=E6 hk;refine⟨_,hk,Cg (Cm _ ?_)⟩;rcases F7 hp hx with⟨Db,rfl,_⟩|⟨ad,cap,Db,_⟩|⟨ad,cap,Db,_,rfl,_⟩<;>simp[Builtin.len_,Ey,Z1,run_underlying hu,Db,goInt]
 ·cases hk
theorem Abd (h:Cr N w0 X0 Y β s a w){c:Call}(ho:o.op=.call c)(hc:c.callee=.builtin .cap){K:PV->Option R}
  (hk:(Ab c.args.toList fun x _=>Ab c.argTypes.toList fun t _=>Aag P t (Bz s.tm x) fun n=>K (.sc (.int .i64 n)))=some r):∃v,K v=some r∧D4 P a w o Y β s v [] []:=by
 obtain⟨x,xs,GD,hk⟩:=A8 hk;obtain⟨t,ts,NN,hk⟩:=A8 hk;have hx:=Cv h x;have Ey:c.args=(x::xs).toArray:=by rw[←GD]
 have Z1:c.argTypes=(t::ts).toArray:=by rw[←NN]
 have Cm:∀n:Nat,(Builtin.cap_ c.argTypes o.type (c.args.map a.eval)).run P w=.ok (.int .i64 n) w->(execOp a.eval o).run P w=.ok (.value (.int .i64 n)) w:=by
  intro n hl;unfold execOp;rw[ho];simp only[resolve,hc,invoke,builtin,Sem.run_bind,Sem.run_pure,Result.andThen_ok,hl]
 unfold Aag at hk;split at hk
 ·rename_i e hu;obtain⟨z,n,cc,hk,hp⟩:=E6 hk;obtain⟨hz,hk⟩:=Al hk;refine⟨_,hk,Cg (Cm _ ?_)⟩;rcases F7 hp hx with⟨Db,rfl,_⟩|⟨ad,cap,Db,CH,_⟩|⟨ad,cap,Db,CH,_,_⟩
  ·simp[Builtin.cap_,Ey,Z1,run_underlying hu,Db,goInt]
  ·rw[hz] at CH;cases CH
  ·rw[hz] at CH;cases CH
 ·cases hk
theorem Aat (h:Cr N w0 X0 Y β s a w){c:Call}(ho:o.op=.call c)(hc:c.callee=.builtin .min){K:PV->Option R}
  (hk:(Ab c.args.toList fun x r=>Ab r fun y r'=>Ad r' (Alc (Bz s.tm x) (Bz s.tm y) K))=some r):∃v,K v=some r∧D4 P a w o Y β s v [] []:=by
 obtain⟨x,xs,GD,hk⟩:=A8 hk;obtain⟨y,ys,rfl,hk⟩:=A8 hk;obtain⟨rfl,hk⟩:=Dj hk;obtain⟨k,n,hx,hk⟩:=Di hk;obtain⟨m,hy,hk⟩:=Ec hk
 have Ey:c.args = #[x,y]:=by
  have:c.args=([x,y]:List Operand).toArray:=by rw[←GD]
  exact this
 refine⟨_,hk,Cg ?_⟩;unfold execOp;rw[ho];simp[resolve,hc,invoke,builtin,Ey,Builtin.min_,Builtin.min2,B6 h hx,B6 h hy]
theorem Abs (h:Cr N w0 X0 Y β s a w){c:Call}(ho:o.op=.call c)(hc:c.callee=.builtin .max){K:PV->Option R}
  (hk:(Ab c.args.toList fun x r=>Ab r fun y r'=>Ad r' (Aiv (Bz s.tm x) (Bz s.tm y) K))=some r):∃v,K v=some r∧D4 P a w o Y β s v [] []:=by
 obtain⟨x,xs,GD,hk⟩:=A8 hk;obtain⟨y,ys,rfl,hk⟩:=A8 hk;obtain⟨rfl,hk⟩:=Dj hk;obtain⟨k,n,hx,hk⟩:=Di hk;obtain⟨m,hy,hk⟩:=Ec hk
 have Ey:c.args = #[x,y]:=by
  have:c.args=([x,y]:List Operand).toArray:=by rw[←GD]
  exact this
 refine⟨_,hk,Cg ?_⟩;unfold execOp;rw[ho];simp[resolve,hc,invoke,builtin,Ey,Builtin.max_,Builtin.max2,B6 h hx,B6 h hy]
theorem VG (h:Cr N w0 X0 Y β s a w){op:UnOp}{t:TypeId}{x:Operand}(ho:o.op=.unOp op t x){K:PV->Option R}(hk:unK op (Bz s.tm x) K=some r):
  ∃v,K v=some r∧D4 P a w o Y β s v [] []:=by
 unfold unK at hk;split at hk
 ·obtain⟨b,hb,hk⟩:=Do hk;refine⟨_,hk,Cg ?_⟩;unfold execOp;rw[ho];simp[Op.unary,B6 h hb]
 ·obtain⟨k,n,hb,hk⟩:=Di hk;refine⟨_,hk,Cg ?_⟩;unfold execOp;rw[ho];simp[Op.unary,Op.intArith,B6 h hb]
 ·obtain⟨k,n,hb,hk⟩:=Di hk;refine⟨_,hk,Cg ?_⟩;unfold execOp;rw[ho];simp[Op.unary,Op.intBits,B6 h hb,Avp]
 ·cases hk
theorem ZF {op:BinOp}{k:IntKind}{m n:Int}{t:TypeId}{x y:Operand}{K:PV->Option R}(hs1:op ≠ .shl)(Tg:op ≠ .shr)(hk:DS op k m n K=some r):
  ∃v,K (.sc v)=some r∧(do eqGuard op t x y (.int k m) (.int k n);binOp op t (.int k m) (.int k n)).run P w=.ok v w:=by
 cases op<;>first
  |exact absurd rfl hs1
  |exact absurd rfl Tg
  |(obtain⟨hb,hk⟩:=Al hk;have hb:=of_decide_eq_true hb;exact⟨_,hk,by simp[eqGuard,binOp,Op.intDiv,hb]⟩)
  |exact⟨_,hk,by simp[eqGuard,binOp,-BitVec.toNat_and,-BitVec.toNat_or,-BitVec.toNat_xor,-gt_iff_lt,-ge_iff_le]<;>rfl⟩
theorem Abg {op:BinOp}{m n:ByteArray}{t:TypeId}{x y:Operand}{K:PV->Option R}(hk:CM op m n K=some r):
  ∃v,K (.sc v)=some r∧(do eqGuard op t x y (.string m) (.string n);binOp op t (.string m) (.string n)).run P w=.ok v w:=by
 cases op<;>first
  |cases hk
  |(obtain⟨hb,hk⟩:=Al hk;have hb:=of_decide_eq_true hb;exact⟨_,hk,by
    have Hf:¬(((m.size+n.size:Nat):Int)>IntKind.i64.max):=by
     have:IntKind.i64.max=9223372036854775807:=rfl;rw[this];omega
    simp only[eqGuard,binOp,Op.stringOp,if_neg Hf];rfl⟩)
  |exact⟨_,hk,by simp only[eqGuard,binOp,Op.stringOp,ByteArray.toList_eq];rfl⟩
end
open Go.RowKit
section
variable {R:Type} {r:R} {P:Program} {N:Nat} {w0:World} {X0:Hg} {Y:Nat->Prop} {β β':Bt} {s:St} {a:Act} {w w':World} {o:Oper} {A:Nat->Prop}
theorem CY {t:TypeId}(hu:P.underlying t=some .bool)(x y:Bool):(Op.equal t (.bool x) (.bool y)).run P w=.ok (x==y) w:=by
 have h:∀d,(Op.equalIn (d+1) t (.bool x) (.bool y)).run P w=.ok (x==y) w:=fun d=>by simp[Op.equalIn,run_underlying hu]
 exact h 9999
theorem Se {t e:TypeId}(hu:P.underlying t=some (.slice e)) (x:Option Addr)(n c:Nat):(Op.equal t (.slice x n c) (.slice none 0 0)).run P w=.ok x.isNone w:=by
 have h:∀d,(Op.equalIn (d+1) t (.slice x n c) (.slice none 0 0)).run P w=.ok x.isNone w:=fun d=>by
  cases x<;>simp[Op.equalIn,run_underlying hu]
 exact h 9999
theorem Va {t k e:TypeId}(hu:P.underlying t=some (.map k e)):(Op.equal t (.map none) (.map none)).run P w=.ok true w:=by
 have h:∀d,(Op.equalIn (d+1) t (.map none) (.map none)).run P w=.ok true w:=fun d=>by
  simp[Op.equalIn,run_underlying hu]
 exact h 9999
theorem Hw {t:TypeId}(d:Nat){v u:Value}(hv:(∃k m n,P.underlying t=some (.int k)∧v=.int k m∧u=.int k n)∨(∃m n,P.underlying t=some .bool∧v=.bool m∧u=.bool n)∨∃m n,P.underlying t=some .string∧v=.string m∧u=.string n) {b:Bool}
  (hb:∀k m n,v=.int k m->u=.int k n->b=(m==n)) (Hf:∀m n,v=.bool m->u=.bool n->b=(m==n)) (A5m:∀m n,v=.string m->u=.string n->b=(m==n)):(Op.equalIn (d+1) t v u).run P w=.ok b w:=by
 rcases hv with⟨k,m,n,hu,rfl,rfl⟩|⟨m,n,hu,rfl,rfl⟩|⟨m,n,hu,rfl,rfl⟩
 ·rw[hb k m n rfl rfl];simp[Op.equalIn,run_underlying hu]
 ·rw[Hf m n rfl rfl];simp[Op.equalIn,run_underlying hu]
 ·rw[A5m m n rfl rfl];simp[Op.equalIn,run_underlying hu]
theorem Pp {t:TypeId}{dsc:TypeDesc}(hu:P.underlying t=some dsc)(hd:B2 P t=false){xs:Array Value}{i:Nat}{v:Value}(hv:xs[i]?=some v):(part t xs i).run P w=.ok v w:=by
 simp only[part,Sem.run_bind,L8 hu,hd,Result.andThen_ok];simp[hv]
theorem KF (k:IntKind)(n:Int)(K:Int->Option R):Ak k (.sc (.int k n)) K=K n:=by simp[Ak]
theorem OY (d : Nat) : ∀ (fs : List Field) (i : Nat) (xs ys : Array Value) (ps qs : List PV) (K : Bool -> Option R), QT P fs i = true -> Kr (fs.map (fty P)) ps qs K = some r ->
    (∀ (j : Nat) p, ps[j]? = some p -> ∃ v, xs[i + j]? = some v ∧ B1 w A β p v) -> (∀ (j : Nat) p, qs[j]? = some p -> ∃ v, ys[i + j]? = some v ∧ B1 w A β p v) ->
    ∃ b, K b = some r ∧ (forIn fs ((none, ()) : Option Bool × Unit) fun (f : Field) (_ : Option Bool × Unit) =>
            if f.name = "_" then pure (ForInStep.yield ((none, ()) : Option Bool × Unit))
            else do
              let x ← part f.type xs f.offset
              let y ← part f.type ys f.offset
              let e ← Op.equalIn (d + 1) f.type x y
              if e = false then pure (ForInStep.done ((some false, ()) : Option Bool × Unit)) else pure (ForInStep.yield ((none, ()) : Option Bool × Unit)) : Sem (Option Bool × Unit)).run P w = .ok (if b then (none, ()) else (some false, ())) w
  | [], i, xs, ys, ps, qs, K, _, hk, _, _ => by
    cases ps with
    | nil => cases qs with
      | nil => exact⟨true, hk, by simp⟩
      | cons q qs => cases hk
    | cons p ps => cases hk
  | f :: fs, i, xs, ys, ps, qs, K, BD, hk, hp, hq => by
    simp only[QT, Bool.and_eq_true] at BD
    obtain⟨⟨⟨N0, Acv⟩, hty⟩, Tl⟩ := BD
    have N0 := Nat.eq_of_beq_eq_true N0
    have CI : f.name ≠ "_" := by simpa using Acv
    cases ps with
    | nil =>
      simp only[List.map_cons] at hk
      cases Apy : fty P f <;> rw[Apy] at hk <;> cases hk
    | cons p ps =>
      cases qs with
      | nil =>
        simp only[List.map_cons] at hk
        cases Apy : fty P f <;> rw[Apy] at hk <;> cases hk
      | cons q qs =>
        obtain⟨v, hv, Yk⟩ := hp 0 p rfl
        obtain⟨u, hu, hqu⟩ := hq 0 q rfl
        rw[Nat.add_zero] at hv hu
        have main : ∃ b0 dsc, P.underlying f.type = some dsc ∧ B2 P f.type = false ∧ (Op.equalIn (d + 1) f.type v u).run P w = .ok b0 w ∧ Kr (fs.map (fty P)) ps qs (fun r => K (b0 && r)) = some r := by
          simp only[List.map_cons] at hk
          unfold fty at hk
          split at hk
          · rename_i k I2
            obtain⟨m, IW, Ds⟩ := Ec (show Ak k p _ = some r from hk)
            obtain⟨n, GC, Ef⟩ := Ec Ds
            subst IW GC
            have Np : v = .int k m := Aw.val (w := w) (A := A) Yk
            have H9 : u = .int k n := Aw.val (w := w) (A := A) hqu
            subst Np H9
            refine⟨m == n, _, I2, by simp[B2, I2], Hw d (.inl ⟨k, m, n, I2, rfl, rfl⟩) ?_ ?_ ?_, Ef⟩
            · intro k' m' n' h1 h2; injection h1 with _ h1; injection h2 with _ h2; rw[h1, h2]
            · intro m' n' h1; cases h1
            · intro m' n' h1; cases h1
          · rename_i I2
            obtain⟨m, IW, Ds⟩ := Do (show Ao p _ = some r from hk)
            obtain⟨n, GC, Ef⟩ := Do Ds
            subst IW GC
            have Np : v = .bool m := Aw.val (w := w) (A := A) Yk
            have H9 : u = .bool n := Aw.val (w := w) (A := A) hqu
            subst Np H9
            refine⟨m == n, _, I2, by simp[B2, I2], Hw d (.inr (.inl ⟨m, n, I2, rfl, rfl⟩)) ?_ ?_ ?_, Ef⟩
            · intro k' m' n' h1; cases h1
            · intro m' n' h1 h2; injection h1 with h1; injection h2 with h2; rw[h1, h2]
            · intro m' n' h1; cases h1
          · rename_i I2
            obtain⟨m, IW, Ds⟩ := Dk (show A0 p _ = some r from hk)
            obtain⟨n, GC, Ef⟩ := Dk Ds
            subst IW GC
            have Np : v = .string m := Aw.val (w := w) (A := A) Yk
            have H9 : u = .string n := Aw.val (w := w) (A := A) hqu
            subst Np H9
            refine⟨m == n, _, I2, by simp[B2, I2], Hw d (.inr (.inr ⟨m, n, I2, rfl, rfl⟩)) ?_ ?_ ?_, Ef⟩
            · intro k' m' n' h1; cases h1
            · intro m' n' h1; cases h1
            · intro m' n' h1 h2; injection h1 with h1; injection h2 with h2; rw[h1, h2]
          · cases hk
        obtain⟨b0, dsc, I2, Fn, he, hk⟩ := main
        obtain⟨b, hkb, Cm⟩ := OY d fs (i + 1) xs ys ps qs _ Tl hk (fun j p' hj => by have := hp (j + 1) p' hj; rwa [Nat.add_assoc, Nat.add_comm 1 j]) (fun j p' hj => by have := hq (j + 1) p' hj; rwa [Nat.add_assoc, Nat.add_comm 1 j])
        refine⟨b0 && b, hkb, ?_⟩
        have hpx : (part f.type xs f.offset).run P w = .ok v w := Pp I2 Fn (by rw[N0]; exact hv)
        have hpy : (part f.type ys f.offset).run P w = .ok u w := Pp I2 Fn (by rw[N0]; exact hu)
        cases b0
        · simp[List.forIn_cons, CI, hpx, hpy, he]
        · simp only[Bool.true_and]
          rw[← Cm]
          simp[List.forIn_cons, CI, hpx, hpy, he]
theorem Z6 (d:Nat){t:TypeId}{fs:Array Field}(hu:P.underlying t=some (.struct fs)) (Ft:P.stoodInHeld t=false)(BD:QT P fs.toList 0=true){xs ys:List PV}{vx vy:List Value}
  (hvx:Be (B1 w A β) xs vx) (hvy:Be (B1 w A β) ys vy) {K:Bool->Option R}(hk:Kr (fs.toList.map (fty P)) xs ys K=some r):
  ∃b,K b=some r∧(Op.equalIn (d+2) t (.agg ⟨vx⟩) (.agg ⟨vy⟩)).run P w=.ok b w:=by
 obtain⟨b,hkb,Cm⟩:=OY (P:=P) (w:=w) (A:=A) (β:=β) d fs.toList 0 ⟨vx⟩ ⟨vy⟩ xs ys K BD hk (fun j p hj=>by
   obtain⟨v,hv,hc⟩:=hvx.get hj;exact⟨v,by simpa using hv,hc⟩) (fun j p hj=>by
   obtain⟨v,hv,hc⟩:=hvy.get hj;exact⟨v,by simpa using hv,hc⟩)
 refine⟨b,hkb,?_⟩;rw[Array.forIn_toList] at Cm;rw[Op.equalIn];simp[run_underlying hu,Ft];rw[Cm];cases b<;>simp
theorem Vf:∀(ts1:List CT){ts2:List CT}{ps qs:List PV}{K:Bool->Option R},Kr (ts1++ts2) ps qs K=some r ->
  Kr ts1 (ps.take ts1.length) (qs.take ts1.length) (fun b=>Kr ts2 (ps.drop ts1.length) (qs.drop ts1.length) fun r'=>K (b&&r'))=some r
 |[],ts2,ps,qs,K,h=>by
  simp only[List.length_nil,List.take_zero,List.drop_zero,Kr,Bool.true_and];exact h
 |t::ts1,ts2,ps,qs,K,h=>by
  rw[List.cons_append] at h;cases ps with
  |nil=>cases t<;>cases h
  |cons p ps=>
   cases qs with
   |nil=>cases t<;>cases h
   |cons q qs=>
    simp only[List.length_cons,List.take_succ_cons,List.drop_succ_cons];cases t with
    |int k=>
     obtain⟨m,IW,h1⟩:=Ec (show Ak k p _=some r from h)
     obtain⟨n,GC,h2⟩:=Ec h1;subst IW GC;have:=Vf ts1 h2;simp only[←Bool.and_assoc] at this;exact (KF _ _ _).trans ((KF _ _ _).trans this)
    |bool=>
     obtain⟨m,IW,h1⟩:=Do (show Ao p _=some r from h)
     obtain⟨n,GC,h2⟩:=Do h1;subst IW GC;have:=Vf ts1 h2;simp only[←Bool.and_assoc] at this;exact this
    |str=>
     obtain⟨m,IW,h1⟩:=Dk (show A0 p _=some r from h)
     obtain⟨n,GC,h2⟩:=Dk h1;subst IW GC;have:=Vf ts1 h2;simp only[←Bool.and_assoc] at this;exact this
    |sl es=>cases h
    |any=>cases h
theorem PB:∀(ts:List CT){ps qs:List PV}{K:Bool->Option R},Kr ts ps qs K=some r->ps.length=ts.length∧qs.length=ts.length
 |[],ps,qs,K,h=>by
  cases ps with
  |nil=>cases qs with
   |nil=>exact⟨rfl,rfl⟩
   |cons q qs=>cases h
  |cons p ps=>cases h
 |t::ts,ps,qs,K,h=>by
  cases ps with
  |nil=>cases t<;>cases h
  |cons p ps=>
   cases qs with
   |nil=>cases t<;>cases h
   |cons q qs=>
    have go:∃K',Kr ts ps qs K'=some r:=by
     cases t with
     |int k=>
      obtain⟨m,IW,h1⟩:=Ec (show Ak k p _=some r from h)
      obtain⟨n,GC,h2⟩:=Ec h1;exact⟨_,h2⟩
     |bool=>
      obtain⟨m,IW,h1⟩:=Do (show Ao p _=some r from h)
      obtain⟨n,GC,h2⟩:=Do h1;exact⟨_,h2⟩
     |str=>
      obtain⟨m,IW,h1⟩:=Dk (show A0 p _=some r from h)
      obtain⟨n,GC,h2⟩:=Dk h1;exact⟨_,h2⟩
     |sl es=>cases h
     |any=>cases h
    obtain⟨K',h'⟩:=go;have:=PB ts h';exact⟨by simp[this.1],by simp[this.2]⟩
theorem RV {t:TypeId}{dsc:TypeDesc}(hu:P.underlying t=some dsc)(hd:B2 P t=true)(hi:(P.info? t).isSome=true) (xs:Array Value)(i:Nat):(part t xs i).run P w=.ok (.agg (xs.extract i (i+Bb P t))) w:=by
 simp only[part,Sem.run_bind,L8 hu,hd,Result.andThen_ok,if_true,Cp hi];rfl
theorem HY {xs:Array Value}{i n:Nat}{ps:List PV}(hn:n<=ps.length)(hp:∀(j:Nat) p,ps[j]?=some p->∃v,xs[i+j]?=some v∧B1 w A β p v):Be (B1 w A β) (ps.take n) (xs.extract i (i+n)).toList:=by
 rcases Nat.eq_zero_or_pos n with h0|h0
 ·subst h0;simp[Be]
 have hl:n-1<ps.length:=by omega
 obtain⟨v,hv,_⟩:=hp (n-1) _ (List.getElem?_eq_getElem hl);have M3:=(Array.getElem?_eq_some_iff.1 hv).1;refine Be.of_at (by simp;omega) fun j a b ha hb=>?_
 rw[List.getElem?_take] at ha;split at ha
 ·rename_i hj;obtain⟨v,hv,hc⟩:=hp j a ha;rw[Array.getElem?_toList,Array.getElem?_extract] at hb;split at hb
  ·rw[hv] at hb;cases hb;exact hc
  ·cases hb
 ·cases ha
theorem Yu {f:Field}{gs:Array Field}(hu:P.underlying f.type=some (.struct gs)):PQ P f=gs.toList.map (fty P):=by unfold PQ;rw[hu]
theorem SX {f:Field}(h:∀gs,P.underlying f.type≠some (.struct gs)):PQ P f=[fty P f]:=by
 unfold PQ;split
 ·rename_i gs hu;exact absurd hu (h gs)
 ·rfl
theorem XR (d : Nat) : ∀ (fs : List Field) (i : Nat) (xs ys : Array Value) (ps qs : List PV) (K : Bool -> Option R), Mo P fs i = true -> Kr (Tm P fs) ps qs K = some r ->
    (∀ (j : Nat) p, ps[j]? = some p -> ∃ v, xs[i + j]? = some v ∧ B1 w A β p v) -> (∀ (j : Nat) p, qs[j]? = some p -> ∃ v, ys[i + j]? = some v ∧ B1 w A β p v) ->
    ∃ b, K b = some r ∧ (forIn fs ((none, ()) : Option Bool × Unit) fun (f : Field) (_ : Option Bool × Unit) =>
            if f.name = "_" then pure (ForInStep.yield ((none, ()) : Option Bool × Unit))
            else do
              let x ← part f.type xs f.offset
              let y ← part f.type ys f.offset
              let e ← Op.equalIn (d + 2) f.type x y
              if e = false then pure (ForInStep.done ((some false, ()) : Option Bool × Unit)) else pure (ForInStep.yield ((none, ()) : Option Bool × Unit)) : Sem (Option Bool × Unit)).run P w = .ok (if b then (none, ()) else (some false, ())) w
  | [], i, xs, ys, ps, qs, K, _, hk, _, _ => by
    cases ps with
    | nil => cases qs with
      | nil => exact⟨true, hk, by simp⟩
      | cons q qs => cases hk
    | cons p ps => cases hk
  | f :: fs, i, xs, ys, ps, qs, K, BD, hk, hp, hq => by
    simp only[Mo, Bool.and_eq_true] at BD
    obtain⟨⟨N0, Acv⟩, hty⟩ := BD
    have N0 := Nat.eq_of_beq_eq_true N0
    have CI : f.name ≠ "_" := by simpa using Acv
    have main : ∃ b0 v u n, (part f.type xs f.offset).run P w = .ok v w ∧ (part f.type ys f.offset).run P w = .ok u w ∧ (Op.equalIn (d + 2) f.type v u).run P w = .ok b0 w ∧ Mo P fs (i + n) = true ∧ Kr (Tm P fs) (ps.drop n) (qs.drop n) (fun r' => K (b0 && r')) = some r := by
      have hk := Vf (PQ P f) (show Kr (PQ P f ++ Tm P fs) ps qs K = some r from hk)
      have Cz := PB _ hk
      rw[List.length_take, List.length_take] at Cz
      have plain : (∀ gs, P.underlying f.type ≠ some (.struct gs)) -> Mo P fs (i + 1) = true -> (match P.underlying f.type with | some (.int _) => true | some .bool => true | some .string => true | _ => false) = true ->
          ∃ b0 v u n, (part f.type xs f.offset).run P w = .ok v w ∧ (part f.type ys f.offset).run P w = .ok u w ∧ (Op.equalIn (d + 2) f.type v u).run P w = .ok b0 w ∧ Mo P fs (i + n) = true ∧ Kr (Tm P fs) (ps.drop n) (qs.drop n) (fun r' => K (b0 && r')) = some r := by
        intro hs Arr Pm
        rw[SX hs] at hk Cz
        simp only[List.length_singleton] at hk Cz
        obtain⟨p, ps, rfl⟩ : ∃ p ps', ps = p :: ps' := by
          cases ps with
          | nil => simp at Cz
          | cons p ps => exact⟨p, ps, rfl⟩
        obtain⟨q, qs, rfl⟩ : ∃ q qs', qs = q :: qs' := by
          cases qs with
          | nil => simp at Cz
          | cons q qs => exact⟨q, qs, rfl⟩
        obtain⟨v, hv, Yk⟩ := hp 0 p rfl
        obtain⟨u, hu, hqu⟩ := hq 0 q rfl
        rw[Nat.add_zero] at hv hu
        simp only[List.take_succ_cons, List.take_zero, List.drop_succ_cons, List.drop_zero] at hk ⊢
        have one : ∃ b0 dsc, P.underlying f.type = some dsc ∧ B2 P f.type = false ∧ (Op.equalIn (d + 2) f.type v u).run P w = .ok b0 w ∧ Kr (Tm P fs) ps qs (fun r' => K (b0 && r')) = some r := by
          unfold fty at hk
          split at hk
          · rename_i k I2
            obtain⟨m, IW, Ds⟩ := Ec (show Ak k p _ = some r from hk)
            obtain⟨n, GC, Ef⟩ := Ec Ds
            subst IW GC
            have Np : v = .int k m := Aw.val (w := w) (A := A) Yk
            have H9 : u = .int k n := Aw.val (w := w) (A := A) hqu
            subst Np H9
            have e : ∀ b : Bool, (b && true) = b := Bool.and_true
            simp only[Kr, e] at Ef
            refine⟨m == n, _, I2, by simp[B2, I2], Hw (d + 1) (.inl ⟨k, m, n, I2, rfl, rfl⟩) ?_ ?_ ?_, Ef⟩
            · intro k' m' n' h1 h2; injection h1 with _ h1; injection h2 with _ h2; rw[h1, h2]
            · intro m' n' h1; cases h1
            · intro m' n' h1; cases h1
          · rename_i I2
            obtain⟨m, IW, Ds⟩ := Do (show Ao p _ = some r from hk)
            obtain⟨n, GC, Ef⟩ := Do Ds
            subst IW GC
            have Np : v = .bool m := Aw.val (w := w) (A := A) Yk
            have H9 : u = .bool n := Aw.val (w := w) (A := A) hqu
            subst Np H9
            have e : ∀ b : Bool, (b && true) = b := Bool.and_true
            simp only[Kr, e] at Ef
            refine⟨m == n, _, I2, by simp[B2, I2], Hw (d + 1) (.inr (.inl ⟨m, n, I2, rfl, rfl⟩)) ?_ ?_ ?_, Ef⟩
            · intro k' m' n' h1; cases h1
            · intro m' n' h1 h2; injection h1 with h1; injection h2 with h2; rw[h1, h2]
            · intro m' n' h1; cases h1
          · rename_i I2
            obtain⟨m, IW, Ds⟩ := Dk (show A0 p _ = some r from hk)
            obtain⟨n, GC, Ef⟩ := Dk Ds
            subst IW GC
            have Np : v = .string m := Aw.val (w := w) (A := A) Yk
            have H9 : u = .string n := Aw.val (w := w) (A := A) hqu
            subst Np H9
            have e : ∀ b : Bool, (b && true) = b := Bool.and_true
            simp only[Kr, e] at Ef
            refine⟨m == n, _, I2, by simp[B2, I2], Hw (d + 1) (.inr (.inr ⟨m, n, I2, rfl, rfl⟩)) ?_ ?_ ?_, Ef⟩
            · intro k' m' n' h1; cases h1
            · intro m' n' h1; cases h1
            · intro m' n' h1 h2; injection h1 with h1; injection h2 with h2; rw[h1, h2]
          · cases hk
        obtain⟨b0, dsc, I2, Fn, he, hk⟩ := one
        exact⟨b0, v, u, 1, Pp I2 Fn (by rw[N0]; exact hv), Pp I2 Fn (by rw[N0]; exact hu), he, Arr, by simpa using hk⟩
      split at hty
      · rename_i k I2
        exact plain (fun gs e => by rw[I2] at e; cases e) hty (by rw[I2])
      · rename_i I2
        exact plain (fun gs e => by rw[I2] at e; cases e) hty (by rw[I2])
      · rename_i I2
        exact plain (fun gs e => by rw[I2] at e; cases e) hty (by rw[I2])
      · rename_i gs I2
        simp only[Bool.and_eq_true, Bool.not_eq_true'] at hty
        obtain⟨⟨⟨⟨hfp, Ft⟩, hi⟩, M3⟩, Tl⟩ := hty
        have M3 := Nat.eq_of_beq_eq_true M3
        have I1 : (PQ P f).length = gs.size := by rw[Yu I2, List.length_map, Array.length_toList]
        rw[I1] at hk Cz
        rw[Yu I2] at hk
        have hx := HY (n := gs.size) (by omega) hp
        have hy := HY (n := gs.size) (by omega) hq
        obtain⟨b0, hkb, he⟩ := Z6 d I2 Ft hfp hx hy hk
        have ha : B2 P f.type = true := by simp[B2, I2]
        exact⟨b0, _, _, gs.size, by rw[RV I2 ha hi, N0, M3], by rw[RV I2 ha hi, N0, M3], he, Tl, hkb⟩
      · cases hty
    obtain⟨b0, v, u, n, hpx, hpy, he, Arr, hk⟩ := main
    obtain⟨b, hkb, Cm⟩ := XR d fs (i + n) xs ys (ps.drop n) (qs.drop n) _ Arr hk (fun j p' hj => by rw[List.getElem?_drop] at hj; have := hp (n + j) p' hj; rwa [← Nat.add_assoc] at this) (fun j p' hj => by rw[List.getElem?_drop] at hj; have := hq (n + j) p' hj; rwa [← Nat.add_assoc] at this)
    refine⟨b0 && b, hkb, ?_⟩
    cases b0
    · simp[List.forIn_cons, CI, hpx, hpy, he]
    · simp only[Bool.true_and]
      rw[← Cm]
      simp[List.forIn_cons, CI, hpx, hpy, he]
theorem DW (d:Nat){t:TypeId}{fs:Array Field}(hu:P.underlying t=some (.struct fs)) (Ft:P.stoodInHeld t=false)(BD:Mo P fs.toList 0=true){xs ys:List PV}{vx vy:List Value}
  (hvx:Be (B1 w A β) xs vx) (hvy:Be (B1 w A β) ys vy) {K:Bool->Option R}(hk:Kr (Tm P fs.toList) xs ys K=some r):
  ∃b,K b=some r∧(Op.equalIn (d+3) t (.agg ⟨vx⟩) (.agg ⟨vy⟩)).run P w=.ok b w:=by
 obtain⟨b,hkb,Cm⟩:=XR (P:=P) (w:=w) (A:=A) (β:=β) d fs.toList 0 ⟨vx⟩ ⟨vy⟩ xs ys K BD hk (fun j p hj=>by
   obtain⟨v,hv,hc⟩:=hvx.get hj;exact⟨v,by simpa using hv,hc⟩) (fun j p hj=>by
   obtain⟨v,hv,hc⟩:=hvy.get hj;exact⟨v,by simpa using hv,hc⟩)
 refine⟨b,hkb,?_⟩;rw[Array.forIn_toList] at Cm;rw[Op.equalIn];simp[run_underlying hu,Ft];rw[Cm];cases b<;>simp
theorem KA (h:Cr N w0 X0 Y β s a w){t:TypeId}{fs:Array Field}{x y:Operand}{op:BinOp}(hop:op=.eql∨op=.neq)(hu:P.underlying t=some (.struct fs)) (BD:ME P t fs=true){xs ys:List PV}
  (hx:Bz s.tm x=.agg xs)(hy:Bz s.tm y=.agg ys){K:Bool->Option R}(hk:Kr (Tm P fs.toList) xs ys K=some r):
  ∃b,K b=some r∧(do eqGuard op t x y (a.eval x) (a.eval y);binOp op t (a.eval x) (a.eval y)).run P w=.ok (.bool (if op=.eql then b else !b)) w:=by
 have hxv:=Cv h x;have YC:=Cv h y;rw[hx] at hxv;rw[hy] at YC;obtain⟨vx,Db,hvx⟩:=hxv;obtain⟨vy,hay,hvy⟩:=YC;simp only[ME,Bool.and_eq_true,Bool.not_eq_true'] at BD;obtain⟨⟨BD,Ft⟩,heg⟩:=BD;obtain⟨b,hkb,heq⟩:=DW 9997 hu Ft BD hvx hvy hk;have heq:(Op.equal t (.agg ⟨vx⟩) (.agg ⟨vy⟩)).run P w=.ok b w:=heq;refine⟨b,hkb,?_⟩;rw[Db,hay];rcases hop with rfl|rfl
 ·simp[eqGuard,binOp,heq,heg]
 ·simp[eqGuard,binOp,heq,heg]
theorem PG (h:Cr N w0 X0 Y β s a w){op:BinOp}{t ty:TypeId}{x y:Operand}(ho:o.op=.binOp op t x y ty){K:PV->Option R}
  (hk:Sk P op t (Bz s.tm x) (Bz s.tm y) K=some r):∃v,K v=some r∧D4 P a w o Y β s v [] []:=by
 have Cm:∀v,(do eqGuard op t x y (a.eval x) (a.eval y);binOp op t (a.eval x) (a.eval y)).run P w=.ok v w->(execOp a.eval o).run P w=.ok (.value v) w:=by
  intro v hv;unfold execOp;rw[ho];simp only[Sem.run_bind] at hv ⊢;rw[hv];rfl
 unfold Sk at hk;split at hk
 ·rename_i fs hu;split at hk
  ·obtain⟨BD,hk⟩:=Al hk;obtain⟨xs,hx,hk⟩:=Gu hk;obtain⟨ys,hy,hk⟩:=Gu hk;obtain⟨b,hk,hr⟩:=KA h (.inl rfl) hu BD hx hy hk;exact⟨_,hk,Cg (Cm _ (by rw[hr];rfl))⟩
  ·obtain⟨BD,hk⟩:=Al hk;obtain⟨xs,hx,hk⟩:=Gu hk;obtain⟨ys,hy,hk⟩:=Gu hk;obtain⟨b,hk,hr⟩:=KA h (.inr rfl) hu BD hx hy hk;exact⟨_,hk,Cg (Cm _ (by rw[hr];rfl))⟩
  ·cases hk
 ·unfold Ac5 at hk;split at hk
  ·rename_i k hu;split at hk
   ·obtain⟨m,hx,hk⟩:=Ec hk;obtain⟨k2,n,hy,hk⟩:=Di hk;obtain⟨hb,hk⟩:=Al hk;have hb:=of_decide_eq_true hb;refine⟨_,hk,Cg (Cm _ ?_)⟩;have:¬n<0:=by omega
    simp[eqGuard,binOp,Op.shift,B6 h hx,B6 h hy,this]
   ·obtain⟨m,hx,hk⟩:=Ec hk;obtain⟨k2,n,hy,hk⟩:=Di hk;obtain⟨hb,hk⟩:=Al hk;have hb:=of_decide_eq_true hb;refine⟨_,hk,Cg (Cm _ ?_)⟩;have:¬n<0:=by omega
    simp[eqGuard,binOp,Op.shift,B6 h hx,B6 h hy,this]
   ·rename_i hs1 Tg;obtain⟨m,hx,hk⟩:=Ec hk;obtain⟨n,hy,hk⟩:=Ec hk;obtain⟨v,hk,hr⟩:=ZF (P:=P) (w:=w) (t:=t) (x:=x) (y:=y) hs1 Tg hk;exact⟨_,hk,Cg (Cm _ (by rw[B6 h hx,B6 h hy];exact hr))⟩
  ·rename_i hu;obtain⟨m,hx,hk⟩:=Dk hk;obtain⟨n,hy,hk⟩:=Dk hk;obtain⟨v,hk,hr⟩:=Abg (P:=P) (w:=w) (t:=t) (x:=x) (y:=y) hk;exact⟨_,hk,Cg (Cm _ (by rw[B6 h hx,B6 h hy];exact hr))⟩
  ·rename_i hu;split at hk
   ·obtain⟨m,hx,hk⟩:=Do hk;obtain⟨n,hy,hk⟩:=Do hk;refine⟨_,hk,Cg (Cm _ ?_)⟩;simp[eqGuard,binOp,B6 h hx,B6 h hy,CY hu]
   ·obtain⟨m,hx,hk⟩:=Do hk;obtain⟨n,hy,hk⟩:=Do hk;refine⟨_,hk,Cg (Cm _ ?_)⟩;simp[eqGuard,binOp,B6 h hx,B6 h hy,CY hu]
   ·cases hk
  ·rename_i e hu;have hx:=Cv h x
   have nilQ:∀{e:Bool} {K':PV->Option R},DJ e (Bz s.tm x) K'=some r->∃q ad n c,K' q=some r∧a.eval x=.slice ad n c∧(q=.sc (.bool (if ad.isNone then e else !e))∨q=.ub):=by
    intro e K' hq;unfold DJ at hq;split at hq
    ·rename_i e';exact⟨_,none,0,0,hq,B6 h e',.inl rfl⟩
    ·rename_i z es n c e';rcases F7 (.inl e') hx with⟨Db,rfl,_⟩|⟨ad,cap,Db,rfl,_⟩|⟨ad,cap,Db,rfl,rfl,_⟩
     ·rcases Lv hq with⟨_,hq⟩|⟨_,hq⟩
      ·exact⟨_,none,0,0,hq,Db,.inl rfl⟩
      ·rcases Lv hq with⟨hb,_⟩|⟨_,hq⟩
       ·exact absurd (of_decide_eq_true hb) (by omega)
       ·exact⟨_,none,0,0,hq,Db,.inr rfl⟩
     ·rcases Lv hq with⟨hz,_⟩|⟨_,hq⟩
      ·cases hz
      ·rcases Lv hq with⟨_,hq⟩|⟨_,hq⟩
       ·exact⟨_,some ad,n,cap,hq,Db,.inl rfl⟩
       ·exact⟨_,some ad,n,cap,hq,Db,.inr rfl⟩
     ·rcases Lv hq with⟨hz,_⟩|⟨_,hq⟩
      ·cases hz
      ·rcases Lv hq with⟨hb,_⟩|⟨_,hq⟩
       ·exact absurd (of_decide_eq_true hb) (by omega)
       ·exact⟨_,some ad,0,cap,hq,Db,.inr rfl⟩
    ·rename_i id es off n e';rw[e'] at hx;rcases hx with⟨_,_,rfl,ad,Db⟩|⟨b,ob,y',cap,_,Db,_⟩
     ·rcases Lv hq with⟨hb,_⟩|⟨_,hq⟩
      ·exact absurd (of_decide_eq_true hb) (by omega)
      ·exact⟨_,ad,0,0,hq,Db,.inr rfl⟩
     ·rcases Lv hq with⟨_,hq⟩|⟨_,hq⟩
      ·exact⟨_,_,n,cap,hq,Db,.inl rfl⟩
      ·exact⟨_,_,n,cap,hq,Db,.inr rfl⟩
    ·cases hq
   split at hk
   ·rename_i hy;obtain⟨q,ad,n,c,hk,Db,hb⟩:=nilQ hk;rcases hb with rfl|rfl
    ·refine⟨_,hk,Cg (Cm _ ?_)⟩;cases ad<;>simp[eqGuard,binOp,Db,B6 h hy,Se hu]
    ·refine⟨_,hk,B3 (val:=.bool ad.isNone) (Cm _ ?_) (Aw.ub _) (by intro i hi;cases hi)⟩
     simp[eqGuard,binOp,Db,B6 h hy,Se hu]
   ·rename_i hy;obtain⟨q,ad,n,c,hk,Db,hb⟩:=nilQ hk;rcases hb with rfl|rfl
    ·refine⟨_,hk,Cg (Cm _ ?_)⟩;cases ad<;>simp[eqGuard,binOp,Db,B6 h hy,Se hu]
    ·refine⟨_,hk,B3 (val:=.bool !ad.isNone) (Cm _ ?_) (Aw.ub _) (by intro i hi;cases hi)⟩
     simp[eqGuard,binOp,Db,B6 h hy,Se hu]
   ·cases hk
  ·rename_i kt vt hu;split at hk
   ·rename_i hx hy;refine⟨_,hk,Cg (Cm _ ?_)⟩;simp[eqGuard,binOp,B6 h hx,B6 h hy,Va hu]
   ·rename_i hx hy;refine⟨_,hk,Cg (Cm _ ?_)⟩;simp[eqGuard,binOp,B6 h hx,B6 h hy,Va hu]
   ·cases hk
  ·cases hk
end
open Go.RowKit
section
variable {R:Type} {r:R} {P:Program} {N:Nat} {w0:World} {X0:Hg} {Y:Nat->Prop} {β β':Bt} {s:St} {a:Act} {w w':World} {o:Oper} {A:Nat->Prop}
theorem Yy:∀{c:List PV}{ns:List Int},Sv c=some ns->c=ns.map (fun n=>.sc (.int .i32 n))
 |[],ns,h=>by simp[Sv] at h;subst h;rfl
 |p::c,ns,h=>by
  unfold Sv at h;split at h
  ·rename_i e;cases e
  ·rename_i n r e;cases e;cases hr:Sv c with
   |none=>rw[hr] at h;cases h
   |some l'=>
    rw[hr] at h;simp at h;subst h;rw[Yy hr];rfl
  ·cases h
theorem Zc:∀{c:List PV}{l:List UInt8},Nc c=some l->∃ns:List Int,c=ns.map (fun n=>.sc (.int .u8 n))∧l=ns.map fun n=>n.toNat.toUInt8
 |[],l,h=>⟨[],rfl,by simp[Nc] at h;subst h;rfl⟩
 |p::c,l,h=>by
  unfold Nc at h;split at h
  ·rename_i e;cases e
  ·rename_i n r e;cases e;cases hr:Nc c with
   |none=>rw[hr] at h;cases h
   |some l'=>
    rw[hr] at h;simp at h;obtain⟨ns,rfl,rfl⟩:=Zc hr;exact⟨n::ns,rfl,h.symm⟩
  ·cases h
theorem Qn:∀(ns:List Int)(b:ByteArray),ns.foldl (fun r n=>r.push (UInt8.ofNat n.toNat)) b=⟨b.data++(ns.map fun n=>n.toNat.toUInt8).toArray⟩
 |[],b=>by simp
 |n::ns,b=>by
  simp only[List.foldl_cons];rw[Qn ns];simp[ByteArray.push]
theorem EL (h:Cr N w0 X0 Y β s a w){es:Nat}{x:Operand}{K:Nat->List PV->Option R}(hk:RU (Ic s.hp) es (Bz s.tm x) K=some r):
  ∃n c,K n c=some r∧(((∃ad,a.eval x=.slice ad 0 0)∧n=0∧c=[])∨∃ad cap,a.eval x=.slice (some ad) n cap∧n<=cap∧(c=[]∨ad.block<w.heap.size)∧SL w (C7 s.hp β Y) ad c):=by
 have hx:=Cv h x;have GF:=Ex h x;unfold RU at hk;split at hk
 ·rename_i id es' off n e;rw[e] at hx GF;cases hb:Nat.beq es' es
  ·rw[hb] at hk;cases hk
  ·rw[hb] at hk;obtain⟨c,hc,hk⟩:=B9 (show Cy _ _=some r from hk)
   obtain⟨hl,hk⟩:=Al hk;have hl:=of_decide_eq_true hl;obtain⟨f,YK⟩:=LE hc;refine⟨_,_,hk,?_⟩;rcases hx with⟨_,rfl,rfl,ad,Db⟩|⟨b,ob,y,cap,hβ,Db,hy,hn,_,B7⟩
   ·exact .inl ⟨⟨ad,Db⟩,rfl,by simp⟩
   ·refine .inr ⟨_,cap,Db,hn,.inr B7,fun j p hj=>?_⟩
    have ZI:0<n*es:=by
     rcases Nat.eq_zero_or_pos (n*es) with h0|h0
     ·rw[h0] at hj;simp at hj
     ·exact h0
    have Wz:n≠0:=by rintro rfl;simp at ZI
    have hy:y=ob+off:=by rcases hy with hy|⟨h0,_⟩<;>omega
    subst hy;rw[List.getElem?_take] at hj;split at hj
    ·rw[List.getElem?_drop] at hj;rcases h.box id _ YK with⟨h1,_⟩|⟨b',o',h1,h2,_⟩
     ·rw[hβ] at h1;cases h1
     ·rw[hβ] at h1;simp at h1;obtain⟨rfl,rfl⟩:=h1
      obtain⟨v,hv,h3,ht⟩:=h2 (off+j) p hj;rw[Eh] at hv;exact⟨v,by rw[Eh,Nat.add_assoc];exact hv,h3,ht⟩
    ·cases hj
 ·obtain⟨z,n,c,hk,hp⟩:=E6 hk;refine⟨n,c,hk,?_⟩;rcases F7 hp hx with h1|⟨ad,cap,Db,_,hn,h1,h2,_,h4⟩|⟨ad,cap,Db,_,rfl,rfl⟩
  ·exact .inl ⟨⟨none,h1.1⟩,h1.2⟩
  ·exact .inr ⟨ad,cap,Db,hn,.inr h2,h4⟩
  ·exact .inr ⟨ad,cap,Db,Nat.zero_le _,.inl rfl,fun j c hj=>by simp at hj⟩
theorem Ab3 (b:ByteArray)(j:Nat)(p:PV)(h:(Pd b)[j]?=some p):∃x,b.data[j]?=some x∧p=.sc (.int .u8 x.toNat):=by
 unfold Pd at h;rw[List.getElem?_map] at h;cases hx:b.data.toList[j]? with
 |none=>rw[hx] at h;cases h
 |some x=>
  rw[hx] at h;simp at h;exact⟨x,by simpa using hx,h.symm⟩
theorem UQ (h:Cr N w0 X0 Y β s a w){src dst:TypeId}{x:Operand}(ho:o.op=.convert src dst x){d:Nat}{K:PV->List (Nat × Bo)->Option R}
  (hk:DQ P (Ic s.hp) d src dst (Bz s.tm x) K=some r):∃v nw,K v nw=some r∧D4 P a w o Y β s v [] nw:=by
 have Cm:∀v w',(convert src dst (a.eval x)).run P w=.ok v w'->(execOp a.eval o).run P w=.ok (.value v) w':=by
  intro v w' hv;unfold execOp;rw[ho];simp[hv]
 unfold DQ at hk;split at hk
 ·rename_i k hu;obtain⟨hs,hk⟩:=Al hk;obtain⟨k',n,hx,hk⟩:=Di hk;exact⟨_,_,hk,Cg (Cm _ _ (by rw[B6 h hx];obtain⟨ds,hds⟩:=Option.isSome_iff_exists.1 hs;cases ds<;>simp[convert,run_underlying hds,run_underlying hu,Conv.intToInt]))⟩
 ·rename_i hu;split at hk
  ·rename_i hs;obtain⟨b,hx,hk⟩:=Dk hk;exact⟨_,_,hk,Cg (Cm _ _ (by rw[B6 h hx];simp[convert,run_underlying hs,run_underlying hu]))⟩
  ·rename_i e hs;split at hk
   ·rename_i he;obtain⟨n,c,hk,hc⟩:=EL h hk;obtain⟨hl,hk⟩:=Al hk;have hl:=of_decide_eq_true hl;obtain⟨l,hb,hk⟩:=B9 hk;obtain⟨ns,rfl,rfl⟩:=Zc hb;refine⟨_,_,hk,Cg (Cm _ _ ?_)⟩;rcases hc with⟨⟨ad,Db⟩,rfl,hn⟩|⟨ad,cap,Db,_,_,hrd⟩
    ·have:ns=[]:=by simpa using hn
     subst this;rw[Db,run_convert_bytes_string w src dst e ad 0 0 hs he hu];cases ad<;>rfl
    ·rw[Db,run_convert_bytes_string w src dst e _ _ _ hs he hu]
     have hld:(loadCells ad n).run P w=.ok (ns.map (Value.int .u8)).toArray w:=by
      have:=run_loadCells_list (P:=P) w ad (ns.map (Value.int .u8)) (fun j v hj=>by
       rw[List.getElem?_map] at hj;cases hn:ns[j]? with
       |none=>rw[hn] at hj;cases hj
       |some m=>
        rw[hn] at hj;simp at hj;subst hj;obtain⟨v,hv,_,ht⟩:=hrd j (.sc (.int .u8 m)) (by rw[List.getElem?_map,hn];rfl)
        rw[ht.val] at hv;exact hv)
      simp only[List.length_map] at this hl;rw[hl] at this;exact this
     rw[run_bytesToString w ad n cap ns hld,Qn];simp
   ·rename_i he;obtain⟨n,c,hk,hc⟩:=EL h hk;obtain⟨hl,hk⟩:=Al hk;have hl:=of_decide_eq_true hl;obtain⟨ns,hb,Ef⟩:=B9 hk;have AO:=Yy hb;clear hk;subst AO;refine⟨_,_,Ef,Cg (Cm _ _ ?_)⟩;rcases hc with⟨⟨ad,Db⟩,Xh,hn⟩|⟨ad,cap,Db,_,_,hrd⟩
    ·have:ns=[]:=by simpa using hn
     subst this;rw[Db,run_convert_runes_string w src dst e ad _ _ hs he hu];cases ad with
     |none=>rfl
     |some p=>
      have Wz:n=0:=by simpa using Xh
      subst Wz;exact run_runesToString w p 0 0 [] (by simpa using run_loadCells_list (P:=P) w p [] (by simp))
    ·rw[Db,run_convert_runes_string w src dst e _ _ _ hs he hu]
     have hld:(loadCells ad n).run P w=.ok (ns.map (Value.int .i32)).toArray w:=by
      have:=run_loadCells_list (P:=P) w ad (ns.map (Value.int .i32)) (fun j v hj=>by
       rw[List.getElem?_map] at hj;cases hn:ns[j]? with
       |none=>rw[hn] at hj;cases hj
       |some m=>
        rw[hn] at hj;simp at hj;subst hj;obtain⟨v,hv,_,ht⟩:=hrd j (.sc (.int .i32 m)) (by rw[List.getElem?_map,hn];rfl)
        rw[ht.val] at hv;exact hv)
      simp only[List.length_map] at this hl;rw[hl] at this;exact this
     exact run_runesToString w ad n cap ns hld
   ·cases hk
  ·cases hk
 ·rename_i e hu;split at hk
  ·rename_i he hs;obtain⟨b,hx,hk⟩:=Dk hk;obtain⟨M3,hk⟩:=Al hk;have hr:=run_bytes_of_string (P:=P) w src dst e b hs hu he;rw[←B6 h hx] at hr
   have T8:b.size<=grownCap w b.size 0 e:=by
    unfold grownCap;simp[Question.cut]
   have RX:(bytesRow b (grownCap w b.size 0 e)).size=grownCap w b.size 0 e:=by
    simp only[bytesRow,Array.size_append,Array.size_map,Array.size_replicate];have:b.data.size=b.size:=rfl;omega
   refine⟨_,_,hk,Ou (c:=bytesRow b (grownCap w b.size 0 e)) (e:=e) (by simp) (Cm _ _ hr) ?_ (fun j p hj=>?_) (.inr ⟨1,b.size,grownCap w b.size 0 e,rfl,rfl,T8,by rw[RX];omega,.inl rfl⟩)⟩
   ·exact⟨rfl,rfl,rfl,fun i hi=>Below.heap_alloc w.drew _ i hi,by show (w.heap.push _).size=_;simp,_,by show (w.heap.push _)[w.heap.size]?=_;simp;rfl,.inr (Nat.le_refl _)⟩
   ·obtain⟨y,hy,rfl⟩:=Ab3 b j p hj;refine⟨.int .u8 y.toNat,?_,rfl,Aw.sc _⟩
    have B7:j<b.data.size:=by
     rcases Nat.lt_or_ge j b.data.size with h|h
     ·exact h
     ·rw[Array.getElem?_eq_none h] at hy;cases hy
    simp only[bytesRow];rw[Array.getElem?_append_left (by simpa using B7),Array.getElem?_map,hy]
    rfl
  ·cases hk
 ·cases hk
end
open Go.RowKit
section
variable {R:Type} {r:R} {P:Program} {N:Nat} {w0:World} {X0:Hg} {Y:Nat->Prop} {β β':Bt} {s:St} {a:Act} {w w':World} {o:Oper} {A:Nat->Prop}
theorem We:∀{n:Nat}{l:List PV}{j:Nat}{c:PV},(Pz n l)[j]?=some c->j<n*l.length∧l[j % l.length]?=some c
 |0,l,j,c,h=>by simp[Pz] at h
 |n+1,l,j,c,h=>by
  have e:Pz (n+1) l=l++Pz n l:=by simp[Pz,List.replicate_succ]
  rw[e] at h;by_cases hj:j<l.length
  ·rw[List.getElem?_append_left hj] at h;refine⟨by rw[Nat.add_mul];omega,?_⟩
   rw[Nat.mod_eq_of_lt hj];exact h
  ·rw[List.getElem?_append_right (by omega)] at h
   obtain⟨h1,h2⟩:=We h;refine⟨by rw[Nat.add_mul];omega,?_⟩
   rw[Nat.mod_eq_sub_mod (by omega)];exact h2
theorem OZ (n:Nat)(l:List PV):(Pz n l).length=n*l.length:=by
 induction n with
 |zero=>simp[Pz]
 |succ n ih=>
  have e:Pz (n+1) l=l++Pz n l:=by simp[Pz,List.replicate_succ]
  rw[e,List.length_append,ih,Nat.add_mul];omega
theorem PH {z:Array Value}{n j:Nat}(hj:j<n){v:Value}(hv:z[j % z.size]?=some v):(madeCells z n)[j]?=some v:=by
 unfold madeCells;rw[Array.getElem?_map,Array.getElem?_range,if_pos hj];simp only[Option.map_some];rw[getElem!_def,hv]
theorem TO (h:Cr N w0 X0 Y β s a w){t:TypeId}{x y:Operand}(ho:o.op=.makeSlice t x y){d:Nat}{K:PV->List Nat->List (Nat × Bo)->Option R}
  (hk:(match P.underlying t with
   |some (.slice e)=>Dn (Bz s.tm x) fun _ n=>Dn (Bz s.tm y) fun _ m=>
     A9 (decide (0<=n)&&decide (n<=m)&&decide (m*((P.info? e).map (·.bytes)).getD 0<=1099511627776)&&decide (m<=1099511627776))
      (Gk P e fun z=>K (.view d (Bb P e) 0 n.toNat) [] [(d,.ar false (Pz n.toNat z))])
   |_=>none)=some r):∃v fz nw,K v fz nw=some r∧D4 P a w o Y β s v fz nw:=by
 split at hk
 ·rename_i e hu;obtain⟨k1,n,hx,hk⟩:=Di hk;obtain⟨k2,m,hy,hk⟩:=Di hk;obtain⟨hb,hk⟩:=Al hk;simp only[Bool.and_eq_true,decide_eq_true_eq] at hb;obtain⟨⟨⟨h0,GM⟩,Rl⟩,hm⟩:=hb;obtain⟨z,cs,hk,hz,hct,hl,M3,hc⟩:=Nh hk
  have hzc:∃i,P.info? e=some i∧i.zero=some z:=by
   unfold Nw at hz;cases hi:P.info? e with
   |none=>rw[hi] at hz;cases hz
   |some i=>rw[hi] at hz;exact⟨i,rfl,hz⟩
  obtain⟨i,hi,hzi⟩:=hzc;have Awu:Bb P e=i.size:=by simp[Bb,hi]
  simp only[hi,Option.map_some,Option.getD_some] at Rl;have hr:=run_make (P:=P) w t e i z hu hi hzi k1 k2 n m h0 GM (by rw[Int.mul_comm];omega) (by omega)
  have Cm:(execOp a.eval o).run P w=.ok (.value (.slice (some ⟨w.heap.size,0,none⟩) n.toNat m.toNat)) (w.alloc (.cells (madeCells z.cells (m.toNat*i.size)) e)):=by
   unfold execOp;rw[ho];simp[B6 h hx,B6 h hy,hr]
  have hzl:z.cells.size=Bb P e:=by
   have:z.cells.toList.length=z.cells.size:=by simp
   omega
  refine⟨_,_,_,hk,Ou (c:=madeCells z.cells (m.toNat*i.size)) (e:=e) (by simp) Cm (F2.alloc w _ e) (fun j p hj=>?_) (.inr ⟨Bb P e,n.toNat,m.toNat,rfl,rfl,by omega,by rw[size_madeCells,Awu];exact Nat.le_refl _,.inr (Js w _ e)⟩)⟩
  obtain⟨h1,h2⟩:=We hj;obtain⟨hT,u,H9,KT,hv⟩:=hc _ p h2;refine⟨u,PH ?_ ?_,KT,hv _ _⟩
  ·have:n.toNat*cs.length<=m.toNat*i.size:=by
    rw[M3,Awu];exact Nat.mul_le_mul_right _ (by omega)
   omega
  ·rw[hzl,←M3]
   simpa using H9
 ·cases hk
theorem YT {p:PV}{v:Value}(hp:okP p=true)(hv:Ea w A β p v):Be (B1 w A β) (cellsOf p) v.cells.toList:=by
 have one:v.oneCell'=true->B1 w A β p v->(∀x,p ≠ .agg x)->Be (B1 w A β) (cellsOf p) v.cells.toList:=by
  intro h1 h2 h3;have:cellsOf p=[p]:=by cases p<;>first|rfl|exact absurd rfl (h3 _)
  rw[this,L7 h1];exact⟨h2,trivial⟩
 unfold okP at hp;split at hp
 ·obtain⟨vs,rfl,h2⟩:=hv;exact h2
 ·refine one ?_ hv (by simp)
  have Np:Aw w A _ v:=hv;cases Np<;>rfl
 ·refine one ?_ hv (by simp)
  rcases hv with⟨_,_,_,_,rfl⟩|⟨_,_,_,_,_,rfl,_⟩<;>rfl
 ·have:=Yh hv;subst this;exact one rfl hv (by simp)
 ·have:=Yh hv;subst this;exact one rfl hv (by simp)
 ·have:=Yh hv;subst this;exact one rfl hv (by simp)
 ·have:=Yh hv;subst this;exact one rfl hv (by simp)
 ·cases hp
theorem YB:∀(vs:List Value)(k off:Nat)(cells:Array Value),off+k+vs.length<=cells.size ->
  ((vs.zipIdx k).foldl (fun cs (q:Value × Nat)=>cs.setIfInBounds (off+q.2) q.1) cells).toList=cells.toList.take (off+k)++vs++cells.toList.drop (off+k+vs.length)
 |[],k,off,cells,_=>by simp
 |v::vs,k,off,cells,h=>by
  simp only[List.zipIdx_cons,List.foldl_cons,List.length_cons] at h ⊢;rw[YB vs (k+1) off _ (by simp;omega)]
  have B7:off+k<cells.toList.length:=by simp;omega
  simp only[Array.toList_setIfInBounds];rw[show off+(k+1)=off+k+1 from by omega,List.take_succ_eq_append_getElem (by simpa using B7)]
  rw[List.getElem_set_self,List.take_set_of_le (Nat.le_refl _),List.drop_set_of_lt (by omega)]
  simp only[List.append_assoc,List.cons_append,List.nil_append];rw[show off+k+1+vs.length=off+k+(vs.length+1) from by omega]
theorem EG (h:Cr N w0 X0 Y β s a w){Gm:Nat->Option (Nat × Nat)}:∀{parts:List (Nat × Operand)} {pc:List PV}{vc:Array Value}{K:List PV->Option R},
  Rx Gm (parts.map fun q=>(q.1,Bz s.tm q.2)) pc K=some r->Be (B1 w (C7 s.hp β Y) β) pc vc.toList->(∀c∈pc,∀id∈Ap c,s.hp id≠none) ->
  ∃pc' vc',K pc'=some r∧Instr.fill Gm vc (parts.map fun q=>(q.1,a.eval q.2))=some vc'∧Be (B1 w (C7 s.hp β Y) β) pc' vc'.toList∧pc'.length=pc.length∧∀c∈pc',∀id∈Ap c,s.hp id≠none
 |[],pc,vc,K,hk,hv,hr=>⟨pc,vc,hk,rfl,hv,rfl,hr⟩
 |(i,x)::parts,pc,vc,K,hk,hv,hr=>by
  simp only[List.map_cons] at hk;unfold Rx at hk;obtain⟨⟨off,size⟩,Pm,hk⟩:=B9 hk;obtain⟨hb,hk⟩:=Al hk;simp only[Bool.and_eq_true] at hb;obtain⟨⟨hok,M3⟩,Y0⟩:=hb;have M3:(cellsOf (Bz s.tm x)).length=size:=Nat.eq_of_beq_eq_true M3;have Y0:off+size<=pc.length:=Nat.le_of_ble_eq_true Y0;have hxc:=YT hok (Cv h x);have hxl:=hxc.len;have hvl:=hv.len;have Qx:vc.toList.length=vc.size:=by simp
  have AO:(a.eval x).cells.toList.length=(a.eval x).cells.size:=by simp
  have Auh:=YB (a.eval x).cells.toList 0 off vc (by omega)
  simp only[Nat.add_zero] at Auh
  have Asy:((a.eval x).cells.zipIdx.foldl (fun cs (q:Value × Nat)=>cs.setIfInBounds (off+q.2) q.1) vc).toList=vc.toList.take off++(a.eval x).cells.toList++vc.toList.drop (off+(a.eval x).cells.toList.length):=by
   rw[←Auh,←Array.foldl_toList];simp
  obtain⟨pc',vc',hk,hf,h2,hl,hr'⟩:=EG h (pc:=Ce pc (cellsOf (Bz s.tm x)) off) (vc:=(a.eval x).cells.zipIdx.foldl (fun cs (q:Value × Nat)=>cs.setIfInBounds (off+q.2) q.1) vc) hk (by
    rw[Asy,←hxl];exact (((hv.take off).app hxc).app (hv.drop _))) (by
    intro c hc id Bj;unfold Ce at hc;rcases List.mem_append.1 hc with hc|hc
    ·rcases List.mem_append.1 hc with hc|hc
     ·exact hr c (List.mem_of_mem_take hc) id Bj
     ·refine Ex h x id ?_;cases hp:Bz s.tm x with
      |agg cs=>rw[hp] at hc;exact List.mem_flatMap.2 ⟨c,hc,Bj⟩
      |tup cs=>rw[hp] at hc;simp[cellsOf] at hc;subst hc;cases Bj
      |_=>rw[hp] at hc;simp[cellsOf] at hc;subst hc;exact Bj
    ·exact hr c (List.mem_of_mem_drop hc) id Bj)
  refine⟨pc',vc',hk,?_,h2,?_,hr'⟩
  ·simp only[List.map_cons,Instr.fill,Pm];rw[if_neg (by simp;omega)]
   exact hf
  ·rw[hl];simp[Ce];omega
theorem PJ {t:TypeId}{z:Value}{cs:List PV}(hl:cs.length=z.cells.toList.length)(hc:∀(j:Nat) c,cs[j]?=some c->Th c∧∃u,z.cells.toList[j]?=some u∧u.oneCell'=true∧∀(w:World)(A:Nat->Prop),Aw w A c u) (_ht:Nw P t=some z):
  Be (B1 w A β) cs z.cells.toList∧∀c∈cs,Ap c=[]:=by
 refine⟨Be.of_at hl fun i c u hci hu=>?_,fun c QP=>?_⟩
 ·obtain⟨hT,u',H9,_,hv⟩:=hc i c hci;rw[hu] at H9;cases H9;exact (Kl hT).2 (hv _ _)
 ·obtain⟨j,hj⟩:=List.mem_iff_getElem?.1 QP;exact Hb (hc j c hj).1
theorem FV:∀{fs:List Field},(fs.all fun f=>BN P f.type)=true->fs.mapM (fun f=>(P.info? f.type).map fun i=>(f.offset,i.size))=some (fs.map fun f=>(f.offset,Bb P f.type))
 |[],_=>rfl
 |f::fs,h=>by
  simp only[List.all_cons,Bool.and_eq_true] at h;obtain⟨i,hi⟩:=Option.isSome_iff_exists.1 h.1;simp[List.mapM_cons,hi,FV h.2,Bb]
theorem Ua {p q:Nat->Option (Nat × Nat)} (h:∀i,p i=q i)(cells:Array Value)(parts:List (Nat × Value)):Instr.fill p cells parts=Instr.fill q cells parts:=by
 have:p=q:=funext h;rw[this]
theorem OI (h:Cr N w0 X0 Y β s a w){t:TypeId}{ps:Array (Nat × Operand)} (ho:o.op=.build t ps){K:PV->Option R}
  (hk:(A9 (Og P t&&B2 P t)<|Gk P t fun z=>Rx (Po P t) (ps.toList.map fun q=>(q.1,Bz s.tm q.2)) z fun cs=>Na (Hl P t) cs 0 fun cs'=>K (.agg cs'))=some r):∃v,K v=some r∧D4 P a w o Y β s v [] []:=by
 obtain⟨Pm,hk⟩:=Al hk;simp only[Bool.and_eq_true] at Pm;obtain⟨Pm,Fn⟩:=Pm;obtain⟨z,cs,hk,hz,hct,hl,M3,hc⟩:=Nh hk;obtain⟨hzr,CH⟩:=PJ (w:=w) (A:=C7 s.hp β Y) (β:=β) hl hc hz;obtain⟨pc',vc',hk,hf,h2,Je,hr'⟩:=EG h hk hzr (fun c QP id Bj=>by rw[CH c QP] at Bj;cases Bj)
 obtain⟨qs,hk,hql,Yn,hq⟩:=Rt hk
 have Ara:P.built t (ps.toList.map fun q=>(q.1,a.eval q.2))=some vc':=by
  have hzi:∃i,P.info? t=some i∧i.zero=some z:=by
   unfold Nw at hz;cases hi:P.info? t with
   |none=>rw[hi] at hz;cases hz
   |some i=>rw[hi] at hz;exact⟨i,rfl,hz⟩
  obtain⟨i,hi,hzi⟩:=hzi;unfold Og at Pm;unfold Program.built;split at Pm
  ·rename_i fs hu
   have hf':Instr.fill (((fs.toList.map fun f=>(f.offset,Bb P f.type)).toArray)[·]?) z.cells (ps.toList.map fun q=>(q.1,a.eval q.2))=some vc':=by
    rw[←hf];refine Ua (fun j=>?_) _ _
    simp[Po,hu]
   simp only[hi,hu,hzi,FV Pm];exact hf'
  ·rename_i n e hu;obtain⟨ie,hie⟩:=Option.isSome_iff_exists.1 Pm
   have hf':Instr.fill (fun j=>some (j*ie.size,ie.size)) z.cells (ps.toList.map fun q=>(q.1,a.eval q.2))=some vc':=by
    rw[←hf];refine Ua (fun j=>?_) _ _
    simp[Po,hu,Bb,hie]
   simp only[hi,hu,hzi,hie];exact hf'
  ·rename_i e hu;simp[B2,hu] at Fn
  ·cases Pm
 refine⟨_,hk,B3 (val:=.agg vc') ?_ ⟨vc'.toList,rfl,?_⟩ ?_⟩
 ·unfold execOp;rw[ho];have:=run_build (P:=P) w t (ps.map fun q=>(q.1,a.eval q.2)) vc' (by simpa using Ara)
  simp[this]
 ·refine Be.of_at (by have:=h2.len;omega) fun j c u hcj hu=>?_
  obtain⟨p,hp,_,_,Yk⟩:=hq j c hcj;rw[Nat.zero_add] at hp;exact (Yk _ _ _ _ (h2.at_ hp hu)).1
 ·intro id Bj;obtain⟨c,QP,Bj⟩:=List.mem_flatMap.1 (show id∈qs.flatMap Ap from Bj)
  obtain⟨j,hj⟩:=List.mem_iff_getElem?.1 QP;obtain⟨p,hp,_,hpr,_⟩:=hq j c hj;rw[Nat.zero_add] at hp;exact hr' p (List.mem_of_getElem? hp) id (hpr id Bj)
end
open Go.RowKit
section
variable {R:Type} {r:R} {P:Program} {N:Nat} {w0:World} {X0:Hg} {Y:Nat->Prop} {β β':Bt} {s:St} {a:Act} {w w':World} {o:Oper} {A:Nat->Prop}
theorem TI (h:Cr N w0 X0 Y β s a w){fz:List Nat}(Xl:∀id∈fz,∃f c,s.hp id=some (.ar f c)) {id:Nat}(hm:id∈fz){f:Bool}{c:List PV}(hb:s.hp id=some (.ar f c)) {b ob:Nat}(hβ:β id=some (b,ob)):
  ¬C7 (Ag s.hp fz) β Y b∧SL w (C7 (Ag s.hp fz) β Y) ⟨b,ob,none⟩ c∧b<w.heap.size:=by
 have hf:=h.freeze Xl;have he:Ag s.hp fz id=some (.ar true c):=by rw[Bv,if_pos hm,hb];rfl
 rcases hf.box id _ he with⟨h1,_⟩|⟨b',o',h1,h2,_,h4⟩
 ·rw[hβ] at h1;cases h1
 ·rw[hβ] at h1;simp at h1;obtain⟨rfl,rfl⟩:=h1;exact⟨h4 rfl,h2,h.blt id b ob (by rw[hb];simp) hβ⟩
theorem ZR (h:Cr N w0 X0 Y β s a w){fz:List Nat}(Xl:∀id∈fz,∃f c,s.hp id=some (.ar f c)) {id es off n:Nat}(hm:id∈fz){f:Bool}{c:List PV}(hb:s.hp id=some (.ar f c)) {v:Value}
  (hv:B1 w (C7 s.hp β Y) β (.view id es off n) v):Aw w (C7 (Ag s.hp fz) β Y) (.lst false es n ((c.drop off).take (n*es))) v:=by
 rcases hv with⟨_,rfl,rfl,ad,rfl⟩|⟨b,ob,y,cap,hβ,rfl,hy,hn,_,B7⟩
 ·simp only[Nat.zero_mul,List.take_zero];cases ad with
  |none=>exact Aw.lnil false es
  |some p=>exact Aw.lemp es p 0
 ·obtain⟨h1,h2,_⟩:=TI h Xl hm hb hβ;by_cases Wz:n*es=0
  ·rw[Wz,List.take_zero];exact Aw.lst es n [] ⟨b,y,none⟩ cap (fun _=>undef) rfl B7 h1 hn (by simp) (by simp) (by simp)
  ·have hy:y=ob+off:=by
    rcases hy with hy|⟨h0,_⟩
    ·exact hy
    ·rw[h0] at Wz;simp at Wz
   subst hy
   have Cx:∀(j:Nat) q,((c.drop off).take (n*es))[j]?=some q->c[off+j]?=some q:=by
    intro j q hq;rw[List.getElem?_take] at hq;split at hq
    ·rw[List.getElem?_drop] at hq;exact hq
    ·cases hq
   refine Aw.lst es n _ ⟨b,ob+off,none⟩ cap (fun j=>(w.cell? ⟨b,ob+off+j,none⟩).getD undef) rfl B7 h1 hn (fun j q hq=>?_) (fun j q hq=>?_) (fun j q hq=>?_)
   ·obtain⟨v,hv,_⟩:=h2 _ q (Cx j q hq);rw[Eh,←Nat.add_assoc] at hv;rw[Eh,hv];rfl
   ·obtain⟨v,hv,h3,_⟩:=h2 _ q (Cx j q hq);rw[Eh,←Nat.add_assoc] at hv;rw[hv];exact h3
   ·obtain⟨v,hv,_,ht⟩:=h2 _ q (Cx j q hq);rw[Eh,←Nat.add_assoc] at hv;rw[hv];exact ht
theorem Aw.zf {A:Nat->Prop}{z:Bool}{es n:Nat}{c:List PV}{v:Value}(h:Aw w A (.lst z es n c) v):Aw w A (.lst false es n c) v:=by
 cases h with
 |lnil=>exact .lnil _ _
 |lemp=>exact .lemp _ _ _
 |lst _ _ _ a cap f hs hb hA hn hc h1 hr=>exact .lst _ _ _ a cap f hs hb hA hn hc h1 hr
theorem FH (h:Cr N w0 X0 Y β s a w){t:CT}{p:PV}{K:PV->List Nat->Option R}(hk:M8 (Ic s.hp) t p K=some r):
  ∃c m,K c m=some r∧Th c∧GQ p∧(∀id∈m,∃f cc,s.hp id=some (.ar f cc))∧∀fz:List Nat,(∀id∈m,id∈fz)->(∀id∈fz,∃f cc,s.hp id=some (.ar f cc))->∀v,B1 w (C7 s.hp β Y) β p v->Aw w (C7 (Ag s.hp fz) β Y) c v∧v.oneCell'=true:=by
 have tree:∀t',(X7 t' p fun c=>K c [])=some r->∃c m,K c m=some r∧Th c∧GQ p∧(∀id∈m,∃f cc,s.hp id=some (.ar f cc))∧∀fz:List Nat,(∀id∈m,id∈fz)->(∀id∈fz,∃f cc,s.hp id=some (.ar f cc))->∀v,B1 w (C7 s.hp β Y) β p v->Aw w (C7 (Ag s.hp fz) β Y) c v∧v.oneCell'=true:=by
  intro t' hk;obtain⟨c,hk,hT,FY,hv⟩:=Ly hk;refine⟨c,[],hk,hT,Pu FY,by simp,fun fz _ Xl v Yk=>?_⟩
  obtain⟨h1,h2⟩:=hv _ _ _ _ Yk;exact⟨h1.step (B8.refl _ _) (fun b _ hb=>hb.imp Pa id),h2⟩
 cases t with
 |sl es=>
  unfold M8 at hk;dsimp only at hk;split at hk
  ·rename_i id es' off n;cases hb:Nat.beq es' es
   ·rw[hb] at hk;cases hk
   ·rw[hb] at hk;have:=Nat.eq_of_beq_eq_true hb;subst this;obtain⟨c,hc,hk⟩:=B9 (show Cy _ _=some r from hk)
    obtain⟨_,hk⟩:=Al hk;obtain⟨f,Ku⟩:=LE hc;refine⟨_,[id],hk,trivial,trivial,?_,fun fz hm Xl v hv=>⟨ZR h Xl (hm id (by simp)) Ku hv,?_⟩⟩
    ·intro i hi;simp at hi;subst hi;exact⟨f,c,Ku⟩
    ·rcases hv with⟨_,_,_,_,rfl⟩|⟨_,_,_,_,_,rfl,_⟩<;>rfl
  ·obtain⟨z,n,c,hk,hp⟩:=E6 hk;refine⟨_,[],hk,trivial,?_,by simp,fun fz _ Xl v Yk=>?_⟩
   ·rcases hp with rfl|⟨rfl,_⟩<;>trivial
   ·have ht:=Ut hp Yk;refine⟨Aw.zf (ht.step (B8.refl _ _) (fun b _ hb=>hb.imp Pa id)),?_⟩
    cases ht<;>rfl
 |int k=>exact tree (.int k) hk
 |bool=>exact tree .bool hk
 |str=>exact tree .str hk
 |any=>exact tree .any hk
theorem Of (h:Cr N w0 X0 Y β s a w):∀{ts:List CT}{ps:List PV}{K:List PV->List Nat->Option R},Mz (Ic s.hp) ts ps K=some r ->
  ∃cs m,K cs m=some r∧cs.length=ts.length∧ps.length=ts.length∧(∀c∈cs,Th c)∧(∀p∈ps,GQ p)∧(∀id∈m,∃f cc,s.hp id=some (.ar f cc)) ∧
   ∀fz:List Nat,(∀id∈m,id∈fz)->(∀id∈fz,∃f cc,s.hp id=some (.ar f cc))->∀vs,Be (B1 w (C7 s.hp β Y) β) ps vs->Be (Aw w (C7 (Ag s.hp fz) β Y)) cs vs∧∀v∈vs,v.oneCell'=true
 |[],[],K,hk=>⟨[],[],hk,rfl,rfl,by simp,by simp,by simp,fun fz _ _ vs hv=>by
   cases vs with
   |nil=>exact⟨trivial,by simp⟩
   |cons v vs=>exact hv.elim⟩
 |[],_::_,K,hk=>by cases hk
 |_::_,[],K,hk=>by cases hk
 |t::ts,p::ps,K,hk=>by
  unfold Mz at hk;obtain⟨c,m,hk,hT,hF,hm,hv⟩:=FH h hk;obtain⟨cs,ms,hk,hl,Je,hTs,hFs,BO,Qx⟩:=Of h hk;refine⟨c::cs,m++ms,hk,by simp[hl],by simp[Je],?_,?_,?_,fun fz hfm Xl vs h2=>?_⟩
  ·intro x hx;rcases List.mem_cons.1 hx with rfl|hx
   ·exact hT
   ·exact hTs x hx
  ·intro x hx;rcases List.mem_cons.1 hx with rfl|hx
   ·exact hF
   ·exact hFs x hx
  ·intro x hx;rcases List.mem_append.1 hx with hx|hx
   ·exact hm x hx
   ·exact BO x hx
  ·cases vs with
   |nil=>exact h2.elim
   |cons v vs=>
    obtain⟨h3,h4⟩:=hv fz (fun i hi=>hfm i (by simp[hi])) Xl v h2.1
    obtain⟨h5,h6⟩:=Qx fz (fun i hi=>hfm i (by simp[hi])) Xl vs h2.2
    refine⟨⟨h3,h5⟩,?_⟩;intro x hx;rcases List.mem_cons.1 hx with rfl|hx
    ·exact h4
    ·exact h6 x hx
theorem Abz {R':PV->Value->Prop}{cs:List PV}{z:Array Value}(h:Be R' cs z.toList)(n:Nat):Be R' (Pz n cs) (madeCells z (n*cs.length)).toList:=by
 have hzl:z.size=cs.length:=by have:=h.len;simp at this;exact this.symm
 refine Be.of_at ?_ fun j c v hc hv=>?_
 ·rw[OZ];simp[size_madeCells]
 ·obtain⟨h1,h2⟩:=We hc
  have B7:j % cs.length<cs.length:=by
   rcases Nat.lt_or_ge (j % cs.length) cs.length with h|h
   ·exact h
   ·rw[List.getElem?_eq_none h] at h2;cases h2
  obtain⟨u,hu,hcu⟩:=h.get h2;have:(madeCells z (n*cs.length))[j]?=some u:=PH h1 (by rw[hzl];simpa using hu)
  have Np:(madeCells z (n*cs.length))[j]?=some v:=by simpa using hv
  rw[this] at Np;cases Np;exact hcu
theorem HR {A':Nat->Prop}:∀{ps cs:List PV}{vs:List Value},Be (B1 w (C7 s.hp β Y) β) ps vs->Be (Aw w A') cs vs->Be (Aw w A') (OO true ps cs) vs
 |[],_,_,_,h=>h
 |_::_,[],_,_,h=>h
 |p::ps,c::cs,[],_,h=>h.elim
 |p::ps,c::cs,v::vs,hp,h=>by
  refine⟨?_,HR hp.2 h.2⟩;split
  ·have h1:Aw w (C7 s.hp β Y) (.lst true _ 0 []) v:=hp.1;cases h1;exact .lnil true _
  ·exact h.1
theorem Yg (h:Cr N w0 X0 Y β s a w){nz:Bool}{t:TypeId}{n:Nat}{ps:Array (Nat × Operand)} (ho:o.op=.buildSlice t n ps){d:Nat}{K:PV->List Nat->List (Nat × Bo)->Option R}
  (hk:(match P.underlying t with
   |some (.slice e)=>A9 (Og P t&&Nat.ble (n*Bb P e) 16777216) (Gk P e fun z=>Rx (Po P t) (ps.toList.map fun q=>(q.1,Bz s.tm q.2)) (Pz n z) fun cs=>
     Mz (Ic s.hp) (List.replicate n (Hl P e)).flatten cs fun cs' m=>K (.view d (Bb P e) 0 n) m [(d,.ar false (bif nz then OO true cs cs' else cs'))])
   |_=>none)=some r):∃v fz nw,K v fz nw=some r∧D4 P a w o Y β s v fz nw:=by
 split at hk
 ·rename_i e hu;obtain⟨hb,hk⟩:=Al hk;simp only[Bool.and_eq_true] at hb;have Y0:n*Bb P e<=16777216:=Nat.le_of_ble_eq_true hb.2;have N3:(P.info? e).isSome=true:=by have:=hb.1;unfold Og at this;rw[hu] at this;exact this
  obtain⟨z,cs,hk,hz,hct,hl,M3,hc⟩:=Nh hk;obtain⟨hzr,CH⟩:=PJ (w:=w) (A:=C7 s.hp β Y) (β:=β) hl hc hz;have A0r:=Abz hzr n
  obtain⟨pc',vc',hk,hf,h2,Je,hr'⟩:=EG h hk A0r (fun c QP id Bj=>by
   obtain⟨j,hj⟩:=List.mem_iff_getElem?.1 QP;obtain⟨_,hg⟩:=We hj;rw[CH c (List.mem_of_getElem? hg)] at Bj;cases Bj)
  obtain⟨qs,m,hk,hql,Pm,hqT,_,hm,hqv⟩:=Of h hk;obtain⟨h3,h3'⟩:=hqv m (fun _ hi=>hi) hm _ h2
  have h3:Be (Aw w (C7 (Ag s.hp m) β Y)) (bif nz then OO true pc' qs else qs) vc'.toList:=by
   cases nz
   ·exact h3
   ·exact HR h2 h3
  have hf':Instr.fill (fun i=>some (i*Bb P e,Bb P e)) (madeCells z.cells (n*cs.length)) (ps.toList.map fun q=>(q.1,a.eval q.2))=some vc':=by
   rw[←hf];refine Ua (fun i=>?_) _ _
   simp[Po,hu]
  have hvl:vc'.size=n*Bb P e:=by
   have h4:=h2.len;rw[Je,OZ] at h4;simp at h4;rw[←h4,M3]
  have Cm:(execOp a.eval o).run P w=.ok (.value (.slice (some ⟨w.heap.size,0,none⟩) n n)) (w.alloc (.cells vc' e)):=by
   unfold execOp;rw[ho];have Avb:¬(n*Bb P e>2 ^ 24):=by omega
   rw[M3] at hf';by_cases Wz:n*Bb P e=0
   ·simp only[Instr.buildSlice,Sem.run_bind,run_underlying hu,Result.andThen_ok,Cp N3,if_neg Avb,Wz];rw[Wz] at hf';have e0:madeCells z.cells 0=(Array.range 0).map (fun _=>default):=by simp[madeCells]
    rw[e0] at hf';simp[hf',newRow]
   ·simp only[Instr.buildSlice,Sem.run_bind,run_underlying hu,Result.andThen_ok,Cp N3,if_neg Avb,if_neg Wz,Tp hz];unfold madeCells at hf';simp[hf',newRow]
  refine⟨_,_,_,hk,Ou (c:=vc') (e:=e) hm Cm (F2.alloc w vc' e) (fun j p hj=>?_) (.inr ⟨Bb P e,n,n,rfl,rfl,Nat.le_refl _,by rw[hvl];exact Nat.le_refl _,.inr (Js w vc' e)⟩)⟩
  obtain⟨u,H9,hp⟩:=h3.get hj;exact⟨u,by simpa using H9,h3' u (List.mem_of_getElem? H9),hp⟩
 ·cases hk
theorem LS (h:Cr N w0 X0 Y β s a w){t:TypeId}{x k:Operand}{ok:Bool}(ho:o.op=.lookup t x k ok){K:PV->Option R}
  (hk:(match P.underlying t with
   |some (.map kt vt)=>A9 (match P.underlying kt with|some .string=>true|_=>false) (
    match Bz s.tm x with
    |.sc (.map none)=>A0 (Bz s.tm k) fun _=>Cy (Nw P vt) fun z=>cvK P vt z fun v=>A9 (match v with | .tup _=>false|_=>true) (K (bif ok then .tup [v,.sc (.bool false)] else v))
    |_=>none)
   |_=>none)=some r):∃v,K v=some r∧D4 P a w o Y β s v [] []:=by
 split at hk
 ·rename_i kt vt hu;obtain⟨hkt,hk⟩:=Al hk
  have hkt:P.underlying kt=some .string:=by
   split at hkt
   ·assumption
   ·cases hkt
  split at hk
  ·rename_i hx;obtain⟨b,hkk,hk⟩:=Dk hk;obtain⟨z,hz,hk⟩:=B9 hk;obtain⟨v,hk,hr,hv⟩:=WS hk;obtain⟨UV,hk⟩:=Al hk
   have UV:∀cs,v ≠ .tup cs:=by
    rintro cs rfl
    cases UV
   have hzr:∀w:World,(zeroValue vt).run P w=.ok z w:=by
    intro w;unfold Nw at hz;cases hi:P.info? vt with
    |none=>rw[hi] at hz;cases hz
    |some i=>
     rw[hi] at hz;simp[zeroValue,typeInfo,hi,show i.zero=some z from hz]
   have Cm:(execOp a.eval o).run P w=.ok (.value (if ok then .tuple #[z,.bool false] else z)) w:=by
    unfold execOp;rw[ho];have hck:∀c (n:Nat),(Instr.checkKey c (n+1) kt (.string b)).run P w=.ok () w:=fun c n=>by simp[Instr.checkKey,run_underlying hkt]
    have GB:∀c,(Instr.checkKey c 10000 kt (.string b)).run P w=.ok () w:=fun c=>hck c 9999
    cases ok<;>simp[Instr.lookup,run_underlying hu,B6 h hx,B6 h hkk,GB,Instr.findKey,Instr.findNow,run_underlying hkt,hzr]
   refine⟨_,hk,B3 Cm ?_ ?_⟩
   ·cases ok
    ·exact hv _ _ _
    ·refine⟨[z,.bool false],rfl,(Nm UV).1 (hv _ _ _),?_,trivial⟩;exact Aw.sc _
   ·cases ok
    ·intro id Bj;simp only[cond_false] at Bj;rw[hr] at Bj;cases Bj
    ·intro id Bj;have:Bs (.tup [v,.sc (.bool false)])=Ca v++[]:=by simp[Bs,Ca,Ap]
     simp only[cond_true] at Bj;rw[this,List.append_nil] at Bj;have e:Ca v=Bs v:=by cases v<;>first|rfl|exact absurd rfl (UV _)
     rw[e,hr] at Bj;cases Bj
  ·cases hk
 ·cases hk
end
end
end Go.Proofs.YtodnjibebeghjaaDoor.Pv
