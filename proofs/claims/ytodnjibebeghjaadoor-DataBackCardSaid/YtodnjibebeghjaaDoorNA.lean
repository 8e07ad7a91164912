/-
  The proof of DataBack, part 1.
-/
import Derived.Orders
import Derived.LoopN
import Derived.Below
import Derived.Laws.Cover4
import Derived.Lib.ValidU
import Derived.Lib.Bytealg
import Derived.IntWalk
import Derived.WalkKit
import Derived.WalkLawsBesides
import Derived.Laws.IdiomStrings
import Derived.Laws.MakeOwn
import Derived.Laws.Tables
set_option linter.unusedSimpArgs false
set_option linter.unusedVariables false
namespace Go.Proofs.YtodnjibebeghjaaDoor.Pv
section
inductive PV where
 |sc (v:Value)
 |lst (z:Bool) (es n:Nat) (cells:List PV)
 |own (es n:Nat) (cells:List PV)
 |view (id es off n:Nat)
 |ptr (id off:Nat)
 |iptr (cells:List PV) (off:Nat)
 |pbox (cells:List PV)
 |agg (cells:List PV)
 |tup (vs:List PV)
 |top
 |ub
inductive Bl where
 |st (cells:List PV)
 |ar (fz:Bool) (cells:List PV)
 |mv
structure St where
 tm:Nat->PV
 hp:Nat->Option Bl
structure Ay where
 vals:List PV
 outs:List (List PV)
structure F4 where
 shr:FuncId->Bool
 mvd:FuncId->Nat->Bool
 lnd:FuncId->Nat->Bool
 kz:FuncId->Bool
 ext:FuncId->Option (List PV->Option Ay)
 nz:Nat->Bool
def F4.core (C:F4):F4:={ C with ext:=fun _=>none }
def Ch {α:Type}(f:Nat->α)(i:Nat)(v:α):Nat->α:=fun j=>bif Nat.beq j i then v else f j
def rd (hp:Nat->Option Bl)(id:Nat):Option (List PV):=
 match hp id with
 |some (.st c)=>some c
 |some (.ar _ c)=>some c
 |_=>none
def Hq (hp:Nat->Option Bl)(id:Nat):Option (List PV):=
 match hp id with
 |some (.ar _ c)=>some c
 |_=>none
inductive CT where
 |int (k:IntKind)
 |bool
 |str
 |sl (es:Nat)
 |any
def A8 (P:Program)(t:TypeId):Nat:=((P.info? t).map (·.size)).getD 0
def B4 (P:Program)(t:TypeId):Bool:=
 match P.underlying t with
 |some (.struct _)=>true
 |some (.array _ _)=>true
 |_=>false
def Aos (P:Program):Nat->TypeId->List CT
 |0,_=>[]
 |d+1,t=>
  match P.underlying t with
  |some (.int k)=>[.int k]
  |some .bool=>[.bool]
  |some .string=>[.str]
  |some (.slice e)=>[.sl (A8 P e)]
  |some (.struct fs)=>fs.toList.flatMap fun f=>Aos P d f.type
  |some (.array n e)=>(List.replicate n (Aos P d e)).flatten
  |_=>[.any]
abbrev G1 (P:Program)(t:TypeId):List CT:=Aos P 9 t
def Hd (P:Program)(t:TypeId):Bool:=(P.underlying t).isSome&&Nat.beq (G1 P t).length (A8 P t)
abbrev A2k (k:IntKind)(a b:Int):Int:=k.wrap (BitVec.ofInt k.bits a &&& BitVec.ofInt k.bits b).toNat
abbrev ior (k:IntKind)(a b:Int):Int:=k.wrap (BitVec.ofInt k.bits a ||| BitVec.ofInt k.bits b).toNat
abbrev Fo (k:IntKind)(a b:Int):Int:=k.wrap (BitVec.ofInt k.bits a ^^^ BitVec.ofInt k.bits b).toNat
abbrev Ajm (k:IntKind)(a b:Int):Int:=k.wrap (BitVec.ofInt k.bits a &&& ~~~BitVec.ofInt k.bits b).toNat
abbrev La (k:IntKind)(a b:Int):Int:=k.wrap (a*2 ^ (min b.toNat k.bits))
abbrev FK (k:IntKind)(a b:Int):Int:=a.fdiv (2 ^ (min b.toNat k.bits))
abbrev Auh (k:IntKind)(n:Int):Int:=k.wrap (BitVec.ofInt k.bits (if k.signed then -1 else k.max) ^^^ BitVec.ofInt k.bits n).toNat
section
variable {R:Type}
def Ak (k:IntKind)(p:PV)(K:Int->Option R):Option R:=
 match p with
 |.sc (.int k' n)=>if k'=k then K n else none
 |_=>none
def Ao (p:PV)(K:Bool->Option R):Option R:=
 match p with
 |.sc (.bool b)=>K b
 |_=>none
def Az (p:PV)(K:ByteArray->Option R):Option R:=
 match p with
 |.sc (.string s)=>K s
 |_=>none
def Ke (es:Nat)(p:PV)(K:Bool->Nat->List PV->Option R):Option R:=
 match p with
 |.lst z es' n c=>bif Nat.beq es' es then K z n c else none
 |.sc (.slice none 0 0)=>K true 0 []
 |_=>none
def fsK (es:Nat)(p:PV)(K:PV->Option R):Option R:=
 match p with
 |.view id es' off n=>bif Nat.beq es' es then K (.view id es off n) else none
 |p=>Ke es p fun z n c=>K (.lst z es n c)
def FE (es:Nat)(p:PV)(K:Nat->List PV->Option R):Option R:=
 match p with
 |.own es' n c=>bif Nat.beq es' es then K n c else none
 |_=>none
def Be (b:Bool)(K:Option R):Option R:=bif b then K else none
abbrev Ac {α:Type}(x:α)(K:α->Option R):Option R:=K x
def NW (b:Bool)(x y:Option R):Option R:=bif b then x else y
abbrev A38 (x:Nat)(K:Nat->Option R):Option R:=K x
def Alk (x:List (List Nat)) (K:List (List Nat)->Option R):Option R:=K x
def Bf (b:Bool)(x y:Option R):Option R:=bif b then x else y
def Do {α:Type}(o:Option α)(K:α->Option R):Option R:=
 match o with
 |some a=>K a
 |none=>none
def Aa {α:Type}(l:List α)(K:α->List α->Option R):Option R:=
 match l with
 |a::r=>K a r
 |[]=>none
def Ad {α:Type}(l:List α)(K:Option R):Option R:=
 match l with
 |[]=>K
 |_::_=>none
def E3 (p:PV)(K:List PV->Option R):Option R:=
 match p with
 |.agg c=>K c
 |_=>none
def Si (p:PV)(K:List PV->Option R):Option R:=
 match p with
 |.pbox c=>K c
 |_=>none
def Ah (r:Option Ay)(K:List PV->List (List PV)->Option R):Option R:=
 match r with
 |some ⟨v,o⟩=>K v o
 |none=>none
def fnK (p:PV)(K:Value->Option R):Option R:=
 match p with
 |.sc (.func f a b)=>K (.func f a b)
 |.sc (.map none)=>K (.map none)
 |_=>none
def fvK (p:PV)(K:FuncId->Option R):Option R:=
 match p with
 |.sc (.func (.func f) a b)=>bif a.isEmpty&&b.isEmpty then K f else none
 |_=>none
def Xg (t:CT)(p:PV)(K:PV->Option R):Option R:=
 match t with
 |.int k=>Ak k p fun n=>K (.sc (.int k n))
 |.bool=>Ao p fun b=>K (.sc (.bool b))
 |.str=>Az p fun s=>K (.sc (.string s))
 |.sl es=>Ke es p fun z n c=>K (.lst z es n c)
 |.any=>fnK p fun v=>K (.sc v)
def fcK (t:CT)(p:PV)(K:PV->Option R):Option R:=
 match t with
 |.sl es=>fsK es p K
 |t=>Xg t p K
def Pb:List CT->List PV->Nat->(List PV->Option R)->Option R
 |[],_,_,K=>K []
 |t::ts,cells,off,K=>Xg t (cells.getD off .top) fun c=>Pb ts cells (off+1) fun r=>K (c::r)
def Lr:List CT->List PV->Nat->(List PV->Option R)->Option R
 |[],_,_,K=>K []
 |t::ts,cells,off,K=>fcK t (cells.getD off .top) fun c=>Lr ts cells (off+1) fun r=>K (c::r)
def YF (agg:Bool)(cells:List PV)(K:PV->Option R):Option R:=
 bif agg then K (.agg cells) else Aa cells fun c r=>Ad r (K c)
def cellsOf:PV->List PV
 |.agg c=>c
 |p=>[p]
def cvK (P:Program)(t:TypeId)(v:Value)(K:PV->Option R):Option R:=
 match v with
 |.agg cs=>Be (Nat.beq cs.toList.length (G1 P t).length) (Pb (G1 P t) (cs.toList.map .sc) 0 fun c=>K (.agg c))
 |.slice none 0 0=>
  match P.underlying t with
  |some (.slice e)=>K (.lst true (A8 P e) 0 [])
  |_=>none
 |v=>K (.sc v)
end
def Bz (tm:Nat->PV):Operand->PV
 |.tmp t=>tm t
 |.const (.agg cs)=>.agg (cs.toList.map .sc)
 |.const v=>.sc v
 |.func f=>.sc (.func (.func f) #[] #[])
 |.global g=>.sc (.pointer (some ⟨g,0,none⟩))
section
variable {R:Type}
def Df (p:PV)(K:IntKind->Int->Option R):Option R:=
 match p with
 |.sc (.int k n)=>K k n
 |_=>none
def OY (rdf:Nat->Option (List PV)) (es:Nat)(p:PV)(K:Nat->List PV->Option R):Option R:=
 match p with
 |.view id es' off n=>bif Nat.beq es' es then Do (rdf id) fun c=>Be (decide (off+n*es<=c.length)) (K n ((c.drop off).take (n*es))) else none
 |p=>Ke es p fun _ n c=>K n c
def Ls (rdf:Nat->Option (List PV)) (t:CT)(p:PV)(K:PV->List Nat->Option R):Option R:=
 match t with
 |.sl es=>
  match p with
  |.view id es' off n=>bif Nat.beq es' es then Do (rdf id) fun c=>Be (decide (off+n*es<=c.length)) (K (.lst false es n ((c.drop off).take (n*es))) [id]) else none
  |p=>Ke es p fun _ n c=>K (.lst false es n c) []
 |t=>Xg t p fun c=>K c []
def Le (rdf:Nat->Option (List PV)):List CT->List PV->(List PV->List Nat->Option R)->Option R
 |[],[],K=>K [] []
 |t::ts,p::ps,K=>Ls rdf t p fun c m=>Le rdf ts ps fun cs ms=>K (c::cs) (m++ms)
 |_,_,_=>none
def NS (k:Bool):List PV->List PV->List PV
  |p::ps,c::cs=>
    (match k,p with
     |true,.lst true es 0 []=>.lst true es 0 []
     |_,_=>c)::NS k ps cs
  |_,cs=>cs
def WD (P:Program)(rdf:Nat->Option (List PV)) (t:TypeId)(p:PV)(K:PV->List Nat->Option R):Option R:=
 bif B4 P t then E3 p fun ps=>Le rdf (G1 P t) ps fun cs m=>K (.agg cs) m
 else Le rdf (G1 P t) [p] fun cs m=>Aa cs fun c r=>Ad r (K c m)
def DQ (P:Program)(rdf:Nat->Option (List PV)):List TypeId->List PV->(List PV->List Nat->Option R)->Option R
 |[],[],K=>K [] []
 |t::ts,p::ps,K=>WD P rdf t p fun v m=>DQ P rdf ts ps fun vs ms=>K (v::vs) (m++ms)
 |_,_,_=>none
def Afx (shr:Bool)(id:Nat)(t:CT)(p:PV)(K:PV->List (Nat × Bl)->Option R):Option R:=
 match t with
 |.sl es=>bif shr then Ke es p fun _ n c=>K (.lst false es n c) [] else FE es p fun n c=>K (.view id es 0 n) [(id,.ar false c)]
 |t=>Xg t p fun c=>K c []
def Nr (shr:Bool)(N:Nat):Nat->List CT->List PV->(List PV->List (Nat × Bl)->Option R)->Option R
 |_,[],ps,K=>Ad ps (K [] [])
 |id,t::ts,ps,K=>Aa ps fun p ps=>Afx shr id t p fun c b=>Nr shr N (id+N) ts ps fun cs bs=>K (c::cs) (b++bs)
def V2 (P:Program)(t:TypeId):Option TypeId:=
 match P.underlying t with
 |some (.pointer e)=>some e
 |_=>none
def OH (P:Program)(t:TypeId):Nat:=
 match V2 P t with
 |some e=>1+(G1 P e).length
 |none=>(G1 P t).length
def ZW (P:Program)(shr:Bool)(N:Nat)(id:Nat)(t:TypeId)(p:PV)(K:PV->List (Nat × Bl)->Option R):Option R:=
 match V2 P t with
 |some e=>Si p fun ps=>Nr shr N (id+N) (G1 P e) ps fun cs bs=>K (.ptr id 0) ((id,.st cs)::bs)
 |none=>
 bif B4 P t then E3 p fun ps=>Nr shr N id (G1 P t) ps fun cs bs=>K (.agg cs) bs
 else Nr shr N id (G1 P t) [p] fun cs bs=>Aa cs fun c r=>Ad r (K c bs)
def Yp (P:Program)(shr:Bool)(N:Nat):Nat->List TypeId->List PV->(List PV->List (Nat × Bl)->Option R)->Option R
 |_,[],ps,K=>Ad ps (K [] [])
 |id,t::ts,ps,K=>Aa ps fun p ps=>ZW P shr N id t p fun v bs=>Yp P shr N (id+N*OH P t) ts ps fun vs bs'=>K (v::vs) (bs++bs')
def K0 (P:Program)(t:TypeId):List TypeId:=
 match P.underlying t with
 |some (.tuple ts)=>ts.toList
 |_=>[t]
def Ky (vs:List PV)(t:Bool):PV:=bif t then .tup vs else vs.headD .top
def L7 (P:Program)(t:TypeId):Bool:=
 match P.underlying t with
 |some (.tuple _)=>true
 |_=>false
def Aic (op:BinOp)(a b:Int)(K:Bool->Option R):Option R:=
 match op with
 |.eql=>K (a==b)
 |.neq=>K (a != b)
 |.lss=>K (decide (a<b))
 |.leq=>K (decide (a<=b))
 |.gtr=>K (decide (a>b))
 |.geq=>K (decide (a>=b))
 |_=>none
def EC (op:BinOp)(k:IntKind)(a b:Int)(K:PV->Option R):Option R:=
 match op with
 |.add=>Ac ((k.wrap (a+b))) fun n=>K (.sc (.int k n))
 |.sub=>Ac ((k.wrap (a-b))) fun n=>K (.sc (.int k n))
 |.mul=>Ac ((k.wrap (a*b))) fun n=>K (.sc (.int k n))
 |.quo=>Be (decide (b≠0)) (Ac ((k.wrap (a.tdiv b))) fun n=>K (.sc (.int k n)))
 |.rem=>Be (decide (b≠0)) (Ac ((a.tmod b)) fun n=>K (.sc (.int k n)))
 |.and=>Ac (A2k k a b) fun n=>K (.sc (.int k n))
 |.or=>Ac (ior k a b) fun n=>K (.sc (.int k n))
 |.xor=>Ac (Fo k a b) fun n=>K (.sc (.int k n))
 |.andNot=>Ac (Ajm k a b) fun n=>K (.sc (.int k n))
 |op=>Aic op a b fun r=>K (.sc (.bool r))
def BD (op:BinOp)(x y:ByteArray)(K:PV->Option R):Option R:=
 match op with
 |.add=>Be (decide (x.size+y.size<=9223372036854775807)) (Ac (x++y) fun s=>K (.sc (.string s)))
 |.eql=>K (.sc (.bool (x.data.toList==y.data.toList)))
 |.neq=>K (.sc (.bool !(x.data.toList==y.data.toList)))
 |.lss=>K (.sc (.bool (Op.bytesLess x.data.toList y.data.toList)))
 |.leq=>K (.sc (.bool (Op.bytesLess x.data.toList y.data.toList||x.data.toList==y.data.toList)))
 |.gtr=>K (.sc (.bool !(Op.bytesLess x.data.toList y.data.toList||x.data.toList==y.data.toList)))
 |.geq=>K (.sc (.bool !(Op.bytesLess x.data.toList y.data.toList)))
 |_=>none
def CS (e:Bool)(p:PV)(K:PV->Option R):Option R:=
 match p with
 |.sc (.slice none 0 0)=>K (.sc (.bool e))
 |.lst z _ n _=>Bf z (K (.sc (.bool e))) (Bf (decide (0<n)) (K (.sc (.bool !e))) (K .ub))
 |.view _ _ _ n=>Bf (decide (0<n)) (K (.sc (.bool !e))) (K .ub)
 |_=>none
def OZ (P:Program):List Field->Nat->Bool
 |[],_=>true
 |f::r,i=>Nat.beq f.offset i&&(f.name != "_")&&(match P.underlying f.type with|some (.int _)=>true|some .bool=>true|some .string=>true|_=>false)&&OZ P r (i+1)
def Kz (P:Program):List Field->Nat->Bool
  |[],_=>true
  |f::r,i=>Nat.beq f.offset i&&(f.name != "_") &&
    (match P.underlying f.type with
     |some (.int _)=>Kz P r (i+1)
     |some .bool=>Kz P r (i+1)
     |some .string=>Kz P r (i+1)
     |some (.struct gs)=>OZ P gs.toList 0 && !P.stoodInHeld f.type&&(P.info? f.type).isSome&&Nat.beq (A8 P f.type) gs.size&&Kz P r (i+gs.size)
     |_=>false)
def LV (P:Program)(t:TypeId)(fs:Array Field):Bool:=Kz P fs.toList 0 && !P.stoodInHeld t && !P.eqGuardType P.depth t
def fty (P:Program)(f:Field):CT:=
 match P.underlying f.type with
 |some (.int k)=>.int k
 |some .bool=>.bool
 |some .string=>.str
 |_=>.any
def NI (P:Program)(f:Field):List CT:=
 match P.underlying f.type with
 |some (.struct gs)=>gs.toList.map (fty P)
 |_=>[fty P f]
def Sa (P:Program):List Field->List CT
 |[]=>[]
 |f::r=>NI P f++Sa P r
def Ji:List CT->List PV->List PV->(Bool->Option R)->Option R
 |[],[],[],K=>K true
 |.int k::ts,p::ps,q::qs,K=>Ak k p fun a=>Ak k q fun b=>Ji ts ps qs fun r=>K ((a==b)&&r)
 |.bool::ts,p::ps,q::qs,K=>Ao p fun a=>Ao q fun b=>Ji ts ps qs fun r=>K ((a==b)&&r)
 |.str::ts,p::ps,q::qs,K=>Az p fun a=>Az q fun b=>Ji ts ps qs fun r=>K ((a==b)&&r)
 |_,_,_,_=>none
def Acx (P:Program)(op:BinOp)(t:TypeId)(x y:PV)(K:PV->Option R):Option R:=
 match P.underlying t with
 |some (.int k)=>
  match op with
  |.shl=>Ak k x fun a=>Df y fun _ b=>Be (decide (0<=b)) (Ac (La k a b) fun n=>K (.sc (.int k n)))
  |.shr=>Ak k x fun a=>Df y fun _ b=>Be (decide (0<=b)) (Ac (FK k a b) fun n=>K (.sc (.int k n)))
  |op=>Ak k x fun a=>Ak k y fun b=>EC op k a b K
 |some .string=>Az x fun a=>Az y fun b=>BD op a b K
 |some .bool=>
  match op with
  |.eql=>Ao x fun a=>Ao y fun b=>K (.sc (.bool (a==b)))
  |.neq=>Ao x fun a=>Ao y fun b=>K (.sc (.bool !(a==b)))
  |_=>none
 |some (.slice _)=>
  match op,y with
  |.eql,.sc (.slice none 0 0)=>CS true x K
  |.neq,.sc (.slice none 0 0)=>CS false x K
  |_,_=>none
 |some (.map _ _)=>
  match op,x,y with
  |.eql,.sc (.map none),.sc (.map none)=>K (.sc (.bool true))
  |.neq,.sc (.map none),.sc (.map none)=>K (.sc (.bool false))
  |_,_,_=>none
 |_=>none
def Rj (P:Program)(op:BinOp)(t:TypeId)(x y:PV)(K:PV->Option R):Option R:=
 match P.underlying t with
 |some (.struct fs)=>
  match op with
  |.eql=>Be (LV P t fs) (E3 x fun xs=>E3 y fun ys=>Ji (Sa P fs.toList) xs ys fun b=>K (.sc (.bool b)))
  |.neq=>Be (LV P t fs) (E3 x fun xs=>E3 y fun ys=>Ji (Sa P fs.toList) xs ys fun b=>K (.sc (.bool !b)))
  |_=>none
 |_=>Acx P op t x y K
def unK (op:UnOp)(x:PV)(K:PV->Option R):Option R:=
 match op with
 |.not=>Ao x fun b=>K (.sc (.bool !b))
 |.neg=>Df x fun k n=>Ac (k.wrap (0-n)) fun n=>K (.sc (.int k n))
 |.xor=>Df x fun k n=>Ac (Auh k n) fun n=>K (.sc (.int k n))
 |_=>none
def Ix:List PV->Option (List UInt8)
 |[]=>some []
 |.sc (.int .u8 n)::r=>(Ix r).map (n.toNat.toUInt8 :: ·)
 |_::_=>none
def Ra:List PV->Option (List Int)
 |[]=>some []
 |.sc (.int .i32 n)::r=>(Ra r).map (n :: ·)
 |_::_=>none
def Nu (s:ByteArray):List PV:=s.data.toList.map fun b=>.sc (.int .u8 b.toNat)
def DJ (P:Program)(rdf:Nat->Option (List PV)) (d:Nat)(src dst:TypeId)(x:PV)(K:PV->List (Nat × Bl)->Option R):Option R:=
 match P.underlying dst with
 |some (.int k)=>Be (P.underlying src).isSome (Df x fun _ n=>Ac (k.wrap n) fun n=>K (.sc (.int k n)) [])
 |some .string=>
  match P.underlying src with
  |some .string=>Az x fun s=>K (.sc (.string s)) []
  |some (.slice e)=>
   match P.underlying e with
   |some (.int .u8)=>OY rdf 1 x fun n c=>Be (decide (c.length=n)) (Do (Ix c) fun b=>K (.sc (.string ⟨b.toArray⟩)) [])
   |some (.int .i32)=>OY rdf 1 x fun n c=>Be (decide (c.length=n)) (Do (Ra c) fun ns=>Ac (runesBytes ns) fun s=>K (.sc (.string s)) [])
   |_=>none
  |_=>none
 |some (.slice e)=>
  match P.underlying e,P.underlying src with
  |some (.int .u8),some .string=>Az x fun s=>Be (decide (s.size<=1099511627776)) (K (.view d 1 0 s.size) [(d,.ar false (Nu s))])
  |_,_=>none
 |_=>none
def F2 (p:Option PV)(dflt:Nat)(K:Nat->Option R):Option R:=
 match p with
 |none=>K dflt
 |some p=>Df p fun _ i=>Be (decide (0<=i)) (K i.toNat)
def Ya (P:Program)(rdf:Nat->Option (List PV)) (t:TypeId)(x:PV)(lo hi:Option PV)(K:PV->Option R):Option R:=
 match P.underlying t with
 |some .string=>Az x fun s=>F2 lo 0 fun l=>F2 hi s.size fun h=>Be (decide (l<=h)&&decide (h<=s.size)) (Ac (s.extract l h) fun s=>K (.sc (.string s)))
 |some (.slice e)=>Be (P.info? e).isSome (
  match x with
  |.view id es off n=>Be (Nat.beq es (A8 P e)) (F2 lo 0 fun l=>F2 hi n fun h=>Be (decide (l<=h)&&decide (h<=n)) (Ac (off+l*es) fun o=>Ac (h-l) fun n=>K (.view id es o n)))
  |x=>Ke (A8 P e) x fun z n c=>F2 lo 0 fun l=>F2 hi n fun h=>Be (decide (l<=h)&&decide (h<=n)) (Ac (h-l) fun n=>Ac ((c.drop (l*A8 P e)).take (n*A8 P e)) fun c=>K (.lst z (A8 P e) n c)))
 |some (.array n e)=>Be (P.info? e).isSome (
  match x with
  |.ptr id off=>Do (rdf id) fun c=>Be (decide (1<=n*A8 P e)&&decide (off+n*A8 P e<=c.length)&&Nat.beq (A8 P e) 1)<|F2 lo 0 fun l=>F2 hi n fun h=>Be (decide (l<=h)&&decide (h<=n)) (Ac (off+l*A8 P e) fun o=>Ac (h-l) fun n=>K (.view id (A8 P e) o n))
  |_=>none)
 |_=>none
def Rh (P:Program)(d:Nat)(t:TypeId)(x:PV)(lo hi mx:Option PV)(K:PV->List (Nat × Bl)->Option R):Option R:=
 match P.underlying t with
 |some (.slice e)=>Be ((P.info? e).isSome&&hi.isSome) (
  match x with
  |.view _ es _ n=>Be (Nat.beq es (A8 P e)) (F2 lo 0 fun l=>F2 hi n fun h=>F2 mx n fun m=>Be (Nat.beq l m&&Nat.beq h m&&decide (m<=n)) (K (.view d (A8 P e) 0 0) [(d,.ar false [])]))
  |x=>Ke (A8 P e) x fun _ n _=>F2 lo 0 fun l=>F2 hi n fun h=>F2 mx n fun m=>Be (Nat.beq l m&&Nat.beq h m&&decide (m<=n)) (K (.view d (A8 P e) 0 0) [(d,.ar false [])]))
 |_=>none
def Qs (x:PV)(d:Nat)(K:PV->Option R):Option R:=
 match x with
 |.ptr id off=>K (.ptr id (off+d))
 |.iptr c off=>K (.iptr c (off+d))
 |_=>none
def DI (P:Program)(e:TypeId):Bool:=(P.info? e).isSome
def Mx (P:Program)(t:TypeId)(f:Nat):Option (Nat × TypeId):=
 match P.underlying t with
 |some (.struct fs)=>(fs[f]?).map fun g=>(g.offset,g.type)
 |_=>none
def Ip (P:Program)(t:TypeId)(x:PV)(i:Int)(K:PV->Option R):Option R:=
 match P.underlying t with
 |some (.array n e)=>Be (DI P e) (Be (decide (0<=i)&&decide (i<n)) (Qs x (i.toNat*A8 P e) K))
 |some (.slice e)=>Be (DI P e) (
  match x with
  |.view id es off n=>Be (Nat.beq es (A8 P e)) (Be (decide (0<=i)&&decide (i<n)) (K (.ptr id (off+i.toNat*es))))
  |x=>Ke (A8 P e) x fun _ n c=>Be (decide (0<=i)&&decide (i<n)) (K (.iptr c (i.toNat*A8 P e))))
 |_=>none
def Sn (P:Program)(rdf:Nat->Option (List PV)) (t:TypeId)(x:PV)(K:PV->Option R):Option R:=
 match x with
 |.ptr id off=>Be (Hd P t) (Do (rdf id) fun c=>Lr (G1 P t) c off fun cs=>YF (B4 P t) cs K)
 |.iptr c off=>Be (Hd P t) (Pb (G1 P t) c off fun cs=>YF (B4 P t) cs K)
 |_=>none
def MD:PV->PV
 |.lst _ es n c=>.lst false es n c
 |p=>p
def UO:PV->PV
 |.agg cs=>.agg (cs.map MD)
 |p=>MD p
def Vh (nz:Bool)(P:Program)(rdf rdaf:Nat->Option (List PV)) (t:TypeId)(x:PV)(K:PV->Option R):Option R:=
 match x with
 |.ptr id off=>Be (Hd P t) (
  match rdaf id with
  |some c=>Pb (G1 P t) c off fun cs=>YF (B4 P t) cs fun v=>K (bif nz then v else UO v)
  |none=>Do (rdf id) fun c=>Lr (G1 P t) c off fun cs=>YF (B4 P t) cs K)
 |.iptr c off=>Be (Hd P t) (Pb (G1 P t) c off fun cs=>YF (B4 P t) cs fun v=>K (bif nz then v else UO v))
 |_=>none
def Ca (cells new:List PV)(off:Nat):List PV:=cells.take off++new++cells.drop (off+new.length)
def okP:PV->Bool
 |.agg _=>true
 |.lst _ _ _ _=>true
 |.view _ _ _ _=>true
 |.sc (.int _ _)=>true
 |.sc (.bool _)=>true
 |.sc (.string _)=>true
 |.sc (.slice none 0 0)=>true
 |_=>false
def Pj (F5:Nat->Option (Nat × Nat)):List (Nat × PV)->List PV->(List PV->Option R)->Option R
 |[],cells,K=>K cells
 |(i,p)::r,cells,K=>Do (F5 i) fun q=>Be (okP p&&Nat.beq (cellsOf p).length q.2&&Nat.ble (q.1+q.2) cells.length) (Ac (Ca cells (cellsOf p) q.1) fun cells=>Pj F5 r cells K)
def Oq (P:Program)(t:TypeId)(i:Nat):Option (Nat × Nat):=
 match P.underlying t with
 |some (.struct fs)=>(fs[i]?).map fun f=>(f.offset,A8 P f.type)
 |some (.array _ e)=>some (i*A8 P e,A8 P e)
 |some (.slice e)=>some (i*A8 P e,A8 P e)
 |_=>none
def Nb (P:Program)(t:TypeId):Bool:=
 match P.underlying t with
 |some (.struct fs)=>fs.toList.all fun f=>DI P f.type
 |some (.array _ e)=>DI P e
 |some (.slice e)=>DI P e
 |_=>false
def Ml (P:Program)(t:TypeId):Option Value:=(P.info? t).bind (·.zero)
def F6 (P:Program)(t:TypeId)(K:List PV->Option R):Option R:=
 Do (Ml P t) fun v=>Be (Nat.beq v.cells.toList.length (G1 P t).length&&Hd P t) (Pb (G1 P t) (v.cells.toList.map .sc) 0 K)
def Pk (P:Program)(t:TypeId):Bool:=
 match P.underlying t with
 |some (.array _ _)=>true
 |_=>false
def Afm (P:Program)(t:TypeId)(cells:List PV):Bl:=bif Pk P t then .ar false cells else .st cells
def Om (n:Nat)(l:List PV):List PV:=(List.replicate n l).flatten
def Aji (a b:PV)(K:PV->Option R):Option R:=Df a fun k x=>Ak k b fun y=>Ac (if y<x then y else x) fun n=>K (.sc (.int k n))
def Ai7 (a b:PV)(K:PV->Option R):Option R:=Df a fun k x=>Ak k b fun y=>Ac (if x<y then y else x) fun n=>K (.sc (.int k n))
def Abi (P:Program)(t:TypeId)(x:PV)(K:Nat->Option R):Option R:=
 match P.underlying t with
 |some .string=>Az x fun s=>K s.size
 |some (.array n _)=>K n
 |some (.slice e)=>
  match x with
  |.view _ es _ n=>Be (Nat.beq es (A8 P e)) (K n)
  |x=>Ke (A8 P e) x fun _ n _=>K n
 |_=>none
end
abbrev Ax:=FuncId->List PV->Option Ay
section
variable {R:Type}
def H3 (P:Program)(ts:List TypeId):Bool:=ts.any fun t=>(V2 P t).isSome||(G1 P t).any fun c=>match c with | .sl _=>true|_=>false
def Xt (P:Program)(t:TypeId)(tm:Nat->PV)(x:Operand)(K:PV->Option R):Option R:=
 match x with
 |.const v=>cvK P t v K
 |x=>K (Bz tm x)
def KH (P:Program)(e:TypeId):Bool:=
 match P.info? e with
 |some i=>(match i.zero with|some z=>Nat.beq z.cells.size i.size|none=>false)
 |none=>false
def VA (P:Program)(rdaf:Nat->Option (List PV)) (es:Nat)(t:TypeId)(x:PV)(K:Nat->List PV->Option R):Option R:=
 match P.underlying t with
 |some .string=>Be (Nat.beq es 1) (Az x fun b=>K b.size (Nu b))
 |some (.slice _)=>OY rdaf es x K
 |_=>none
abbrev SE (P:Program)(s:St)(es:Nat)(t:TypeId)(x:PV)(K:Nat->List PV->Option R):Option R:=VA P (Hq s.hp) es t x K
def U9 (c:Call):Bool:=
 match c.args.toList with
 |.const (.slice none 0 0)::_=>true
 |_=>false
def Qy (P:Program)(rdaf:Nat->Option (List PV)) (d:Nat)(t tx:TypeId)(x:PV)(K:PV->List (Nat × Bl)->Option R):Option R:=
 match P.underlying t with
 |some (.slice e)=>Be (KH P e) <|
  VA P rdaf (A8 P e) tx x fun m new=>
   Be (decide (new.length=m*A8 P e)&&decide (m*((P.info? e).map (·.bytes)).getD 0<=1099511627776)&&decide (m<=1099511627776)) (K (.view d (A8 P e) 0 m) [(d,.ar false new)])
 |_=>none
def Hu (k:Bool):List Operand->List PV->List PV
  |x::xs,p::ps=>
    (match x,p with
     |.const (.slice none 0 0),.lst z es 0 []=>.lst (k||z) es 0 []
     |_,p=>p)::Hu k xs ps
  |_,ps=>ps
def Aba (P:Program)(t:TypeId)(x:PV)(K:Nat->Option R):Option R:=
 match P.underlying t with
 |some (.slice e)=>Ke (A8 P e) x fun z _ _=>Be z (K 0)
 |_=>none
def BN (P:Program)(f:FuncId)(c:Call):List TypeId:=
 match P.funcs[f]? with
 |some fn=>fn.params.toList
 |none=>c.argTypes.toList
def CN (C:F4)(P:Program)(N:Nat)(call:Ax)(tm:Nat->PV)(rdaf:Nat->Option (List PV)) (o:Oper)(c:Call)(f:FuncId)(K:PV->List Nat->List (Nat × Bl)->Option R):Option R:=
 DQ P rdaf (BN P f c) (c.args.toList.map (Bz tm)) fun vs m=>
  Ah (call f (Hu (C.kz f) c.args.toList vs)) fun rv ro=>Ad ro (Be (Nat.blt 0 N)<|Yp P (C.shr f) N (o.dst.getD 0) (K0 P o.type) rv fun ws bs=>
   Be (bif L7 P o.type then !Nat.beq ws.length 1 else Nat.beq ws.length 1)<|K (Ky ws (L7 P o.type)) (bif H3 P (K0 P o.type) then m else []) bs)
def DP (C:F4)(P:Program)(N:Nat)(call:Ax)(tm:Nat->PV)(rdf rdaf:Nat->Option (List PV)) (o:Oper)(K:PV->List Nat->List (Nat × Bl)->Option R):Option R:=
  match o.op with
  |.move x=>Xt P o.type tm x fun p=>K p [] []
  |.assign x=>Xt P o.type tm x fun p=>K p [] []
  |.pick c a b=>Ao (Bz tm c) fun t=>Bf t (K (Bz tm a) [] []) (K (Bz tm b) [] [])
  |.alloc t=>Do o.dst fun d=>F6 P t fun cs=>K (.ptr d 0) [] [(d,Afm P t cs)]
  |.box t x=>Do o.dst fun d=>Be (Hd P t&&Nat.beq (cellsOf (Bz tm x)).length (G1 P t).length)
      (bif Pk P t then Pb (G1 P t) (cellsOf (Bz tm x)) 0 fun cs=>K (.ptr d 0) [] [(d,.ar false cs)]
       else Lr (G1 P t) (cellsOf (Bz tm x)) 0 fun cs=>K (.ptr d 0) [] [(d,.st cs)])
  |.build t ps=>Be (Nb P t&&B4 P t)<|F6 P t fun z=>Pj (Oq P t) (ps.toList.map fun q=>(q.1,Bz tm q.2)) z fun cs=>Lr (G1 P t) cs 0 fun cs'=>K (.agg cs') [] []
  |.buildSlice t n ps=>Do o.dst fun d=>
      match P.underlying t with
      |some (.slice e)=>Be (Nb P t&&Nat.ble (n*A8 P e) 16777216) (F6 P e fun z=>Pj (Oq P t) (ps.toList.map fun q=>(q.1,Bz tm q.2)) (Om n z) fun cs=>
          Le rdaf (List.replicate n (G1 P e)).flatten cs fun cs' m=>K (.view d (A8 P e) 0 n) m [(d,.ar false (bif C.nz N then NS true cs cs' else cs'))])
      |_=>none
  |.load t a=>Vh (C.nz N) P rdf rdaf t (Bz tm a) fun v=>K v [] []
  |.nilCheck x=>Qs (Bz tm x) 0 fun p=>K p [] []
  |.binOp op t x y _=>
      Rj P op t (Bz tm x) (Bz tm y) fun v=>K v [] []
  |.unOp op _ x=>unK op (Bz tm x) fun v=>K v [] []
  |.convert src dst x=>DJ P rdaf (o.dst.getD 0) src dst (Bz tm x) fun v b=>Do o.dst fun _=>K v [] b
  |.makeSlice t l c=>Do o.dst fun d=>
      match P.underlying t with
      |some (.slice e)=>Df (Bz tm l) fun _ n=>Df (Bz tm c) fun _ m=>
          Be (decide (0<=n)&&decide (n<=m)&&decide (m*((P.info? e).map (·.bytes)).getD 0<=1099511627776)&&decide (m<=1099511627776))
            (F6 P e fun z=>K (.view d (A8 P e) 0 n.toNat) [] [(d,.ar false (Om n.toNat z))])
      |_=>none
  |.slice t x lo hi mx=>
      match mx with
      |none=>Ya P rdf t (Bz tm x) (lo.map (Bz tm)) (hi.map (Bz tm)) fun v=>K v [] []
      |some m=>Do o.dst fun d=>Rh P d t (Bz tm x) (lo.map (Bz tm)) (hi.map (Bz tm)) (some (Bz tm m)) fun v nw=>K v [] nw
  |.fieldAddr t x f=>Do (Mx P t f) fun q=>Be (Nat.ble 1 (A8 P q.2)) (Qs (Bz tm x) q.1 fun p=>K p [] [])
  |.field t x f=>Do (Mx P t f) fun q=>Be (Hd P q.2)<|E3 (Bz tm x) fun cs=>Lr (G1 P q.2) cs q.1 fun c=>YF (B4 P q.2) c fun v=>K v [] []
  |.indexAddr t x i=>Df (Bz tm i) fun _ n=>Ip P t (Bz tm x) n fun p=>K p [] []
  |.index t x i=>Df (Bz tm i) fun _ n=>
      match P.underlying t with
      |some .string=>Az (Bz tm x) fun s=>Be (decide (0<=n)) (Do (s.data.toList[n.toNat]?) fun b=>K (.sc (.int .u8 b.toNat)) [] [])
      |some (.array len e)=>E3 (Bz tm x) fun cs=>Be (decide (0<=n)&&decide (n<len)&&Hd P e) (Lr (G1 P e) cs (n.toNat*A8 P e) fun c=>YF (B4 P e) c fun v=>K v [] [])
      |_=>none
  |.lookup t x k ok=>
      match P.underlying t with
      |some (.map kt vt)=>Be (match P.underlying kt with|some .string=>true|_=>false) (
        match Bz tm x with
        |.sc (.map none)=>Az (Bz tm k) fun _=>Do (Ml P vt) fun z=>cvK P vt z fun v=>Be (match v with | .tup _=>false|_=>true) (K (bif ok then .tup [v,.sc (.bool false)] else v) [] [])
        |_=>none)
      |_=>none
  |.extract x i=>
      match Bz tm x with
      |.tup vs=>Do vs[i]? fun p=>K p [] []
      |_=>none
  |.call c=>
      match c.callee with
      |.builtin .len=>Aa c.args.toList fun x _=>Aa c.argTypes.toList fun t _=>Abi P t (Bz tm x) fun n=>K (.sc (.int .i64 n)) [] []
      |.builtin .cap=>Aa c.args.toList fun x _=>Aa c.argTypes.toList fun t _=>Aba P t (Bz tm x) fun n=>K (.sc (.int .i64 n)) [] []
      |.builtin .min=>Aa c.args.toList fun x r=>Aa r fun y r'=>Ad r' (Aji (Bz tm x) (Bz tm y) fun v=>K v [] [])
      |.builtin .max=>Aa c.args.toList fun x r=>Aa r fun y r'=>Ad r' (Ai7 (Bz tm x) (Bz tm y) fun v=>K v [] [])
      |.builtin .append=>Be (U9 c) (Do o.dst fun d=>Aa c.args.toList fun _ r=>Aa r fun x r'=>Ad r' (Aa c.argTypes.toList fun t u=>Aa u fun tx _=>Qy P rdaf d t tx (Bz tm x) fun v nw=>K v [] nw))
      |.value (.func f)=>CN C P N call tm rdaf o c f K
      |.value (.tmp t)=>fvK (tm t) fun f=>CN C P N call tm rdaf o c f K
      |_=>none
  |_=>none
def On (C:F4)(P:Program)(o:Op):Bool:=
 match o with
 |.store .. =>true
 |.call c=>
  match c.callee with
  |.builtin .append=> !U9 c
  |.builtin .copy=>true
  |.builtin _=>false
  |.value (.func f)=>((BN P f c).any fun t=>(V2 P t).isSome)||((BN P f c).zipIdx.any fun q=>C.mvd f q.2||C.lnd f q.2)
  |_=>false
 |_=>false
def Qj (b:Bl):Bl:=
 match b with
 |.ar _ c=>.ar true c
 |b=>b
def Af (hp:Nat->Option Bl)(ids:List Nat):Nat->Option Bl:=fun i=>bif ids.any (Nat.beq i) then (hp i).map Qj else hp i
def Ap (hp:Nat->Option Bl):List (Nat × Bl)->Nat->Option Bl
 |[]=>hp
 |(i,b)::r=>Ap (Ch hp i (some b)) r
def Bo (hp:Nat->Option Bl):List (Nat × Bl)->Bool
 |[]=>true
 |(i,_)::r=>(hp i).isNone && !(r.any fun q=>Nat.beq q.1 i)&&Bo hp r
def Bj (tm:Nat->PV)(d:Option Tmp)(v:PV):Nat->PV:=
 match d with
 |some i=>Ch tm i v
 |none=>tm
def Fk (N:Nat)(d:Option Tmp):Bool:=
 match d with
 |some i=>Nat.blt i N
 |none=>true
def Xl (N:Nat)(s:St)(d:Option Tmp)(v:PV)(fz:List Nat)(nw:List (Nat × Bl)) (K:St->Option R):Option R:=
 Be (Fk N d&&Bo s.hp nw) (K ⟨Bj s.tm d v,Ap (Af s.hp fz) nw⟩)
def Xk (P:Program)(s:St)(t:TypeId)(a x:PV)(K:St->Option R):Option R:=
 match a with
 |.ptr id off=>
  match s.hp id with
  |some (.st c)=>Be (Hd P t&&Nat.beq (cellsOf x).length (G1 P t).length&&decide (off+(G1 P t).length<=c.length)) (Lr (G1 P t) (cellsOf x) 0 fun cs=>Ac (Ca c cs off) fun c=>K ⟨s.tm,Ch s.hp id (some (.st c))⟩)
  |some (.ar false c)=>Be (Hd P t&&decide (off+(G1 P t).length<=c.length)) (Le (Hq s.hp) (G1 P t) (cellsOf x) fun cs m=>Be (!m.any (Nat.beq id)) (Ac (Ca c cs off) fun c=>K ⟨s.tm,Ch (Af s.hp m) id (some (.ar false c))⟩))
  |_=>none
 |_=>none
def Up (P:Program)(t:TypeId):Bool:=
 match P.underlying t with
 |some (.int _)=>true
 |_=>false
def Pw (P:Program)(N:Nat)(s:St)(d:Nat)(e:TypeId)(b x:PV)(K:St->Option R):Option R:=
 Df x fun _ n=>Ke (A8 P e) b fun z _ _=>
  Be (z&&Nat.blt d N&&(s.hp d).isNone&&decide (0<=n)&&decide (n.toNat*((P.info? e).map (·.bytes)).getD 0<=1099511627776)&&decide (n<=1099511627776))
   (K ⟨Ch s.tm d (.view d (A8 P e) 0 n.toNat),Ch s.hp d (some (.ar false []))⟩)
def Lz (P:Program)(N:Nat)(s:St)(d:Nat)(t tx:TypeId)(b x:PV)(K:St->Option R):Option R:=
 match P.underlying t with
 |some (.slice e)=>Be (KH P e) <|
  bif Up P tx then Pw P N s d e b x K else
  SE P s (A8 P e) tx x fun m new=>
  match b with
  |.view id es off n=>
   match s.hp id with
   |some (.ar false c)=>
    Be (Nat.beq es (A8 P e)&&Nat.beq off 0&&Nat.blt d N&&(s.hp d).isNone&&decide (n*es<=c.length)&&decide (new.length=m*es)
     && decide ((n+m)*((P.info? e).map (·.bytes)).getD 0<=1099511627776)&&decide (n+m<=1099511627776))
     (Ac (n+m) fun n'=>Ac (c.take (n*es)++new) fun c=>K ⟨Ch s.tm d (.view d es 0 n'),Ch (Ch s.hp id (some .mv)) d (some (.ar false c))⟩)
   |_=>none
  |b=>Ke (A8 P e) b fun z _ _=>
    Be (z&&Nat.blt d N&&(s.hp d).isNone&&decide (new.length=m*A8 P e)&&decide (m*((P.info? e).map (·.bytes)).getD 0<=1099511627776)&&decide (m<=1099511627776))
     (K ⟨Ch s.tm d (.view d (A8 P e) 0 m),Ch s.hp d (some (.ar false new))⟩)
 |_=>none
def HO (P:Program)(N:Nat)(s:St)(d:Option Tmp)(t tx:TypeId)(b x:PV)(K:St->Option R):Option R:=
 match P.underlying t with
 |some (.slice e)=>Be (DI P e&&Fk N d) <|
  SE P s (A8 P e) tx x fun m new=>
  match b with
  |.view id es off n=>
   match s.hp id with
   |some (.ar false c)=>Be (Nat.beq es (A8 P e)&&decide (off+n*es<=c.length)&&decide (new.length=m*es))
     (Ac (min m n) fun k=>Ac (Ca c (new.take (k*es)) off) fun c=>K ⟨Bj s.tm d (.sc (.int .i64 k)),Ch s.hp id (some (.ar false c))⟩)
   |_=>none
  |_=>none
 |_=>none
def YU (mv:Bool)(hp:Nat->Option Bl)(t:CT)(p:PV)(K:PV->List Nat->List Nat->Option R):Option R:=
 match t with
 |.sl es=>
  bif mv then
   match p with
   |.view id es' off n=>
    match hp id with
    |some (.ar false c)=>
     bif Nat.beq es' es&&Nat.beq off 0 then Be (decide (n*es<=c.length)) (K (.own es n (c.take (n*es))) [] [id])
     else Ls (Hq hp) (.sl es) (.view id es' off n) fun c m=>K c m []
    |_=>Ls (Hq hp) (.sl es) (.view id es' off n) fun c m=>K c m []
   |p=>Ke es p fun z n c=>bif z then K (.own es 0 []) [] [] else K (.lst false es n c) [] []
  else Ls (Hq hp) (.sl es) p fun c m=>K c m []
 |t=>Xg t p fun c=>K c [] []
def Ys (mv:Bool)(hp:Nat->Option Bl):List CT->List PV->(List PV->List Nat->List Nat->Option R)->Option R
 |[],[],K=>K [] [] []
 |t::ts,p::ps,K=>YU mv hp t p fun c m x=>Ys mv hp ts ps fun cs ms xs=>K (c::cs) (m++ms) (x++xs)
 |_,_,_=>none
inductive Fw where
 |var (id off:Nat) (cts:List CT) (ws:List PV)
 |row (id:Nat)
 |none
def Fw.ids:Fw->List Nat
 |.var id _ _ _=>[id]
 |.row id=>[id]
 |.none=>[]
def Auy (P:Program)(t:TypeId):Option TypeId:=
 match P.underlying t with
 |some (.slice e)=>some e
 |_=>none
def Aft (hp:Nat->Option Bl)(es:Nat)(p:PV)(K:PV->List Fw->Option R):Option R:=
 match p with
 |.view id es' off n=>
  match hp id with
  |some (.ar false c)=>Be (Nat.beq es' es&&Nat.beq off 0) (K (.tup [.own es n c]) [.row id])
  |_=>none
 |p=>Ke es p fun z _ _=>Be z (K (.tup [.own es 0 []]) [.none])
def Xo (C:F4)(P:Program)(f:FuncId)(hp:Nat->Option Bl)(i:Nat)(t:TypeId)(p:PV)(K:PV->List Nat->List Nat->List Fw->Option R):Option R:=
 match V2 P t with
 |some e=>
  match p with
  |.ptr id off=>
   match hp id with
   |some (.st c)=>Be (Hd P e&&decide (off+(G1 P e).length<=c.length)) (Ys (C.mvd f i) hp (G1 P e) ((c.drop off).take (G1 P e).length) fun cs m x=>K (.pbox cs) m x [.var id off (G1 P e) cs])
   |_=>none
  |_=>none
 |none=>
  bif C.lnd f i then Do (Auy P t) fun e=>Aft hp (A8 P e) p fun v l=>K v [] [] l
  else bif B4 P t then E3 p fun ps=>Ys (C.mvd f i) hp (G1 P t) ps fun cs m x=>K (.agg cs) m x []
  else Ys (C.mvd f i) hp (G1 P t) [p] fun cs m x=>Aa cs fun c r=>Ad r (K c m x [])
def JH (C:F4)(P:Program)(f:FuncId)(hp:Nat->Option Bl):Nat->List TypeId->List PV->(List PV->List Nat->List Nat->List Fw->Option R)->Option R
 |_,[],[],K=>K [] [] [] []
 |i,t::ts,p::ps,K=>Xo C P f hp i t p fun v m x l=>JH C P f hp (i+1) ts ps fun vs ms xs ls=>K (v::vs) (m++ms) (x++xs) (l++ls)
 |_,_,_,_=>none
def Po (hp:Nat->Option Bl)(ids:List Nat):Nat->Option Bl:=fun i=>bif ids.any (Nat.beq i) then (hp i).map (fun _=>Bl.mv) else hp i
def RT (N t:Nat):Nat:=N*(1000+t)
def OO (N:Nat)(hp:Nat->Option Bl):Nat->Nat->Nat
 |0,t=>t
 |k+1,t=>bif (hp (RT N t)).isNone then t else OO N hp k (t+1)
def ZH (N t:Nat)(ct:CT)(was p:PV)(K:Nat->PV->List (Nat × Bl)->Option R):Option R:=
 match ct with
 |.sl es=>
  match was with
  |.own _ _ _=>FE es p fun n c=>K (t+1) (.view (RT N t) es 0 n) [(RT N t,.ar false c)]
  |_=>Ke es p fun _ n c=>K t (.lst false es n c) []
 |ct=>Xg ct p fun c=>K t c []
def IM (N:Nat):Nat->List CT->List PV->List PV->(Nat->List PV->List (Nat × Bl)->Option R)->Option R
 |t,[],[],ps,K=>Ad ps (K t [] [])
 |t,ct::cts,w::ws,ps,K=>Aa ps fun p ps=>ZH N t ct w p fun t' c b=>IM N t' cts ws ps fun t'' cs bs=>K t'' (c::cs) (b++bs)
 |_,_,_,_,_=>none
def Sv (N:Nat):Nat->List Fw->List (List PV)->(Nat->Option Bl)->((Nat->Option Bl)->List (Nat × Bl)->Option R)->Option R
 |_,[],ro,hp,K=>Ad ro (K hp [])
 |t,.var id off cts ws::l,ro,hp,K=>Aa ro fun cs ro=>IM N t cts ws cs fun t' cs' bs=>
   match hp id with
   |some (.st c)=>Ac (Ca c cs' off) fun c=>Sv N t' l ro (Ch hp id (some (.st c))) fun Cn bs'=>K Cn (bs++bs')
   |_=>none
 |t,.row id::l,ro,hp,K=>Aa ro fun cs ro=>Sv N t l ro (Ch hp id (some (.ar false cs))) K
 |t,.none::l,ro,hp,K=>Aa ro fun _ ro=>Sv N t l ro hp K
def Dv:List Nat->Bool
 |[]=>true
 |a::r=> !(r.any (Nat.beq a))&&Dv r
def Xa (C:F4)(P:Program)(N:Nat)(call:Ax)(s:St)(o:Oper)(f:FuncId)(c:Call)(K:St->Option R):Option R:=
 JH C P f s.hp 0 (BN P f c) (c.args.toList.map (Bz s.tm)) fun vs m x l=>
  Be (Dv (l.flatMap Fw.ids++x)&&m.all (fun i=> !((l.flatMap Fw.ids++x).any (Nat.beq i)))&&Nat.blt 0 N&&Fk N o.dst) <|
  Ah (call f (Hu (C.kz f) c.args.toList vs)) fun rv ro=>
   Yp P (C.shr f) N (o.dst.getD N) (K0 P o.type) rv fun ws bs=>
    Be (bif L7 P o.type then !Nat.beq ws.length 1 else Nat.beq ws.length 1) <|
    A38 (OO N s.hp 100 0) fun t0=>Sv N t0 l ro (Po (Af s.hp m) x) fun Cn bs'=>
     Be (Bo Cn (bs++bs')) (K ⟨Bj s.tm o.dst (Ky ws (L7 P o.type)),Ap Cn (bs++bs')⟩)
def Rx (C:F4)(P:Program)(N:Nat)(call:Ax)(s:St)(o:Oper)(K:St->Option R):Option R:=
 match o.op with
 |.store t a x=>Be (o.dst.isNone) (Xk P s t (Bz s.tm a) (Bz s.tm x) K)
 |.call c=>
  match c.callee with
  |.builtin .append=>Do o.dst fun d=>Aa c.args.toList fun b r=>Aa r fun x r'=>Ad r' (Aa c.argTypes.toList fun t u=>Aa u fun tx _=>Lz P N s d t tx (Bz s.tm b) (Bz s.tm x) K)
  |.builtin .copy=>Aa c.args.toList fun b r=>Aa r fun x r'=>Ad r' (Aa c.argTypes.toList fun t u=>Aa u fun tx _=>HO P N s o.dst t tx (Bz s.tm b) (Bz s.tm x) K)
  |.value (.func f)=>Xa C P N call s o f c K
  |_=>none
 |_=>none
def NK (C:F4)(P:Program)(N:Nat)(call:Ax)(o:Oper)(s:St)(K:St->Option R):Option R:=
 bif On C P o.op then Rx C P N call s o K
 else DP C P N call s.tm (rd s.hp) (Hq s.hp) o fun v fz nw=>Xl N s o.dst v fz nw K
def De (C:F4)(P:Program)(N:Nat)(call:Ax)(ops:Array Oper)(o:Oper)(s:St)(K:St->Option R):Option R:=
 match o.guard with
 |none=>NK C P N call o s K
 |some (j,want)=>
  match (ops[j]?).bind (·.dst) with
  |none=>none
  |some d=>
   match s.tm d with
   |.sc (.bool b)=>
    Bf b (bif want then NK C P N call o ⟨Ch s.tm d (.sc (.bool true)),s.hp⟩ K else Be (Fk N o.dst) (K ⟨Bj (Ch s.tm d (.sc (.bool true))) o.dst (.sc undef),s.hp⟩))
     (bif want then Be (Fk N o.dst) (K ⟨Bj (Ch s.tm d (.sc (.bool false))) o.dst (.sc undef),s.hp⟩) else NK C P N call o ⟨Ch s.tm d (.sc (.bool false)),s.hp⟩ K)
   |.sc (.tuple _)=>Be (Fk N o.dst) (K ⟨Bj s.tm o.dst (.sc undef),s.hp⟩)
   |_=>none
def Lb (C:F4)(P:Program)(N:Nat)(call:Ax)(ops:Array Oper):List Oper->St->(St->Option R)->Option R
 |[],s,K=>K s
 |o::r,s,K=>De C P N call ops o s fun s'=>Lb C P N call ops r s' K
noncomputable def GZ (x y:Option R):Option R:=open Classical in if x=y then x else none
noncomputable def WF (ops:Array Oper)(o:Oper)(s:St)(F:St->Option R):Option R:=
 match o.guard with
 |none=>F s
 |some (j,_)=>
  match (ops[j]?).bind (·.dst) with
  |none=>F s
  |some d=>
   match s.tm d with
   |.ub=>GZ (F ⟨Ch s.tm d (.sc (.bool true)),s.hp⟩) (F ⟨Ch s.tm d (.sc (.bool false)),s.hp⟩)
   |_=>F s
noncomputable def KP (C:F4)(P:Program)(N:Nat)(call:Ax)(ops:Array Oper):List Oper->St->(St->Option R)->Option R
 |[],s,K=>K s
 |o::r,s,K=>WF ops o s fun s1=>De C P N call ops o s1 fun s'=>KP C P N call ops r s' K
end
def Age (o:Oper):List Nat:=o.op.operands.toList.filterMap fun x=>match x with | .tmp t=>some t|_=>none
def looks (ops:Array Oper)(o:Oper):List Nat:=
 Age o++(match o.guard with|some (g,_)=>((ops[g]?).bind (·.dst)).toList|none=>[])
def Gl (P:Program)(o:Op):Bool:=
 match o with
 |.slice t .. =>match P.underlying t with|some (.array _ _)=>true|_=>false
 |.buildSlice t _ _=>match P.underlying t with|some (.slice e)=>H3 P [e]|_=>true
 |.convert _ dst _=>match P.underlying dst with|some .string=>true|_=>false
 |.alloc _ | .box .. | .makeSlice .. =>false
 |.move _ | .assign _ | .pick .. | .build .. | .binOp .. | .unOp .. | .fieldAddr .. | .field .. | .index .. | .indexAddr .. | .extract .. | .nilCheck _=>false
 |.call c=>match c.callee with | .builtin .len=>false | .builtin .min=>false | .builtin .max=>false|_=>true
 |_=>true
def CZ (C:F4)(P:Program)(ops:Array Oper)(x y:Oper):Bool:=
 (match x.dst with|some d=>(looks ops y).any (Nat.beq d)||(match y.dst with|some e=>Nat.beq d e|none=>false)|none=>false) ||
 (match y.dst with|some e=>(looks ops x).any (Nat.beq e)|none=>false) ||
 (On C P x.op&&Gl P y.op)||(On C P y.op&&Gl P x.op)
def G5 (ops:List Oper):List Nat->List Nat
 |acc=>match ops with
  |[]=>acc
  |o::r=>G5 r (acc++[o.after.toList.foldl (fun s e=>bif Region.binds .any e then s ||| 2 ^ e.on ||| acc.getD e.on 0 else s) 0])
def AK (C:F4)(P:Program)(ops:Array Oper)(bs:List Nat):List Oper->Nat->Bool
 |[],_=>true
 |o::r,i=>(ops.toList.zipIdx.all fun q=> !Nat.blt q.2 i || !CZ C P ops q.1 o||(bs.getD i 0).testBit q.2)&&AK C P ops bs r (i+1)
def HJ (C:F4)(P:Program)(ops:Array Oper):Bool:=
 ops.toList.zipIdx.all (fun q=>q.1.after.toList.all fun e=> !Region.binds .any e||Nat.blt e.on q.2)&&AK C P ops (G5 ops.toList []) ops.toList 0
def An:PV->List Nat
 |.view id _ _ _=>[id]
 |.ptr id _=>[id]
 |_=>[]
def B8:PV->List Nat
 |.agg cs=>cs.flatMap An
 |p=>An p
def Br:PV->List Nat
 |.tup ps=>ps.flatMap B8
 |p=>B8 p
def Qq (P:Program)(o:Op):Bool:=
 match o with
 |.load .. =>true
 |.convert _ dst _=>(match P.underlying dst with|some .string=>true|_=>false)
 |_=>false
def K2 (o:Op):Bool:=
 match o with
 |.call c=>(match c.callee with | .builtin .append=> !U9 c|_=>false)
 |_=>false
def Aci (ops:Array Oper)(x y:Oper):Bool:=
 (match x.dst with|some d=>(looks ops y).any (Nat.beq d)||(match y.dst with|some e=>Nat.beq d e|none=>false)|none=>false) ||
 (match y.dst with|some e=>(looks ops x).any (Nat.beq e)|none=>false)
def Ny (C:F4)(P:Program)(x y:Oper):Bool:=(On C P x.op&&Gl P y.op)||(On C P y.op&&Gl P x.op)
def H7 (C:F4)(P:Program)(x y:Oper):Bool:=(On C P x.op&&Qq P y.op)||(On C P y.op&&Qq P x.op)||(K2 x.op&&K2 y.op)
def Aey (C:F4)(P:Program)(ops:Array Oper)(x y:Oper):Bool:=Aci ops x y||(Ny C P x y && !H7 C P x y)
def Vf (C:F4)(P:Program)(ops:Array Oper)(bs:List Nat):List Oper->Nat->Bool
 |[],_=>true
 |o::r,i=>(ops.toList.zipIdx.all fun q=> !Nat.blt q.2 i || !Aey C P ops q.1 o||(bs.getD i 0).testBit q.2)&&Vf C P ops bs r (i+1)
def DY (C:F4)(P:Program)(ops:Array Oper):Bool:=
 ops.toList.zipIdx.all (fun q=>q.1.after.toList.all fun e=> !Region.binds .any e||Nat.blt e.on q.2)&&Vf C P ops (G5 ops.toList []) ops.toList 0
def J0 (C:F4)(P:Program)(s:St)(o:Oper):List Nat:=
 let l:=o.op.operands.toList.flatMap fun y=>Br (Bz s.tm y)
 bif On C P o.op && !K2 o.op then l++l.flatMap (fun i=>match s.hp i with|some (.st c)=>c.flatMap An|_=>[])
 else bif Qq P o.op||K2 o.op then l else []
def Aa6 (a b:List Nat):Bool:=a.all fun i=> !b.any (Nat.beq i)
def U7 (C:F4)(P:Program)(ops:Array Oper)(bs:List Nat)(i:Nat)(o:Oper):List Nat:=
 (ops.toList.zipIdx.filter fun q=>H7 C P q.1 o && !(Nat.blt q.2 i&&(bs.getD i 0).testBit q.2) && !(Nat.blt i q.2&&(bs.getD q.2 0).testBit i)).map (·.2)
def Yz (C:F4)(P:Program)(ops:Array Oper)(bs:List Nat):List (List Nat):=ops.toList.zipIdx.map fun q=>U7 C P ops bs q.2 q.1
def Ze (C:F4)(P:Program)(sm:List (List Nat)) (s:St)(i:Nat)(o:Oper):List Nat:=
 match sm.getD i [] with
 |[]=>[]
 |_::_=>J0 C P s o
def FZ (C:F4)(P:Program)(sm:List (List Nat)) (s:St)(i:Nat)(o:Oper)(q:Nat × Oper × List Nat):Bool:=
 !((sm.getD i []).any (Nat.beq q.1))||Aa6 q.2.2 (Ze C P sm s i o)
def Gz {R:Type}(C:F4)(P:Program)(N:Nat)(call:Ax)(ops:Array Oper)(sm:List (List Nat)):List (Nat × Oper × List Nat)->List Nat->St->(St->Option R)->Option R
 |_,[],s,K=>K s
 |dn,i::l,s,K=>Do ops[i]? fun o=>Be (dn.all (FZ C P sm s i o)&&(Ze C P sm s i o).all (fun k=>(s.hp k).isSome)) (De C P N call ops o s fun s'=>Gz C P N call ops sm ((i,o,Ze C P sm s i o)::dn) l s' K)
def Agu (m i:Nat):Nat:=m ||| 2 ^ i
def A7i (m i:Nat):Nat:=bif m.testBit i then m ^^^ 2 ^ i else m
def WQ (ops:Array Oper):List Oper->Nat->Nat
 |[],m=>m
 |o::r,m=>
  let m1:=WQ ops r m
  let m2:=match o.dst with|some d=>A7i m1 d|none=>m1
  (looks ops o).foldl Agu m2
def Lo:Code->Nat->(Nat->Nat)->Nat->Nat
 |.skip,ln,_,_=>ln
 |.region _ ops _,ln,_,_=>WQ ops ops.toList ln
 |.seq a b,ln,lx,lr=>Lo a (Lo b ln lx lr) lx lr
 |.cond c a b,ln,lx,lr=>let m:=Lo a ln lx lr ||| Lo b ln lx lr;match c with | .tmp d=>Agu m d|_=>m
 |.block id c,ln,lx,lr=>Lo c ln (fun j=>bif Nat.beq j id then ln else lx j) lr
 |.loop c,_,lx,lr=>Lo c (Lo c 0 lx lr) lx lr
 |.exit id,_,lx,_=>lx id
 |.ret,_,_,lr=>lr
 |_,_,_,_=>0
def OR (ops:List Oper):List Nat:=(ops.filterMap fun o=>o.guard.map (·.1)).eraseDups
def Lh:Code->Nat
 |.region _ _ _=>1
 |.seq a b=>Lh a+Lh b
 |.cond _ a b=>Lh a+Lh b
 |.block _ c=>Lh c
 |.loop c=>Lh c
 |_=>0
def Xs:Code->Nat
 |.skip=>1
 |.region _ ops _=>2 ^ min 6 (OR ops.toList).length
 |.seq a b=>bif (Nat.ble 7 (Xs a)&&Nat.ble 6 (Lh b))||(Nat.ble 5 (Xs a)&&Nat.ble 9 (Lh b)) then Xs b else min 1000 (Xs a*Xs b)
 |.cond _ a b=>Xs a+Xs b
 |.block _ c=>Xs c
 |.loop _=>1
 |.exit _=>1
 |_=>0
def Alu (P:Program)(o:Oper):Bool:=
 match o.op with
 |.load t _=>Pk P t&&Nat.ble 8 (A8 P t)
 |.store t _ _=>Pk P t&&Nat.ble 8 (A8 P t)
 |_=>false
def OA (P:Program):Code->Bool
 |.region _ ops _=>ops.toList.any (Alu P)
 |.seq a _=>OA P a
 |_=>false
def XR (P:Program):Code->Bool
 |.region _ ops _=>ops.toList.any (Alu P)
 |.seq _ b=>XR P b
 |_=>false
def Aum:Code->Nat
 |.seq a b=>match b with
  |.ret=>(match a with | .region _ ops _=>(OR ops.toList).length|_=>0)
  |_=>Aum b
 |_=>0
def Adv (x y:Code):Bool:=(Nat.beq (Xs x) 1&&Nat.beq (Aum y) 11)||(Nat.beq (Xs x) 4&&Nat.beq (Lh x) 7&&(Nat.beq (Lh y) 3||Nat.beq (Lh y) 1))||(Nat.beq (Xs x) 9&&Nat.beq (Lh x) 5&&Nat.beq (Lh y) 5)
def Z6 (a b:Code):Bool:=Adv a b||(match b with | .seq x y=>Adv x y|_=>false)
def Ac6 (P:Program)(a b:Code):Bool:=(Nat.ble 7 (Xs a)&&Nat.ble 6 (Lh b))||(Nat.ble 5 (Xs a)&&Nat.ble 9 (Lh b))||Z6 a b||OA P b||XR P a
def Jo (m:Nat):Nat->List Nat
 |0=>[]
 |n+1=>Jo m n++(bif m.testBit n then [n] else [])
def lk (l:List (Nat × PV)) (i:Nat):PV:=
 match l with
 |[]=>.top
 |(j,p)::r=>bif Nat.beq i j then p else lk r i
def Jt (l:List (Nat × Bl)) (i:Nat):Option Bl:=
 match l with
 |[]=>none
 |(j,b)::r=>bif Nat.beq i j then some b else Jt r i
def R4 (l:List (Nat × Nat)) (i:Nat):Option Nat:=
 match l with
 |[]=>none
 |(j,b)::r=>bif Nat.beq i j then some b else R4 r i
def Z9 (N:Nat)(s:St)(i:Nat):St:=
 match s.tm i with
 |.lst true es 0 []=>
  bif (s.hp i).isNone then ⟨Ch s.tm i (.view i es 0 0),Ch s.hp i (some (.ar false []))⟩
  else bif (s.hp (i+N*3000)).isNone then ⟨Ch s.tm i (.view (i+N*3000) es 0 0),Ch s.hp (i+N*3000) (some (.ar false []))⟩
  else s
 |_=>s
def LL (N:Nat)(id:Nat)(s:St)(j:Nat):St:=
 match s.hp id with
 |some (.st c)=>
  match c[j]? with
  |some (.lst true es 0 [])=>bif (s.hp (id+N*(j+1))).isNone then ⟨s.tm,Ch (Ch s.hp id (some (.st (c.set j (.view (id+N*(j+1)) es 0 0))))) (id+N*(j+1)) (some (.ar false []))⟩ else s
  |_=>s
 |_=>s
def LE (N:Nat)(s:St)(i:Nat):St:=
 match s.tm i with
 |.ptr id _=>
  match s.hp id with
  |some (.st c)=>(List.range c.length).foldl (LL N id) s
  |_=>s
 |_=>s
def HB (m:List (Nat × Nat)) (old new:Nat):List (Nat × Nat):=
 match R4 m old with
 |some _=>m
 |none=>m++[(old,new)]
def N5 (N new:Nat):List PV->Nat->List (Nat × Nat)->List (Nat × Nat)
 |[],_,m=>m
 |.view id _ _ _::r,j,m=>N5 N new r (j+1) (HB m id (new+N*(j+1)))
 |_::r,j,m=>N5 N new r (j+1) m
def AF (N:Nat)(s:St)(m:List (Nat × Nat)) (i:Nat):List (Nat × Nat):=
 match s.tm i with
 |.view id _ _ _=>HB m id i
 |.ptr id _=>
  match R4 m id with
  |some _=>m
  |none=>
   match s.hp id with
   |some (.st c)=>N5 N i c 0 (HB m id i)
   |_=>HB m id i
 |.agg c=>N5 N i c 0 m
 |_=>m
def SX (m:List (Nat × Nat)):PV->PV
 |.view id es off n=>match R4 m id with|some j=>.view j es off n|none=>.top
 |.ptr id off=>match R4 m id with|some j=>.ptr j off|none=>.top
 |.sc v=>.sc v
 |.lst z es n c=>.lst z es n c
 |.iptr c off=>.iptr c off
 |_=>.top
def ZX (m:List (Nat × Nat)):PV->PV
 |.agg c=>.agg (c.map (SX m))
 |p=>SX m p
def Ai9 (m:List (Nat × Nat)):Bl->Bl
 |.st c=>.st (c.map (SX m))
 |b=>b
def C9 (N i:Nat):Nat:=i+N*2000
def NX (N:Nat)(hp:Nat->Option Bl):Nat->List (Nat × Nat)
 |0=>[]
 |i+1=>bif (hp (C9 N i)).isSome then NX N hp i++[(C9 N i,C9 N i)] else NX N hp i
def Pp (N:Nat)(hp:Nat->Option Bl):Nat->List (Nat × Nat)->List (Nat × Nat)
 |0,m=>m
 |i+1,m=>
  match hp (C9 N i) with
  |some (.st c)=>N5 N (C9 N i) c 0 (Pp N hp i m)
  |_=>Pp N hp i m
def Axi (N:Nat)(hp:Nat->Option Bl)(k:Nat):List (Nat × Nat):=Pp N hp k (NX N hp k)
def J8 (m:List (Nat × Nat)) (hp:Nat->Option Bl):List (Nat × Nat)->List (Nat × Bl)
 |[]=>[]
 |(old,new)::r=>match hp old with
  |some b=>(new,Ai9 m b)::J8 m hp r
  |none=>J8 m hp r
section
variable {R:Type}
def XQ (N:Nat)(ls:List Nat)(q:Bool)(s:St)(K:St->Option R):Option R:=
 let s2:=bif q then s else ls.foldl (LE N) (ls.foldl (Z9 N) s)
 let m:=ls.foldl (AF N s2) (Axi N s2.hp 8)
 Be (Dv (m.map (·.1))&&Dv (m.map (·.2))) (K ⟨lk (ls.map fun i=>(i,ZX m (s2.tm i))),Jt (J8 m s2.hp m)⟩)
def Vc (N L:Nat)(s:St)(K:St->Option R):Option R:=XQ N (Jo L N) false s K
def YI (N L:Nat)(s:St)(K:St->Option R):Option R:=XQ N (Jo L N) true s K
def Aev (F:(St->Option R)->St->Option R) (nm:St->(St->Option R)->Option R):Nat->St->Option R
 |0,_=>none
 |n+1,s=>F (fun s'=>nm s' (Aev F nm n)) s
def AW (n:Nat)(F:St->Option R)(s:St):Option R:=
 match n with
 |0=>none
 |_+1=>F s
noncomputable def Aer (s:St)(c:Operand)(kt kf:St->Option R):Option R:=
 match c with
 |.tmp d=>
  match s.tm d with
  |.sc (.bool b)=>Bf b (kt ⟨Ch s.tm d (.sc (.bool true)),s.hp⟩) (kf ⟨Ch s.tm d (.sc (.bool false)),s.hp⟩)
  |.ub=>GZ (kt s) (kf s)
  |_=>none
 |.const (.bool true)=>kt s
 |.const (.bool false)=>kf s
 |_=>none
noncomputable def Mn (C:F4)(P:Program)(fu N:Nat)(call:Ax):Code->Nat->(Nat->Nat)->Nat->(St->Option R)->(Nat->St->Option R)->(St->Option R)->St->Option R
 |.skip,_,_,_,kn,_,_,s=>kn s
 |.region _ ops draw,_,_,_,kn,_,_,s=>NW (draw && !HJ C P ops) (Be (DY C P ops) (Alk (Yz C P ops (G5 ops.toList [])) fun sm=>Gz C P N call ops sm [] (List.range ops.size) s kn)) (NW draw (Lb C P N call ops ops.toList s kn) (KP C P N call ops ops.toList s kn))
 |.seq a b,ln,lx,lr,kn,kx,kr,s=>Mn C P fu N call a (Lo b ln lx lr) lx lr (fun s'=>NW (Ac6 P a b) (NW (Z6 a b) (YI N (Lo b ln lx lr) s' (AW fu fun s''=>Mn C P fu N call b ln lx lr kn kx kr s'')) (Vc N (Lo b ln lx lr) s' (AW fu fun s''=>Mn C P fu N call b ln lx lr kn kx kr s''))) (Mn C P fu N call b ln lx lr kn kx kr s')) kx kr s
 |.cond c a b,ln,lx,lr,kn,kx,kr,s=>Aer s c (Mn C P fu N call a ln lx lr kn kx kr) (Mn C P fu N call b ln lx lr kn kx kr)
 |.block id c,ln,lx,lr,kn,kx,kr,s=>Mn C P fu N call c ln (fun j=>bif Nat.beq j id then ln else lx j) lr kn (fun j s'=>bif Nat.beq j id then kn s' else kx j s') kr s
 |.loop c,ln,lx,lr,_,kx,kr,s=>
  Vc N (Lo (.loop c) ln lx lr) s (Aev (fun k s'=>Mn C P fu N call c (Lo (.loop c) ln lx lr) lx lr k kx kr s') (Vc N (Lo (.loop c) ln lx lr)) fu)
 |.exit id,_,_,_,_,kx,_,s=>kx id s
 |.ret,_,_,_,_,_,kr,s=>kr s
 |_,_,_,_,_,_,_,_=>none
def Ad1 (id:Nat)(t:CT)(p:PV)(K:PV->List (Nat × Bl)->Option R):Option R:=
 match t with
 |.sl es=>
  match p with
  |.own es' n c=>bif Nat.beq es' es then K (.view id es 0 n) [(id,.ar false c)] else none
  |p=>Ke es p fun z n c=>K (.lst z es n c) []
 |t=>Xg t p fun c=>K c []
def Y3 (N:Nat):Nat->List CT->List PV->(List PV->List (Nat × Bl)->Option R)->Option R
 |_,[],ps,K=>Ad ps (K [] [])
 |id,t::ts,ps,K=>Aa ps fun p ps=>Ad1 id t p fun c b=>Y3 N (id+N) ts ps fun cs bs=>K (c::cs) (b++bs)
def inK (P:Program)(N i:Nat)(t:TypeId)(p:PV)(K:PV->List (Nat × Bl)->Option R):Option R:=
 match V2 P t with
 |some e=>Si p fun ps=>Be (Nat.blt i 8) (Y3 N (C9 N i+N) (G1 P e) ps fun cs bs=>K (.ptr (C9 N i) 0) ((C9 N i,.st cs)::bs))
 |none=>
  match p with
  |.tup ps=>Do (Auy P t) fun e=>Be (Nat.blt i 8) (Aa ps fun q r=>Ad r (FE (A8 P e) q fun n c=>K (.view (C9 N i) (A8 P e) 0 n) [(C9 N i,.ar false c)]))
  |p=>
   bif B4 P t then E3 p fun ps=>Y3 N (i+N) (G1 P t) ps fun cs bs=>K (.agg cs) bs
   else Y3 N (i+N) (G1 P t) [p] fun cs bs=>Aa cs fun c r=>Ad r (K c bs)
def Afj (P:Program)(N:Nat):Nat->List TypeId->List PV->(List (Nat × PV)->List (Nat × Bl)->Option R)->Option R
 |_,[],ps,K=>Ad ps (K [] [])
 |i,t::ts,ps,K=>Aa ps fun p ps=>inK P N i t p fun v bs=>Afj P N (i+1) ts ps fun vs bs'=>K ((i,v)::vs) (bs++bs')
def Aly (hp:Nat->Option Bl)(t:CT)(p:PV)(K:PV->List Nat->List Nat->Option R):Option R:=
  match t with
  |.sl es=>
    match p with
    |.view id es' off n=>bif Nat.beq es' es&&Nat.beq off 0 then
        (match hp id with
         |some (.ar false c)=>Be (decide (n*es<=c.length)) (K (.own es n (c.take (n*es))) [id] [])
         |_=>none) else none
    |p=>Ke es p fun z _ _=>Be z (K (.own es 0 []) [] [])
  |t=>Xg t p fun c=>K c [] []
def YB (shr:Bool)(hp:Nat->Option Bl)(t:CT)(p:PV)(K:PV->List Nat->List Nat->Option R):Option R:=
 bif shr then Ls (Hq hp) t p fun c m=>K c [] m else Aly hp t p K
def W0 (shr:Bool)(hp:Nat->Option Bl):List CT->List PV->(List PV->List Nat->List Nat->Option R)->Option R
 |[],[],K=>K [] [] []
 |t::ts,p::ps,K=>YB shr hp t p fun c m z=>W0 shr hp ts ps fun cs ms zs=>K (c::cs) (m++ms) (z++zs)
 |_,_,_=>none
def Agl (P:Program)(shr:Bool)(hp:Nat->Option Bl)(t:TypeId)(p:PV)(K:PV->List Nat->List Nat->Option R):Option R:=
 match V2 P t with
 |some e=>
  match p with
  |.ptr id off=>
   match hp id with
   |some (.st c)=>Be (Nat.beq off 0) (W0 shr hp (G1 P e) c fun cs m z=>K (.pbox cs) (id::m) z)
   |_=>none
  |_=>none
 |none=>
  bif B4 P t then E3 p fun ps=>W0 shr hp (G1 P t) ps fun cs m z=>K (.agg cs) m z
  else W0 shr hp (G1 P t) [p] fun cs m z=>Aa cs fun c r=>Ad r (K c m z)
def Aew (P:Program)(s:St)(r:ResultVar)(K:PV->Option R):Option R:=
 match r with
 |.tmp t=>K (s.tm t)
 |.cell a t=>Vh false P (rd s.hp) (Hq s.hp) t (s.tm a) K
def KN (P:Program)(shr:Bool)(s:St):List ResultVar->List TypeId->(List PV->List Nat->List Nat->Option R)->Option R
 |[],[],K=>K [] [] []
 |r::rs,t::ts,K=>Aew P s r fun p=>Agl P shr s.hp t p fun v m z=>KN P shr s rs ts fun vs ms zs=>K (v::vs) (m++ms) (z++zs)
 |_,_,_=>none
def Z7 (hp:Nat->Option Bl):List CT->List PV->List PV->(List PV->List Nat->List Nat->Option R)->Option R
 |[],[],[],K=>K [] [] []
 |t::ts,w::ws,p::ps,K=>YB (match w with | .own _ _ _=>false|_=>true) hp t p fun c m z=>Z7 hp ts ws ps fun cs ms zs=>K (c::cs) (m++ms) (z++zs)
 |_,_,_,_=>none
def Xz (P:Program)(N:Nat)(hp:Nat->Option Bl):Nat->List TypeId->List PV->(List (List PV)->List Nat->List Nat->List Nat->Option R)->Option R
 |_,[],ps,K=>Ad ps (K [] [] [] [])
 |i,t::ts,ps,K=>Aa ps fun p ps=>
  match p with
  |.pbox ws=>Do (V2 P t) fun e=>
    match hp (C9 N i) with
    |some (.st c)=>Z7 hp (G1 P e) ws c fun cs m z=>Xz P N hp (i+1) ts ps fun r m' z' q=>K (cs::r) (m++m') (z++z') (C9 N i::q)
    |_=>none
  |.tup _=>
    match hp (C9 N i) with
    |some (.ar false c)=>Xz P N hp (i+1) ts ps fun r m' z' q=>K (c::r) m' z' (C9 N i::q)
    |_=>none
  |_=>Xz P N hp (i+1) ts ps K
def XJ (rs:List ResultVar):Nat:=rs.foldl (fun m r=>match r with | .tmp t=>Agu m t | .cell a _=>Agu m a) 0
end
def AO (P:Program):Nat->List TypeId->Nat->Nat
 |_,[],m=>m
 |i,t::ts,m=>AO P (i+1) ts (match P.underlying t with|some (.pointer _)=>Agu m i|_=>m)
def ZV (C:F4)(P:Program)(f:FuncId)(fn:Func)(args:List PV)(s:St):Option Ay:=
 KN P (C.shr f) s fn.results.toList fn.resultTypes.toList fun vs m z=>Xz P fn.ntmps s.hp 0 fn.params.toList args fun os m' z' q=>
  Be (Dv ((m++m')++q)&&(z++z').all (fun i=> !(((m++m')++q).any (Nat.beq i)))) (some ⟨vs,os⟩)
noncomputable def Amg (C:F4)(P:Program)(fu:Nat)(call:Ax)(f:FuncId)(fn:Func)(c:Code)(args:List PV):Option Ay:=
  Afj P fn.ntmps 0 fn.params.toList args fun tms bs=>Be (Nat.ble args.length fn.ntmps&&Bo (fun _=>none) bs)
    (let lr:=AO P 0 fn.params.toList (XJ fn.results.toList)
     Mn C P fu fn.ntmps call c lr (fun _=>0) lr (ZV C P f fn args) (fun _ _=>none) (ZV C P f fn args) ⟨lk tms,Jt bs⟩)
noncomputable def Ae (C:F4)(P:Program)(fu:Nat):Nat->FuncId->List PV->Option Ay
 |0,_,_=>none
 |d+1,f,args=>
  match C.ext f with
  |some g=>g args
  |none=>
   match P.funcs[f]? with
   |none=>none
   |some fn=>match fn.body with
    |none=>none
    |some c=>Amg C.core P fu (Ae C P fu d) f fn c args
inductive Dir where
 |l
 |r
 |i (m:Nat)
section
variable {R:Type}
noncomputable def Ss (C:F4)(P:Program)(fu N:Nat)(call:Ax):List Dir->Code->Nat->(Nat->Nat)->Nat->(St->Option R)->(Nat->St->Option R)->(St->Option R)->Nat->St->Option R
 |[],.seq _ b,ln,lx,lr,kn,kx,kr,n,s=>AW n (fun s''=>Mn C P fu N call b ln lx lr kn kx kr s'') s
 |[],.loop c,ln,lx,lr,_,kx,kr,n,s=>Aev (fun k s'=>Mn C P fu N call c (Lo (.loop c) ln lx lr) lx lr k kx kr s') (Vc N (Lo (.loop c) ln lx lr)) n s
 |.l::p,.seq a b,ln,lx,lr,kn,kx,kr,n,s=>Ss C P fu N call p a (Lo b ln lx lr) lx lr (fun s'=>NW (Ac6 P a b) (NW (Z6 a b) (YI N (Lo b ln lx lr) s' (AW fu fun s''=>Mn C P fu N call b ln lx lr kn kx kr s'')) (Vc N (Lo b ln lx lr) s' (AW fu fun s''=>Mn C P fu N call b ln lx lr kn kx kr s''))) (Mn C P fu N call b ln lx lr kn kx kr s')) kx kr n s
 |.r::p,.seq _ b,ln,lx,lr,kn,kx,kr,n,s=>Ss C P fu N call p b ln lx lr kn kx kr n s
 |.l::p,.cond _ a _,ln,lx,lr,kn,kx,kr,n,s=>Ss C P fu N call p a ln lx lr kn kx kr n s
 |.r::p,.cond _ _ b,ln,lx,lr,kn,kx,kr,n,s=>Ss C P fu N call p b ln lx lr kn kx kr n s
 |.l::p,.block id c,ln,lx,lr,kn,kx,kr,n,s=>Ss C P fu N call p c ln (fun j=>bif Nat.beq j id then ln else lx j) lr kn (fun j s'=>bif Nat.beq j id then kn s' else kx j s') kr n s
 |.i m::p,.loop c,ln,lx,lr,_,kx,kr,n,s=>
  Ss C P fu N call p c (Lo (.loop c) ln lx lr) lx lr
   (fun s'=>Vc N (Lo (.loop c) ln lx lr) s' (Aev (fun k s'=>Mn C P fu N call c (Lo (.loop c) ln lx lr) lx lr k kx kr s') (Vc N (Lo (.loop c) ln lx lr)) m)) kx kr n s
 |_,_,_,_,_,_,_,_,_,_=>none
end
noncomputable def H9 (C:F4)(P:Program)(fu:Nat)(call:Ax)(f:FuncId)(fn:Func)(c:Code)(args:List PV)(p:List Dir)(n:Nat)(s:St):Option Ay:=
 let lr:=AO P 0 fn.params.toList (XJ fn.results.toList)
 Ss C P fu fn.ntmps call p c lr (fun _=>0) lr (ZV C P f fn args) (fun _ _=>none) (ZV C P f fn args) n s
def Ajb:List Nat:=[
 1000000]
def Ap5:List Nat:=[
 19,
 9,
 1000000]
def App:List Nat:=[
 1000000]
def Akf:List Nat:=[
 1000000]
def Anf:List Nat:=[
 1000000]
def TB (args:List PV):Option Ay:=
 match args with
 |[.sc (.string s)]=>bif decide (s.size<=9223372036854775807) then some ⟨[.sc (.bool (Lib.validD s.data.toList))],[]⟩ else none
 |_=>none
def T7:List Nat:=[
 93,
 77,
 87,
 67,
 90,
 88,
 105,
 114,
 115,
 71,
 72,
 70,
 52,
 36,
 94,
 73,
 53,
 37,
 61,
 60,
 1000000]
def A2l:List Nat:=[
 1000000]
def CB:F4:=⟨fun f=>Ap5.any (Nat.beq f),fun f i=>Nat.beq i 0&&Anf.any (Nat.beq f),fun f i=>(Nat.beq i 0&&App.any (Nat.beq f))||(Nat.beq i 2&&Akf.any (Nat.beq f)),fun f=>Ajb.any (Nat.beq f),fun _=>none,fun N=>A2l.any (Nat.beq N)⟩
def CX (xs:FuncId->Option (List PV->Option Ay)):F4:={ CB with ext:=fun f=>bif T7.any (Nat.beq f) then none else xs f }
def F1 (f:Func):Code:=match f.body with|some c=>c|none=>.skip
section
variable {R:Type} {r:Option R}
theorem A5 {k:IntKind}{p:PV}{K:Int->Option R}{n:Int}(h:p=.sc (.int k n)) (hk:K n=r):Ak k p K=r:=by
 subst h;unfold Ak;simp[hk]
theorem A0s {p:PV}{K:IntKind->Int->Option R}{k:IntKind}{n:Int}(h:p=.sc (.int k n)) (hk:K k n=r):Df p K=r:=by
 subst h;exact hk
theorem Av {p:PV}{K:Bool->Option R}{b:Bool}(h:p=.sc (.bool b)) (hk:K b=r):Ao p K=r:=by
 subst h;exact hk
theorem A2 {p:PV}{K:ByteArray->Option R}{s:ByteArray}(h:p=.sc (.string s)) (hk:K s=r):Az p K=r:=by
 subst h;exact hk
theorem Ac5 {es:Nat}{p:PV}{K:Bool->Nat->List PV->Option R}{z:Bool}{n:Nat}{c:List PV}(h:p=.lst z es n c)(hk:K z n c=r):Ke es p K=r:=by
 subst h;unfold Ke;simp[Nat.beq_refl,hk]
theorem Aeo {es:Nat}{p:PV}{K:Nat->List PV->Option R}{n:Nat}{c:List PV}(h:p=.own es n c)(hk:K n c=r):FE es p K=r:=by
 subst h;unfold FE;simp[Nat.beq_refl,hk]
theorem A3 {b:Bool}{K:Option R}(h:b=true)(hk:K=r):Be b K=r:=by
 subst h;exact hk
theorem A4 {b:Bool}{x y:Option R}(h:b=true)(hx:x=r):Bf b x y=r:=by
 subst h;exact hx
theorem A0 {b:Bool}{x y:Option R}(h:b=false)(hx:y=r):Bf b x y=r:=by
 subst h;exact hx
theorem Dx {α:Type}{o:Option α}{K:α->Option R}{a:α}(h:o=some a)(hk:K a=r):Do o K=r:=by
 subst h;exact hk
theorem As {α:Type}{l:List α}{K:α->List α->Option R}{a:α}{t:List α}(h:l=a::t)(hk:K a t=r):Aa l K=r:=by
 subst h;exact hk
theorem A1 {α:Type}{l:List α}{K:Option R}(h:l=[]) (hk:K=r):Ad l K=r:=by
 subst h;exact hk
theorem Js {p:PV}{K:List PV->Option R}{c:List PV}(h:p=.agg c)(hk:K c=r):E3 p K=r:=by
 subst h;exact hk
theorem Avi {p:PV}{K:List PV->Option R}{c:List PV}(h:p=.pbox c)(hk:K c=r):Si p K=r:=by
 subst h;exact hk
theorem At {o:Option Ay}{K:List PV->List (List PV)->Option R} {v:List PV}{q:List (List PV)} (h:o=some ⟨v,q⟩)(hk:K v q=r):Ah o K=r:=by
 subst h;exact hk
end
theorem ZI (a b:Int):(a==b)=decide (a=b):=by by_cases h:a=b<;>simp[h]
section
variable {R:Type}
theorem Z8 (v:List PV)(o:List (List PV)) (K:List PV->List (List PV)->Option R):Ah (some ⟨v,o⟩) K=K v o:=by exact id rfl
theorem LU {α:Type}(K:Option R):Ad ([]:List α) K=K:=by exact id rfl
theorem Z5 {α:Type}(a:α)(r:List α)(K:α->List α->Option R):Aa (a::r) K=K a r:=by exact id rfl
theorem AJ (b:Bool)(K:Bool->Option R):Ao (.sc (.bool b)) K=K b:=by exact id rfl
theorem JT (s:ByteArray)(K:ByteArray->Option R):Az (.sc (.string s)) K=K s:=by exact id rfl
theorem EL (k:IntKind)(n:Int)(K:Int->Option R):Ak k (.sc (.int k n)) K=K n:=by unfold Ak;simp
theorem Aee (k:IntKind)(n:Int)(K:IntKind->Int->Option R):Df (.sc (.int k n)) K=K k n:=by exact id rfl
theorem All (z:Bool)(es n:Nat)(c:List PV)(K:Bool->Nat->List PV->Option R):Ke es (.lst z es n c) K=K z n c:=by unfold Ke;simp
theorem Akj (es n:Nat)(c:List PV)(K:Nat->List PV->Option R):FE es (.own es n c) K=K n c:=by unfold FE;simp
theorem Afl (c:List PV)(K:List PV->Option R):E3 (.agg c) K=K c:=by exact id rfl
theorem WZ (c:List PV)(K:List PV->Option R):Si (.pbox c) K=K c:=by exact id rfl
theorem Af9 {α:Type}(a:α)(K:α->Option R):Do (some a) K=K a:=by exact id rfl
theorem Lk {α:Type}(a:α)(K:α->Option R):Ac a K=K a:=by exact id rfl
theorem Afk (K:Option R):Be true K=K:=by exact id rfl
theorem LS (p:Prop) [Decidable p] (K:Option R)(h:p):Be (decide p) K=K:=by simp[Be,h]
theorem YE (b c:Bool)(K:Option R):Be (b&&c) K=Be b (Be c K):=by cases b<;>rfl
theorem JL (x y:Option R):Bf true x y=x:=by exact id rfl
theorem JX (x y:Option R):Bf false x y=y:=by exact id rfl
theorem CF (p:Prop) [Decidable p] (x y:Option R)(h:p):Bf (decide p) x y=x:=by simp[Bf,h]
theorem BU (p:Prop) [Decidable p] (x y:Option R)(h:¬p):Bf (decide p) x y=y:=by simp[Bf,h]
theorem Aom (p:Prop) [Decidable p] (x y:Option R):Bf (decide p) x y=if p then x else y:=by by_cases h:p<;>simp[Bf,h]
theorem XO (a b:Int)(x y:Option R):Bf (a==b) x y=if a=b then x else y:=by
 rw[ZI,Aom]
theorem XD (x:Option R):GZ x x=x:=by unfold GZ;simp
end
theorem Bd {x:Int}(h1: -9223372036854775808<=x)(h2:x<=9223372036854775807):IntKind.wrap .i64 x=x:=by
 have:=IntWalk.i64_in x (by omega)
 exact this
theorem I4 {x:Int}(h1:0<=x)(h2:x<=18446744073709551615):IntKind.wrap .u64 x=x:=by
 simp only[IntKind.wrap,IntKind.signed,IntKind.bits];simp;omega
theorem AD {x:Int}(h1:0<=x)(h2:x<=255):IntKind.wrap .u8 x=x:=by
 simp only[IntKind.wrap,IntKind.signed,IntKind.bits];simp;omega
theorem CC (x:Int):0<=IntKind.wrap .u64 x∧IntKind.wrap .u64 x<=18446744073709551615:=by
 simp only[IntKind.wrap,IntKind.signed,IntKind.bits];simp;omega
theorem Rb {α:Type}{l r:List α}{x:α}{i:Nat}(h:l.drop i=x::r):i<l.length∧l[i]?=some x∧l.drop (i+1)=r:=by
 have h1:i<l.length:=by
  rcases Nat.lt_or_ge i l.length with h1|h1
  ·exact h1
  ·rw[List.drop_of_length_le h1] at h;cases h
 rw[List.drop_eq_getElem_cons h1] at h;injection h with h2 h3;exact⟨h1,by rw[List.getElem?_eq_getElem h1,h2],h3⟩
theorem drop_nil {α:Type}{l:List α}{i:Nat}(h:l.drop i=[]):l.length<=i:=by
 have:=congrArg List.length h;simp at this;omega
section
variable {α:Type} {f:α->List PV} {k:Nat}
theorem Afu (hf:∀x,(f x).length=k):∀(l:List α),(l.flatMap f).length=l.length*k
 |[]=>by simp
 |x::l=>by simp[hf x,Afu hf l,Nat.succ_mul];omega
theorem WS (hf:∀x,(f x).length=k):∀(l:List α)(i:Nat),(l.flatMap f).drop (i*k)=(l.drop i).flatMap f
 |l,0=>by simp
 |[],i+1=>by simp
 |x::l,i+1=>by
  rw[List.flatMap_cons,Nat.succ_mul,Nat.add_comm,←List.drop_drop,List.drop_append_of_le_length (by rw[hf x];omega)]
  rw[show (f x).drop k=[] from List.drop_of_length_le (by rw[hf x];omega),List.nil_append]
  exact WS hf l i
theorem XZ (hf:∀x,(f x).length=k):∀(l:List α)(i:Nat),(l.flatMap f).take (i*k)=(l.take i).flatMap f
 |l,0=>by simp
 |[],i+1=>by simp
 |x::l,i+1=>by
  rw[List.flatMap_cons,Nat.succ_mul,Nat.add_comm,List.take_succ_cons,List.flatMap_cons,←XZ hf l i];rw[show k+i*k=(f x).length+i*k by rw[hf x],List.take_length_add_append]
theorem Ary (hf:∀x,(f x).length=k) {l:List α}{i:Nat}{x:α}(h:l[i]?=some x) {j:Nat}(hj:j<k):(l.flatMap f).getD (i*k+j) .top=(f x).getD j .top:=by
 have h1:((l.flatMap f).drop (i*k))[j]?=(l.flatMap f)[i*k+j]?:=List.getElem?_drop;rw[WS hf] at h1
 have h2:i<l.length:=by
  rcases Nat.lt_or_ge i l.length with h1|h1
  ·exact h1
  ·rw[List.getElem?_eq_none h1] at h;cases h
 rw[List.drop_eq_getElem_cons h2,List.flatMap_cons] at h1;have h3:l[i]=x:=by rw[List.getElem?_eq_getElem h2] at h;injection h
 rw[h3,List.getElem?_append_left (by rw[hf x];exact hj)] at h1
 simp only[List.getD_eq_getElem?_getD,←h1]
theorem AR {c:List PV}{p:PV}{i:Nat}(h:i<c.length):Ca c [p] i=c.set i p:=by
 unfold Ca;rw[List.set_eq_take_append_cons_drop,if_pos h];simp
end
theorem Anh {α:Type}{l:List α}{i:Nat}{x:α}(h:l[i]?=some x):i<l.length:=by
 rcases Nat.lt_or_ge i l.length with h1|h1
 ·exact h1
 ·rw[List.getElem?_eq_none h1] at h;cases h
abbrev Am9 (k:IntKind)(n:Int):List PV:=[.sc (.int k n)]
abbrev Bk (k:IntKind)(l:List Int):List PV:=l.flatMap (Am9 k)
theorem EO (k:IntKind)(n:Int):(Am9 k n).length=1:=rfl
theorem ati {k:IntKind}{l:List Int}{i:Nat}{n:Int}(h:l[i]?=some n):(Bk k l).getD i .top=.sc (.int k n):=by
 have:=Ary (EO k) h (j:=0) (by omega)
 simpa using this
theorem Dh (k:IntKind)(l:List Int):(Bk k l).length=l.length:=by rw[Afu (EO k)];omega
theorem Agg (k:IntKind)(l:List Int)(n:Int):Bk k l++[.sc (.int k n)]=Bk k (l++[n]):=by simp
theorem tki (k:IntKind)(l:List Int):List.take l.length (Bk k l)=Bk k l:=List.take_of_length_le (by rw[Dh];omega)
theorem Dg:type_of% @Z8∧type_of% @LU∧type_of% @Z5∧type_of% @AJ∧type_of% @JT∧type_of% @EL∧type_of% @Aee∧type_of% @All∧type_of% @Akj∧type_of% @Afl∧type_of% @WZ∧type_of% @Af9∧type_of% @Lk∧type_of% @Afk∧type_of% @LS∧type_of% @YE∧type_of% @JL∧type_of% @JX∧type_of% @CF∧type_of% @BU∧type_of% @XD∧type_of% @Bool.not_true∧type_of% @Bool.not_false∧type_of% @Bool.false_eq_true∧type_of% @if_true.{1}∧type_of% @if_false.{1}∧type_of% @Bool.true_and∧type_of% @Bool.and_true∧type_of% @Bool.false_and∧type_of% @Bool.and_false∧type_of% @decide_true∧type_of% @decide_false:=
 ⟨@Z8,@LU,@Z5,@AJ,@JT,@EL,@Aee,@All,@Akj,@Afl,@WZ,@Af9,@Lk,@Afk,@LS,@YE,@JL,@JX,@CF,@BU,@XD,@Bool.not_true,@Bool.not_false,@Bool.false_eq_true,@if_true.{1},@if_false.{1},@Bool.true_and,@Bool.and_true,@Bool.false_and,@Bool.and_false,@decide_true,@decide_false⟩
theorem gT:type_of% @Bool.and_eq_true∧type_of% @decide_eq_true_eq∧type_of% @beq_iff_eq.{0}∧type_of% @bne_iff_ne.{0}∧type_of% @ne_eq.{1}∧type_of% @Bool.not_eq_true'∧type_of% @true_and∧type_of% @and_true:=
 ⟨@Bool.and_eq_true,@decide_eq_true_eq,@beq_iff_eq.{0},@bne_iff_ne.{0},@ne_eq.{1},@Bool.not_eq_true',@true_and,@and_true⟩
theorem gF:type_of% @decide_eq_false_iff_not∧type_of% @beq_eq_false_iff_ne.{0}∧type_of% @bne_eq_false_iff_eq.{0}∧type_of% @ne_eq.{1}∧type_of% @Bool.not_eq_false':=
 ⟨@decide_eq_false_iff_not,@beq_eq_false_iff_ne.{0},@bne_eq_false_iff_eq.{0},@ne_eq.{1},@Bool.not_eq_false'⟩
end
section
open Go.RowKit
def Bc {α β:Type}(R:α->β->Prop):List α->List β->Prop
 |[],[]=>True
 |a::zs,b::bs=>R a b∧Bc R zs bs
 |_,_=>False
section
variable {α β γ:Type} {R S:α->β->Prop}
theorem Bc.len:∀{zs:List α}{bs:List β},Bc R zs bs->zs.length=bs.length
 |[],[],_=>rfl
 |_::_,_::_,h=>by simp[Bc.len h.2]
 |[],_::_,h=>h.elim
 |_::_,[],h=>h.elim
theorem Bc.at_:∀{zs:List α}{bs:List β},Bc R zs bs->∀{i:Nat} {a b},zs[i]?=some a->bs[i]?=some b->R a b
 |[],[],_,i,a,b,h,_=>by simp at h
 |_::_,_::_,h,0,a,b,ha,hb=>by simp at ha hb;subst ha;subst hb;exact h.1
 |_::_,_::_,h,i+1,a,b,ha,hb=>by simp at ha hb;exact Bc.at_ h.2 ha hb
 |[],_::_,h,_,_,_,_,_=>h.elim
 |_::_,[],h,_,_,_,_,_=>h.elim
theorem Bc.of_at:∀{zs:List α}{bs:List β},zs.length=bs.length->(∀(i:Nat) a b,zs[i]?=some a->bs[i]?=some b->R a b)->Bc R zs bs
 |[],[],_,_=>trivial
 |a::zs,b::bs,hl,h=>⟨h 0 a b rfl rfl,Bc.of_at (by simpa using hl) fun i x y hx hy=>h (i+1) x y hx hy⟩
 |[],_::_,hl,_=>by simp at hl
 |_::_,[],hl,_=>by simp at hl
theorem Bc.mono (hRS:∀a b,R a b->S a b):∀{zs:List α}{bs:List β},Bc R zs bs->Bc S zs bs
 |[],[],_=>trivial
 |_::_,_::_,h=>⟨hRS _ _ h.1,Bc.mono hRS h.2⟩
 |[],_::_,h=>h.elim
 |_::_,[],h=>h.elim
theorem Bc.mono_mem:∀{zs:List α}{bs:List β},(∀a∈zs,∀b,R a b->S a b)->Bc R zs bs->Bc S zs bs
 |[],[],_,_=>trivial
 |a::_,_::_,hRS,h=>⟨hRS a (by simp) _ h.1,Bc.mono_mem (fun x hx=>hRS x (by simp[hx])) h.2⟩
 |[],_::_,_,h=>h.elim
 |_::_,[],_,h=>h.elim
theorem Bc.app:∀{zs:List α}{bs:List β}{as':List α}{bs':List β},Bc R zs bs->Bc R as' bs'->Bc R (zs++as') (bs++bs')
 |[],[],_,_,_,h'=>h'
 |_::_,_::_,_,_,h,h'=>⟨h.1,Bc.app h.2 h'⟩
 |[],_::_,_,_,h,_=>h.elim
 |_::_,[],_,_,h,_=>h.elim
theorem Bc.take:∀(n:Nat){zs:List α}{bs:List β},Bc R zs bs->Bc R (zs.take n) (bs.take n)
 |0,_,_,_=>by simp[Bc]
 |_+1,[],[],_=>trivial
 |n+1,_::_,_::_,h=>⟨h.1,Bc.take n h.2⟩
 |_+1,[],_::_,h=>h.elim
 |_+1,_::_,[],h=>h.elim
theorem Bc.drop:∀(n:Nat){zs:List α}{bs:List β},Bc R zs bs->Bc R (zs.drop n) (bs.drop n)
 |0,_,_,h=>h
 |_+1,[],[],_=>trivial
 |n+1,_::_,_::_,h=>Bc.drop n h.2
 |_+1,[],_::_,h=>h.elim
 |_+1,_::_,[],h=>h.elim
end
inductive Au (w:World) (A:Nat->Prop):PV->Value->Prop where
 |sc (v:Value):Au w A (.sc v) v
 |top (v:Value):Au w A .top v
 |ub (b:Bool):Au w A .ub (.bool b)
 |lnil (z:Bool) (es:Nat):Au w A (.lst z es 0 []) (.slice none 0 0)
 |lemp (es:Nat) (a:Addr) (cap:Nat):Au w A (.lst false es 0 []) (.slice (some a) 0 cap)
 |lst (es n:Nat) (cells:List PV) (a:Addr) (cap:Nat) (f:Nat->Value) (hs:a.spot=none) (hb:a.block<w.heap.size) (hA:¬A a.block) (hn:n<=cap)
   (hc:∀j c,cells[j]?=some c->w.cell? (a.add j)=some (f j)) (h1:∀j c,cells[j]?=some c->(f j).oneCell'=true) (hr:∀j c,cells[j]?=some c->Au w A c (f j)):Au w A (.lst false es n cells) (.slice (some a) n cap)
def bsz (w:World)(b:Nat):Nat:=
 match w.heap[b]? with
 |some (.cells c _ _)=>c.size
 |_=>0
def NJ (w:World)(b:Nat):Bool:=w.frozen? ⟨b,bsz w b,none⟩
def Fit (w:World)(es b e:Nat):Prop:=e<=bsz w b∧(es=1∨NJ w b=false)
def Gf (w w':World)(b:Nat):Prop:=bsz w b<=bsz w' b∧(NJ w b=false->NJ w' b=false)
theorem Gf.refl (w:World)(b:Nat):Gf w w b:=⟨Nat.le_refl _,id⟩
theorem Gf.same {w w':World}{b:Nat}(h:w'.heap[b]?=w.heap[b]?):Gf w w' b:=by
 have e:bsz w' b=bsz w b:=by unfold bsz;rw[h]
 refine⟨by rw[e];exact Nat.le_refl _,fun q=>?_⟩
 unfold NJ at q ⊢;rw[e];unfold World.frozen? at q ⊢;simp only[h];exact q
theorem Gf.trans {w w' w'':World}{b:Nat}(h:Gf w w' b)(h':Gf w' w'' b):Gf w w'' b:=⟨Nat.le_trans h.1 h'.1,fun q=>h'.2 (h.2 q)⟩
theorem Fit.step {w w':World}{es b e:Nat}(h:Fit w es b e)(hb:Gf w w' b):Fit w' es b e:=⟨Nat.le_trans h.1 hb.1,h.2.imp id hb.2⟩
def RY (w:World)(A:Nat->Prop)(a:Addr)(cells:List PV):Prop:=∀j c,cells[j]?=some c->∃v,w.cell? (a.add j)=some v∧v.oneCell'=true∧Au w A c v
def Bw (w:World)(A:Nat->Prop)(β:Nat->Option (Nat × Nat)) (p:PV)(v:Value):Prop:=
 match p with
 |.view id es off n=>(β id=none∧off=0∧n=0∧∃ad,v=.slice ad 0 0) ∨
   ∃b o x cap,β id=some (b,o)∧v=.slice (some ⟨b,x,none⟩) n cap∧(x=o+off∨(n=0∧off≠0))∧n<=cap∧Fit w es b (x+cap*es)∧b<w.heap.size
 |.ptr id off=>∃b o,β id=some (b,o)∧v=.pointer (some ⟨b,o+off,none⟩)
 |.iptr c off=>∃a:Addr,v=.pointer (some (a.add off))∧a.spot=none∧a.block<w.heap.size∧¬A a.block∧RY w A a c
 |p=>Au w A p v
def Gt (w:World)(A:Nat->Prop)(β:Nat->Option (Nat × Nat)) (p:PV)(v:Value):Prop:=
 match p with
 |.agg cs=>∃vs,v=.agg ⟨vs⟩∧Bc (Bw w A β) cs vs
 |p=>Bw w A β p v
def D5 (w:World)(A:Nat->Prop)(β:Nat->Option (Nat × Nat)) (p:PV)(v:Value):Prop:=
 match p with
 |.tup ps=>∃vs,v=.tuple ⟨vs⟩∧Bc (Gt w A β) ps vs
 |p=>Gt w A β p v
structure B6 (A:Nat->Prop) (w w':World):Prop where
 size:w.heap.size<=w'.heap.size
 keep:∀b,b<w.heap.size->¬A b->w'.heap[b]?=w.heap[b]?
 bs:∀b,b<w.heap.size->Gf w w' b
theorem Eg (a:Addr)(j:Nat):(a.add j).block=a.block:=by unfold Addr.add;split<;>rfl
theorem add_add (a:Addr)(i j:Nat):(a.add i).add j=a.add (i+j):=by
 unfold Addr.add;by_cases hi:i=0<;>by_cases hj:j=0<;>simp[hi,hj,Nat.add_assoc]
theorem Eb (b o j:Nat):(⟨b,o,none⟩:Addr).add j=⟨b,o+j,none⟩:=by
 unfold Addr.add;by_cases hj:j=0<;>simp[hj]
theorem Acr {a:Addr}(h:a.spot=none)(j:Nat):(a.add j).spot=none:=by unfold Addr.add;split<;>simp[h]
section
variable {w w':World} {A A':Nat->Prop} {β β':Nat->Option (Nat × Nat)}
theorem B6.cell (h:B6 A w w'){a:Addr}(hb:a.block<w.heap.size)(hA:¬A a.block):w'.cell? a=w.cell? a:=
 World.cell?_of_block (h.keep a.block hb hA)
theorem Au.step (h:B6 A w w')(hA:∀b,b<w.heap.size->A' b->A b){p:PV}{v:Value}(t:Au w A p v):Au w' A' p v:=by
 induction t with
 |sc v=>exact .sc v
 |top v=>exact .top v
 |ub b=>exact .ub b
 |lnil z es=>exact .lnil z es
 |lemp es a cap=>exact .lemp es a cap
 |lst es n cells a cap f hs hb hA1 hn hc h1 hr ih=>
  refine .lst es n cells a cap f hs (Nat.lt_of_lt_of_le hb h.size) (fun x=>hA1 (hA _ hb x)) hn (fun j c hj=>?_) h1 (fun j c hj=>ih j c hj)
  rw[h.cell (by rw[Eg];exact hb) (by rw[Eg];exact hA1)]
  exact hc j c hj
theorem RY.step (h:B6 A w w')(hA:∀b,b<w.heap.size->A' b->A b){a:Addr}(hb:a.block<w.heap.size)(hn:¬A a.block){cells:List PV}(t:RY w A a cells):RY w' A' a cells:=by
 intro j c hj;obtain⟨v,hv,h1,ht⟩:=t j c hj;exact⟨v,by rw[h.cell (by rw[Eg];exact hb) (by rw[Eg];exact hn)];exact hv,h1,ht.step h hA⟩
theorem Bw.step (h:B6 A w w')(hA:∀b,b<w.heap.size->A' b->A b){p:PV}{v:Value}(hβ:∀id∈An p,β' id=β id)(t:Bw w A β p v):Bw w' A' β' p v:=by
 cases p with
 |view id es off n=>
  have e:=hβ id (by simp[An])
  rcases t with⟨h1,h2,h3,h4⟩|⟨b,o,x,cap,h1,h2,hx,h3,h4,h5⟩
  ·exact .inl ⟨by rw[e];exact h1,h2,h3,h4⟩
  ·exact .inr ⟨b,o,x,cap,by rw[e];exact h1,h2,hx,h3,h4.step (h.bs b h5),Nat.lt_of_lt_of_le h5 h.size⟩
 |ptr id off=>
  have e:=hβ id (by simp[An])
  obtain⟨b,o,h1,h2⟩:=t;exact⟨b,o,by rw[e];exact h1,h2⟩
 |iptr c off=>
  obtain⟨a,h1,h2,h3,h4,h5⟩:=t;exact⟨a,h1,h2,Nat.lt_of_lt_of_le h3 h.size,fun x=>h4 (hA _ h3 x),h5.step h hA h3 h4⟩
 |sc v=>exact Au.step h hA t
 |lst z es n c=>exact Au.step h hA t
 |own es n c=>exact Au.step h hA t
 |pbox c=>exact Au.step h hA t
 |agg c=>exact Au.step h hA t
 |tup c=>exact Au.step h hA t
 |top=>exact Au.step h hA t
 |ub=>exact Au.step h hA t
theorem Gt.step (h:B6 A w w')(hA:∀b,b<w.heap.size->A' b->A b){p:PV}{v:Value}(hβ:∀id∈B8 p,β' id=β id)(t:Gt w A β p v):Gt w' A' β' p v:=by
 cases p with
 |agg cs=>
  obtain⟨vs,rfl,h2⟩:=t;exact⟨vs,rfl,h2.mono_mem fun c hc v hv=>hv.step h hA fun id Bh=>hβ id (by simp only[B8,List.mem_flatMap];exact⟨c,hc,Bh⟩)⟩
 |sc x=>exact Bw.step (p:=.sc x) h hA hβ t
 |lst x y z u=>exact Bw.step (p:=.lst x y z u) h hA hβ t
 |own x y z=>exact Bw.step (p:=.own x y z) h hA hβ t
 |view x y z u=>exact Bw.step (p:=.view x y z u) h hA hβ t
 |ptr x y=>exact Bw.step (p:=.ptr x y) h hA hβ t
 |iptr x y=>exact Bw.step (p:=.iptr x y) h hA hβ t
 |pbox x=>exact Bw.step (p:=.pbox x) h hA hβ t
 |tup x=>exact Bw.step (p:=.tup x) h hA hβ t
 |top=>exact Bw.step (p:=.top) h hA hβ t
 |ub=>exact Bw.step (p:=.ub) h hA hβ t
theorem D5.step (h:B6 A w w')(hA:∀b,b<w.heap.size->A' b->A b){p:PV}{v:Value}(hβ:∀id∈Br p,β' id=β id)(t:D5 w A β p v):D5 w' A' β' p v:=by
 cases p with
 |tup cs=>
  obtain⟨vs,rfl,h2⟩:=t;exact⟨vs,rfl,h2.mono_mem fun c hc v hv=>hv.step h hA fun id Bh=>hβ id (by simp only[Br,List.mem_flatMap];exact⟨c,hc,Bh⟩)⟩
 |sc x=>exact Gt.step (p:=.sc x) h hA hβ t
 |lst x y z u=>exact Gt.step (p:=.lst x y z u) h hA hβ t
 |own x y z=>exact Gt.step (p:=.own x y z) h hA hβ t
 |view x y z u=>exact Gt.step (p:=.view x y z u) h hA hβ t
 |ptr x y=>exact Gt.step (p:=.ptr x y) h hA hβ t
 |iptr x y=>exact Gt.step (p:=.iptr x y) h hA hβ t
 |pbox x=>exact Gt.step (p:=.pbox x) h hA hβ t
 |top=>exact Gt.step (p:=.top) h hA hβ t
 |ub=>exact Gt.step (p:=.ub) h hA hβ t
 |agg x=>exact Gt.step (p:=.agg x) h hA hβ t
theorem B6.refl (A:Nat->Prop)(w:World):B6 A w w:=⟨Nat.le_refl _,fun _ _ _=>rfl,fun _ _=>Gf.refl _ _⟩
theorem RY.weak (hA:∀b,b<w.heap.size->A' b->A b){a:Addr}{cells:List PV}(t:RY w A a cells):RY w A' a cells:=by
 intro j c hj;obtain⟨v,hv,h1,ht⟩:=t j c hj;exact⟨v,hv,h1,ht.step (B6.refl A w) hA⟩
theorem B6.trans {w'':World}(h:B6 A w w')(h':B6 A' w' w'')(hA:∀b,b<w.heap.size->A' b->A b):B6 A w w'':=
  ⟨Nat.le_trans h.size h'.size,fun b hb hn=>(h'.keep b (Nat.lt_of_lt_of_le hb h.size) (fun x=>hn (hA b hb x))).trans (h.keep b hb hn),
   fun b hb=>(h.bs b hb).trans (h'.bs b (Nat.lt_of_lt_of_le hb h.size))⟩
theorem B6.weaken (h:B6 A w w')(hA:∀b,b<w.heap.size->A b->A' b):B6 A' w w':=⟨h.size,fun b hb hn=>h.keep b hb (fun x=>hn (hA b hb x)),h.bs⟩
end
section
variable {R:Type} {r:R}
theorem D7 {k:IntKind}{p:PV}{K:Int->Option R}(h:Ak k p K=some r):∃n,p=.sc (.int k n)∧K n=some r:=by
 unfold Ak at h;split at h
 ·split at h
  ·rename_i hk;subst hk;exact⟨_,rfl,h⟩
  ·cases h
 ·cases h
theorem Di {p:PV}{K:Bool->Option R}(h:Ao p K=some r):∃b,p=.sc (.bool b)∧K b=some r:=by
 unfold Ao at h;split at h
 ·exact⟨_,rfl,h⟩
 ·cases h
theorem Dd {p:PV}{K:ByteArray->Option R}(h:Az p K=some r):∃b,p=.sc (.string b)∧K b=some r:=by
 unfold Az at h;split at h
 ·exact⟨_,rfl,h⟩
 ·cases h
theorem Db {p:PV}{K:IntKind->Int->Option R}(h:Df p K=some r):∃k n,p=.sc (.int k n)∧K k n=some r:=by
 unfold Df at h;split at h
 ·exact⟨_,_,rfl,h⟩
 ·cases h
theorem Al {b:Bool}{K:Option R}(h:Be b K=some r):b=true∧K=some r:=by
 unfold Be at h;cases b
 ·cases h
 ·exact⟨rfl,h⟩
theorem B7 {α:Type}{o:Option α}{K:α->Option R}(h:Do o K=some r):∃a,o=some a∧K a=some r:=by
 unfold Do at h;split at h
 ·exact⟨_,rfl,h⟩
 ·cases h
theorem A7 {α:Type}{l:List α}{K:α->List α->Option R}(h:Aa l K=some r):∃a t,l=a::t∧K a t=some r:=by
 unfold Aa at h;split at h
 ·exact⟨_,_,rfl,h⟩
 ·cases h
theorem Dc {α:Type}{l:List α}{K:Option R}(h:Ad l K=some r):l=[]∧K=some r:=by
 unfold Ad at h;split at h
 ·exact⟨rfl,h⟩
 ·cases h
theorem Gb {p:PV}{K:List PV->Option R}(h:E3 p K=some r):∃c,p=.agg c∧K c=some r:=by
 unfold E3 at h;split at h
 ·exact⟨_,rfl,h⟩
 ·cases h
theorem HW {p:PV}{K:List PV->Option R}(h:Si p K=some r):∃c,p=.pbox c∧K c=some r:=by
 unfold Si at h;split at h
 ·exact⟨_,rfl,h⟩
 ·cases h
theorem XX {p:PV}{K:Value->Option R}(h:fnK p K=some r):∃v,p=.sc v∧v.oneCell'=true∧K v=some r:=by
 unfold fnK at h;split at h
 ·exact⟨_,rfl,rfl,h⟩
 ·exact⟨_,rfl,rfl,h⟩
 ·cases h
theorem Ah0 {p:PV}{K:FuncId->Option R}(h:fvK p K=some r):∃f,p=.sc (.func (.func f) #[] #[])∧K f=some r:=by
 unfold fvK at h;split at h
 ·rename_i f a b;cases hb:(a.isEmpty&&b.isEmpty)<;>rw[hb] at h
  ·cases h
  ·simp only[Bool.and_eq_true,Array.isEmpty_iff] at hb;rw[hb.1,hb.2];exact⟨f,rfl,h⟩
 ·cases h
theorem GW {o:Option Ay}{K:List PV->List (List PV)->Option R} (h:Ah o K=some r):∃v x,o=some ⟨v,x⟩∧K v x=some r:=by
 unfold Ah at h;split at h
 ·exact⟨_,_,rfl,h⟩
 ·cases h
theorem Kl {b:Bool}{x y:Option R}(h:Bf b x y=some r):(b=true∧x=some r)∨(b=false∧y=some r):=by
 unfold Bf at h;cases b
 ·exact .inr ⟨rfl,h⟩
 ·exact .inl ⟨rfl,h⟩
theorem Ew {es:Nat}{p:PV}{K:Bool->Nat->List PV->Option R}(h:Ke es p K=some r):
  ∃z n c,K z n c=some r∧(p=.lst z es n c∨(p=.sc (.slice none 0 0)∧z=true∧n=0∧c=[])):=by
 unfold Ke at h;split at h
 ·rename_i z es' n c;cases hb:Nat.beq es' es
  ·rw[hb] at h;cases h
  ·rw[hb] at h;have:=Nat.eq_of_beq_eq_true hb;subst this;exact⟨z,n,c,h,.inl rfl⟩
 ·exact⟨true,0,[],h,.inr ⟨rfl,rfl,rfl,rfl⟩⟩
 ·cases h
def Sg:PV->Prop
 |.sc _=>True
 |.lst _ _ _ _=>True
 |_=>False
def GD:PV->Prop
 |.sc _=>True
 |.lst _ _ _ _=>True
 |.view _ _ _ _=>True
 |_=>False
theorem Ok {c:PV}(h:Sg c):GD c:=by
 cases c<;>first|trivial|exact h.elim
theorem Gq {c:PV}(h:Sg c):An c=[]:=by
 cases c<;>first|rfl|exact h.elim
variable {w:World} {A:Nat->Prop} {β:Nat->Option (Nat × Nat)}
theorem Jh {c:PV}{v:Value}(h:Sg c):Bw w A β c v↔Au w A c v:=by
 cases c<;>first|exact Iff.rfl|exact h.elim
theorem V0 {c:PV}{v:Value}(h:∀cs,c ≠ .agg cs):Gt w A β c v↔Bw w A β c v:=by
 cases c<;>first|exact Iff.rfl|exact absurd rfl (h _)
theorem Mc {c:PV}{v:Value}(h:∀cs,c ≠ .tup cs):D5 w A β c v↔Gt w A β c v:=by
 cases c<;>first|exact Iff.rfl|exact absurd rfl (h _)
theorem Vx {c:PV}(h:Sg c)(cs:List PV):c ≠ .agg cs:=by rintro rfl;exact h
theorem YL {c:PV}(h:Sg c)(cs:List PV):c ≠ .tup cs:=by rintro rfl;exact h
theorem Au.val {v u:Value}(h:Au w A (.sc v) u):u=v:=by cases h;rfl
theorem Sp {es n:Nat}{z:Bool}{c:List PV}{p:PV}{v:Value}(h:p=.lst z es n c∨(p=.sc (.slice none 0 0)∧z=true∧n=0∧c=[])) (hv:Bw w A β p v):Au w A (.lst z es n c) v:=by
 rcases h with rfl|⟨rfl,rfl,rfl,rfl⟩
 ·exact hv
 ·have:=Au.val (w:=w) (A:=A) hv;subst this;exact .lnil true es
theorem Kc {t:CT}{p:PV}{K:PV->Option R}(h:Xg t p K=some r):
  ∃c,K c=some r∧Sg c∧Sg p∧∀(w:World) (A:Nat->Prop) (β:Nat->Option (Nat × Nat)) (v:Value),Bw w A β p v->Au w A c v∧v.oneCell'=true:=by
 cases t with
 |int k=>obtain⟨n,rfl,h2⟩:=D7 h;exact⟨_,h2,trivial,trivial,fun w A β v hv=>⟨hv,by have:=Au.val (w:=w) (A:=A) hv;subst this;rfl⟩⟩
 |bool=>obtain⟨n,rfl,h⟩:=Di h;exact⟨_,h,trivial,trivial,fun w A β v hv=>⟨hv,by have:=Au.val (w:=w) (A:=A) hv;subst this;rfl⟩⟩
 |str=>obtain⟨n,rfl,h⟩:=Dd h;exact⟨_,h,trivial,trivial,fun w A β v hv=>⟨hv,by have:=Au.val (w:=w) (A:=A) hv;subst this;rfl⟩⟩
 |sl es=>
  obtain⟨z,n,c,h,hp⟩:=Ew h;refine⟨_,h,trivial,?_,fun w A β v hv=>⟨Sp hp hv,?_⟩⟩
  ·rcases hp with rfl|⟨rfl,_⟩<;>trivial
  ·have ht:=Sp hp hv;cases ht<;>rfl
 |any=>
  obtain⟨u,rfl,h1,h2⟩:=XX (show fnK p (fun v=>K (.sc v))=some r from h)
  exact⟨_,h2,trivial,trivial,fun w A β v hv=>⟨hv,by have:=Au.val (w:=w) (A:=A) hv;subst this;exact h1⟩⟩
theorem Aie {t:CT}{p:PV}{K:PV->Option R}(h:fcK t p K=some r):
  ∃c,K c=some r∧(Sg c∨c=p)∧GD p∧p ≠ .top∧(∀cs,c ≠ .agg cs)∧(∀cs,c ≠ .tup cs)∧(∀id,id∈An c->id∈An p)∧∀(w:World) (A:Nat->Prop) (β:Nat->Option (Nat × Nat)) (v:Value),Bw w A β p v->Bw w A β c v∧v.oneCell'=true:=by
 have tree:∀t',Xg t' p K=some r->∃c,K c=some r∧(Sg c∨c=p)∧GD p∧p ≠ .top∧(∀cs,c ≠ .agg cs)∧(∀cs,c ≠ .tup cs)∧(∀id,id∈An c->id∈An p)∧∀(w:World) (A:Nat->Prop) (β:Nat->Option (Nat × Nat)) (v:Value),Bw w A β p v->Bw w A β c v∧v.oneCell'=true:=by
  intro t' h;obtain⟨c,h,hc,hp,hv⟩:=Kc h;exact⟨c,h,.inl hc,Ok hp,by rintro rfl;exact hp,Vx hc,YL hc,by rw[Gq hc];simp,fun w A β v h=>⟨(Jh hc).2 (hv w A β v h).1,(hv w A β v h).2⟩⟩
 cases t with
 |sl es=>
  unfold fcK fsK at h;dsimp only at h;split at h
  ·rename_i id es' off n;cases hb:Nat.beq es' es
   ·rw[hb] at h;cases h
   ·rw[hb] at h;have:=Nat.eq_of_beq_eq_true hb;subst this;exact⟨_,h,.inr rfl,trivial,by simp,by simp,by simp,fun _ h=>h,fun _ _ _ _ h=>⟨h,by rcases h with⟨_,_,_,_,rfl⟩|⟨_,_,_,_,_,rfl,_⟩<;>rfl⟩⟩
  ·exact tree (.sl es) h
 |int k=>exact tree (.int k) h
 |bool=>exact tree (.bool) h
 |str=>exact tree (.str) h
 |any=>exact tree (.any) h
theorem Yi {cells:List PV}{i:Nat}{p:PV}(h:cells.getD i .top=p)(hp:p ≠ .top):cells[i]?=some p:=by
 rw[List.getD_eq_getElem?_getD] at h;cases hc:cells[i]? with
 |none=>rw[hc] at h;exact absurd h.symm hp
 |some q=>rw[hc] at h;simp at h;rw[h]
theorem P4:∀{ts:List CT}{cells:List PV}{off:Nat}{K:List PV->Option R},Pb ts cells off K=some r ->
  ∃cs,K cs=some r∧cs.length=ts.length∧∀j c,cs[j]?=some c->Sg c∧∃p,cells[off+j]?=some p∧Sg p ∧
   ∀(w:World) (A:Nat->Prop) (β:Nat->Option (Nat × Nat)) (v:Value),Bw w A β p v->Au w A c v∧v.oneCell'=true
 |[],_,_,_,h=>⟨[],h,rfl,fun j c hj=>by simp at hj⟩
 |t::ts,cells,off,K,h=>by
  unfold Pb at h;obtain⟨c,h,hc,hp,hv⟩:=Kc h;obtain⟨cs,h,hl,AE⟩:=P4 h;refine⟨c::cs,h,by simp[hl],fun j c' hj=>?_⟩
  cases j with
  |zero=>
   simp at hj;subst hj;refine⟨hc,cells.getD off .top,Yi rfl ?_,hp,hv⟩;intro e;rw[e] at hp;exact hp
  |succ j=>
   simp at hj;have:=AE j c' hj
   rwa [Nat.add_right_comm,Nat.add_assoc] at this
theorem Ql:∀{ts:List CT}{cells:List PV}{off:Nat}{K:List PV->Option R},Lr ts cells off K=some r ->
  ∃cs,K cs=some r∧cs.length=ts.length∧(∀c∈cs,(∀x,c ≠ .agg x)∧(∀x,c ≠ .tup x))∧∀j c,cs[j]?=some c->∃p,cells[off+j]?=some p∧GD p∧(∀id,id∈An c->id∈An p) ∧
   ∀(w:World) (A:Nat->Prop) (β:Nat->Option (Nat × Nat)) (v:Value),Bw w A β p v->Bw w A β c v∧v.oneCell'=true
 |[],_,_,_,h=>⟨[],h,rfl,by simp,fun j c hj=>by simp at hj⟩
 |t::ts,cells,off,K,h=>by
  unfold Lr at h;obtain⟨c,h,hc,hf,hp,ha,ht,hr,hv⟩:=Aie h;obtain⟨cs,h,hl,X9,AE⟩:=Ql h;refine⟨c::cs,h,by simp[hl],?_,fun j c' hj=>?_⟩
  ·intro x hx;rcases List.mem_cons.1 hx with rfl|hx
   ·exact⟨ha,ht⟩
   ·exact X9 x hx
  ·cases j with
   |zero=>
    simp at hj;subst hj;exact⟨cells.getD off .top,Yi rfl hp,hf,hr,hv⟩
   |succ j=>
    simp at hj;have:=AE j c' hj
    rwa [Nat.add_right_comm,Nat.add_assoc] at this
theorem LZ {agg:Bool}{cells:List PV}{K:PV->Option R}(h:YF agg cells K=some r):
  (agg=true∧K (.agg cells)=some r)∨(agg=false∧∃c,cells=[c]∧K c=some r):=by
 unfold YF at h;cases agg
 ·obtain⟨c,t,rfl,h⟩:=A7 h;obtain⟨rfl,h⟩:=Dc h;exact .inr ⟨rfl,c,rfl,h⟩
 ·exact .inl ⟨rfl,h⟩
end
open Go.RowKit
def Cy (b:Option Bl):Prop:=
 match b with
 |some (.st _)=>True
 |some (.ar false _)=>True
 |_=>False
abbrev Bt:=Nat->Option (Nat × Nat)
def KJ (hp:Nat->Option Bl)(β:Bt)(b:Nat):Prop:=∃id o,Cy (hp id)∧β id=some (b,o)
def Cw (hp:Nat->Option Bl)(β:Bt)(Y:Nat->Prop)(b:Nat):Prop:=KJ hp β b∨Y b
def Ol (w:World)(A:Nat->Prop)(β:Bt)(id:Nat)(bx:Bl):Prop:=
 match bx with
 |.st cells=>∃b o,β id=some (b,o)∧(∀j c,cells[j]?=some c->∃v,w.cell? ⟨b,o+j,none⟩=some v∧Bw w A β c v)∧∀j,j<cells.length->w.frozen? ⟨b,o+j,none⟩=false
 |.ar fz cells=>(β id=none∧cells=[])∨∃b o,β id=some (b,o)∧RY w A ⟨b,o,none⟩ cells∧(fz=false->∀j,o<=j->j<bsz w b->w.frozen? ⟨b,j,none⟩=false)∧(fz=true->¬A b)
 |.mv=>True
structure Gu where
 X:Nat->Prop
 L:Nat->Nat->Prop
 pn:Nat->Prop
 pt:Nat->Option (Nat × Nat)
 p8:∀i,pn i->i<8
def BR (bx:Bl)(o j:Nat):Prop:=
 match bx with
 |.st c=>o<=j∧j<o+c.length
 |.ar _ _=>o<=j
 |.mv=>False
structure Fr (X0:Gu) (w0 w:World):Prop where
 os:w.os=w0.os
 tape:w.tape=w0.tape
 output:w.output=w0.output
 step:B6 X0.X w0 w
 rng:∀b j,b<w0.heap.size->¬X0.L b j->w.cell? ⟨b,j,none⟩=w0.cell? ⟨b,j,none⟩∧w.frozen? ⟨b,j,none⟩=w0.frozen? ⟨b,j,none⟩
structure Cl (N:Nat) (w0:World) (X0:Gu) (Y:Nat->Prop) (β:Bt) (s:St) (a:Act) (w:World):Prop where
 dfr:a.defers=[]
 tsz:a.tmps.size=N
 tmo:∀i,N<=i->s.tm i=.top
 tms:∀i,i<N->D5 w (Cw s.hp β Y) β (s.tm i) (a.tmps.getD i undef)
 box:∀id b,s.hp id=some b->Ol w (Cw s.hp β Y) β id b
 inj:∀id id' b o o',Cy (s.hp id)->Cy (s.hp id')->β id=some (b,o)->β id'=some (b,o')->id=id'
 blt:∀id b o,s.hp id≠none->β id=some (b,o)->b<w.heap.size
 wfT:∀i,i<N->∀id∈Br (s.tm i),s.hp id≠none
 wfB:∀id cells,s.hp id=some (.st cells)->∀c∈cells,∀id'∈An c,s.hp id'≠none
 ownd:∀b,KJ s.hp β b->X0.X b∨w0.heap.size<=b
 rngB:∀id bx b o,s.hp id=some bx->Cy (some bx)->β id=some (b,o)->b<w0.heap.size->∀j,BR bx o j->X0.L b j
 pin:∀i,X0.pn i->s.hp (C9 N i)≠none∧β (C9 N i)=X0.pt i
 stp:∀id c b o,s.hp id=some (.st c)->β id=some (b,o)->b<w0.heap.size->∃i,id=C9 N i∧X0.pn i
 Yx:∀b,Y b->¬KJ s.hp β b
 Ylt:∀b,Y b->b<w0.heap.size
 fr:Fr X0 w0 w
theorem Co {b:Option Bl}(h:Cy b):b≠none:=by rintro rfl;exact h
theorem Am {α:Type}(f:Nat->α)(i:Nat)(v:α):Ch f i v i=v:=by simp[Ch,Nat.beq_refl]
theorem Ai {α:Type}(f:Nat->α){i j:Nat}(v:α)(h:j≠i):Ch f i v j=f j:=by
 have:Nat.beq j i=false:=by
  cases hb:Nat.beq j i
  ·rfl
  ·exact absurd (Nat.eq_of_beq_eq_true hb) h
 simp[Ch,this]
theorem Tq {α:Type}(f:Nat->α){i:Nat}{v:α}(h:f i=v):Ch f i v=f:=by
 funext j
 by_cases e:j=i
 ·subst e;rw[Am];exact h.symm
 ·exact Ai f v e
theorem MZ {α:Type}(f:Nat->α){i j:Nat}(u v:α)(h:i≠j):Ch (Ch f i u) j v=Ch (Ch f j v) i u:=by
 funext k
 by_cases e:k=j
 ·subst e;rw[Am,Ai _ _ (Ne.symm h),Am]
 ·rw[Ai _ _ e];by_cases e':k=i
  ·subst e';rw[Am,Am]
  ·rw[Ai _ _ e',Ai _ _ e',Ai _ _ e]
theorem FG {a:Act}{d:Nat}{v:Value}(h:d<a.tmps.size):(a.put (some d) v).tmps.getD d undef=v:=by
 simp[Act.put,h]
theorem EA {a:Act}{d i:Nat}{v:Value}(h:i≠d):(a.put (some d) v).tmps.getD i undef=a.tmps.getD i undef:=by
 have h':d≠i:=fun e=>h e.symm
 simp[Act.put,Array.getElem?_setIfInBounds_ne h']
section
variable {N:Nat} {w0:World} {X0:Gu} {Y:Nat->Prop} {β β':Bt} {s:St} {a:Act} {w w':World}
theorem Vt (d:Option Tmp)(v:Value):(a.put d v).tmps.size=a.tmps.size:=by cases d<;>simp[Act.put]
theorem Od (d:Option Tmp)(v:Value):(a.put d v).defers=a.defers:=by cases d<;>rfl
theorem Nh {d:Option Tmp}(h:Fk N d=true){i:Nat}(e:d=some i):i<N:=by
 subst e;exact Nat.lt_of_succ_le (Nat.le_of_ble_eq_true h)
theorem Mb {Q:Nat->PV->Value->Prop}{tm:Nat->PV}{d:Option Tmp}{v:PV}{val:Value}(hN:a.tmps.size=N)(hd:Fk N d=true)
  (h:∀i,i<N->Q i (tm i) (a.tmps.getD i undef)) (hv:∀i,Q i v val):∀i,i<N->Q i (Bj tm d v i) ((a.put d val).tmps.getD i undef):=by
 intro i hi;cases d with
 |none=>exact h i hi
 |some d=>
  have B5:=Nh hd rfl;by_cases e:i=d
  ·subst e;show Q i (Ch tm i v i) _;rw[Am,FG (by omega)]
   exact hv i
  ·show Q i (Ch tm d v i) _;rw[Ai _ _ e,EA e];exact h i hi
theorem MA {tm:Nat->PV}{d:Option Tmp}{v:PV}(hd:Fk N d=true)(h:∀i,N<=i->tm i=.top):∀i,N<=i->Bj tm d v i=.top:=by
 intro i hi;cases d with
 |none=>exact h i hi
 |some d=>
  have:=Nh hd rfl;show Ch tm d v i=_;rw[Ai _ _ (by omega)]
  exact h i hi
theorem Cl.put (h:Cl N w0 X0 Y β s a w){d:Option Tmp}{v:PV}{val:Value}(hd:Fk N d=true)(hv:D5 w (Cw s.hp β Y) β v val) (hr:∀id∈Br v,s.hp id≠none):
  Cl N w0 X0 Y β ⟨Bj s.tm d v,s.hp⟩ (a.put d val) w where
 dfr:=by rw[Od];exact h.dfr
 tsz:=by rw[Vt];exact h.tsz
 tmo:=MA hd h.tmo
 tms:=Mb (Q:=fun _ p u=>D5 w (Cw s.hp β Y) β p u) h.tsz hd h.tms (fun _=>hv)
 box:=h.box
 inj:=h.inj
 blt:=h.blt
 wfT:=by
  have:=Mb (Q:=fun _ p _=>∀id∈Br p,s.hp id≠none) (val:=val) h.tsz hd h.wfT (fun _=>hr)
  exact this
 wfB:=h.wfB
 ownd:=h.ownd
 rngB:=h.rngB
 pin:=h.pin
 stp:=h.stp
 Yx:=h.Yx
 Ylt:=h.Ylt
 fr:=h.fr
theorem Bv (hp:Nat->Option Bl)(ids:List Nat)(i:Nat):Af hp ids i=if i∈ids then (hp i).map Qj else hp i:=by
 unfold Af;by_cases hi:i∈ids
 ·have:ids.any (Nat.beq i)=true:=List.any_eq_true.2 ⟨i,hi,Nat.beq_refl i⟩;rw[this,if_pos hi];rfl
 ·have:ids.any (Nat.beq i)=false:=by
   cases hb:ids.any (Nat.beq i)
   ·rfl
   ·obtain⟨j,hj,e⟩:=List.any_eq_true.1 hb;exact absurd (Nat.eq_of_beq_eq_true e ▸ hj) hi
  rw[this,if_neg hi];rfl
theorem Du {hp:Nat->Option Bl}{ids:List Nat}{i:Nat}:Af hp ids i=none↔hp i=none:=by
 rw[Bv];split<;>simp
theorem L1 {hp:Nat->Option Bl}{ids:List Nat}{i:Nat}(h:Cy (Af hp ids i)):Cy (hp i):=by
 rw[Bv] at h;split at h
 ·cases hb:hp i with
  |none=>rw[hb] at h;exact h
  |some b=>cases b with
   |st c=>trivial
   |ar fz c=>rw[hb] at h;exact h.elim
   |mv=>rw[hb] at h;exact h
 ·exact h
theorem Hb {hp:Nat->Option Bl}{ids:List Nat}{i:Nat}{bx:Bl}(h:Af hp ids i=some bx)(hl:Cy (some bx)):hp i=some bx:=by
 rw[Bv] at h;split at h
 ·cases hb:hp i with
  |none=>rw[hb] at h;cases h
  |some b=>
   rw[hb] at h;cases b with
   |st c=>exact h
   |ar fz c=>simp only[Option.map_some,Qj,Option.some.injEq] at h;subst h;exact hl.elim
   |mv=>simp only[Option.map_some,Qj,Option.some.injEq] at h;subst h;exact hl.elim
 ·exact h
theorem Nc {hp:Nat->Option Bl}{ids:List Nat}{b:Nat}(h:KJ (Af hp ids) β b):KJ hp β b:=by
 obtain⟨id,o,hl,hb⟩:=h;exact⟨id,o,L1 hl,hb⟩
theorem Ol.step' {A A':Nat->Prop}{id:Nat}{bx:Bl}(hA:∀b,A' b->A b)(h:Ol w A β id bx):Ol w A' β id bx:=by
 have hs:=B6.refl A w;cases bx with
 |st c=>
  obtain⟨b,o,h1,h2,h3⟩:=h;exact⟨b,o,h1,fun j c hj=>let ⟨v,hv,hc⟩:=h2 j c hj;⟨v,hv,hc.step hs (fun b _=>hA b) (fun _ _=>rfl)⟩,h3⟩
 |ar fz c=>
  rcases h with h|⟨b,o,h1,h2,h3,h4⟩
  ·exact .inl h
  ·exact .inr ⟨b,o,h1,h2.weak (fun b _=>hA b),h3,fun e x=>h4 e (hA b x)⟩
 |mv=>trivial
theorem Cl.freeze (h:Cl N w0 X0 Y β s a w){fz:List Nat}(Xd:∀id∈fz,∃f c,s.hp id=some (.ar f c)):Cl N w0 X0 Y β ⟨s.tm,Af s.hp fz⟩ a w:=by
 have hA:∀b,Cw (Af s.hp fz) β Y b->Cw s.hp β Y b:=fun b hb=>hb.imp Nc id
 refine⟨h.dfr,h.tsz,h.tmo,fun i hi=>(h.tms i hi).step (B6.refl _ _) (fun b _=>hA b) (fun _ _=>rfl),fun id b hb=>?_,fun id id' b o o' h1 h2=>h.inj id id' b o o' (L1 h1) (L1 h2),
  fun id b o hn=>h.blt id b o (fun e=>hn (Du.2 e)),fun i hi id Bh e=>h.wfT i hi id Bh (Du.1 e),fun id cells hc c NV id' Bh e=>?_,fun b hb=>h.ownd b (Nc hb),
  fun id bx b o hb hl=>h.rngB id bx b o (Hb hb hl) hl,fun i hi=>⟨fun e=>(h.pin i hi).1 (Du.1 e),(h.pin i hi).2⟩,fun id c b o hc=>h.stp id c b o (Hb hc trivial),fun b hb x=>h.Yx b hb (Nc x),h.Ylt,h.fr⟩
 ·simp only at hb;rw[Bv] at hb;split at hb
  ·rename_i hm;obtain⟨f,c,hc⟩:=Xd id hm;rw[hc] at hb;simp only[Option.map_some,Qj,Option.some.injEq] at hb;subst hb;have Jl:=h.box id _ hc;rcases Jl with Jl|⟨b,o,h1,h2,h3,h4⟩
   ·exact .inl Jl
   ·refine .inr ⟨b,o,h1,h2.weak (fun b _=>hA b),(fun e=>by cases e),fun _ hb=>?_⟩
    rcases hb with⟨id',o',hl,hb⟩|hY
    ·have hl0:=L1 hl;cases f with
     |true=>exact h4 rfl (.inl ⟨id',o',hl0,hb⟩)
     |false=>
      have e:=h.inj id' id b o' o hl0 (by rw[hc];trivial) hb h1
      subst e;simp only at hl;rw[Bv,if_pos hm,hc] at hl;exact hl
    ·cases f with
     |true=>exact h4 rfl (.inr hY)
     |false=>exact h.Yx b hY ⟨id,o,by rw[hc];trivial,h1⟩
  ·exact (h.box id b hb).step' hA
 ·simp only at hc;rw[Bv] at hc;refine h.wfB id cells ?_ c NV id' Bh (Du.1 e);split at hc
  ·rename_i hm;obtain⟨f,c,Ob⟩:=Xd id hm;rw[Ob] at hc;cases hc
  ·exact hc
theorem Bi:∀{nw:List (Nat × Bl)} {hp:Nat->Option Bl},Bo hp nw=true ->
  (∀id bx,(id,bx)∈nw->hp id=none)∧(∀id bx bx',(id,bx)∈nw->(id,bx')∈nw->bx=bx')
 |[],_,_=>⟨by simp,by simp⟩
 |(i,b)::r,hp,h=>by
  simp only[Bo,Bool.and_eq_true,Option.isNone_iff_eq_none,Bool.not_eq_true'] at h;obtain⟨⟨h1,h2⟩,h3⟩:=h;obtain⟨h4,h5⟩:=Bi h3
  have Ei:∀bx,(i,bx) ∉ r:=by
   intro bx hm;have:r.any (fun q=>Nat.beq q.1 i)=true:=List.any_eq_true.2 ⟨_,hm,Nat.beq_refl i⟩
   rw[this] at h2;cases h2
  refine⟨fun id bx hm=>?_,fun id bx bx' hm Ia=>?_⟩
  ·rcases List.mem_cons.1 hm with e|hm
   ·cases e;exact h1
   ·exact h4 id bx hm
  ·rcases List.mem_cons.1 hm with e|hm
   ·cases e;rcases List.mem_cons.1 Ia with e|Ia
    ·cases e;rfl
    ·exact absurd Ia (Ei _)
   ·rcases List.mem_cons.1 Ia with e|Ia
    ·cases e;exact absurd hm (Ei _)
    ·exact h5 id bx bx' hm Ia
theorem D2:∀{nw:List (Nat × Bl)} {hp:Nat->Option Bl},(∀id bx bx',(id,bx)∈nw->(id,bx')∈nw->bx=bx') ->
  (∀id bx,(id,bx)∈nw->Ap hp nw id=some bx)∧(∀id,(∀bx,(id,bx) ∉ nw)->Ap hp nw id=hp id)
 |[],_,_=>⟨by simp,fun _ _=>rfl⟩
 |(i,b)::r,hp,h=>by
  obtain⟨h1,h2⟩:=D2 (nw:=r) (hp:=Ch hp i (some b)) (fun id bx bx' hm Ia=>h id bx bx' (by simp[hm]) (by simp[Ia]))
  refine⟨fun id bx hm=>?_,fun id hn=>?_⟩
  ·by_cases hr:∃bx',(id,bx')∈r
   ·obtain⟨bx',hr⟩:=hr;have:=h id bx bx' hm (by simp[hr])
    subst this;exact h1 id bx hr
   ·rcases List.mem_cons.1 hm with e|hm
    ·cases e;show Ap (Ch hp i (some b)) r i=_;rw[h2 i (fun bx' hb=>hr ⟨bx',hb⟩),Am]
    ·exact absurd ⟨bx,hm⟩ hr
  ·show Ap (Ch hp i (some b)) r id=_;rw[h2 id (fun bx hb=>hn bx (by simp[hb])),Ai]
   rintro rfl
   exact hn b (by simp)
structure GN (Y:Nat->Prop) (β:Bt) (s:St) (w:World) (v:PV) (nw:List (Nat × Bl)) (val:Value) (w':World) (β':Bt):Prop where
 os:w'.os=w.os
 tape:w'.tape=w.tape
 output:w'.output=w.output
 ext:B6 (fun _=>False) w w'
 old:∀id,s.hp id≠none->β' id=β id
 nlive:∀id bx,(id,bx)∈nw->Cy (some bx)
 nbox:∀id bx,(id,bx)∈nw->Ol w' (Cw (Ap s.hp nw) β' Y) β' id bx
 nblk:∀id bx b o,(id,bx)∈nw->β' id=some (b,o)->w.heap.size<=b∧b<w'.heap.size
 ninj:∀id bx id' bx' b o o',(id,bx)∈nw->(id',bx')∈nw->β' id=some (b,o)->β' id'=some (b,o')->id=id'
 nwf:∀id cells,(id,.st cells)∈nw->∀c∈cells,∀id'∈An c,s.hp id'≠none∨∃bx,(id',bx)∈nw
 val:D5 w' (Cw (Ap s.hp nw) β' Y) β' v val
 vwf:∀id∈Br v,s.hp id≠none∨∃bx,(id,bx)∈nw
theorem Cl.stepR (h:Cl N w0 X0 Y β s a w){d:Option Tmp}{v:PV}{nw:List (Nat × Bl)} {val:Value}(hd:Fk N d=true)(Mq:Bo s.hp nw=true)
  (st:GN Y β s w v nw val w' β'):Cl N w0 X0 Y β' ⟨Bj s.tm d v,Ap s.hp nw⟩ (a.put d val) w':=by
 obtain⟨ha1,Il⟩:=Bi Mq;obtain⟨hg1,hg2⟩:=D2 (hp:=s.hp) Il
 have Ge:∀id,(∃bx,(id,bx)∈nw)∨Ap s.hp nw id=s.hp id:=fun id=>by
  by_cases hx:∃bx,(id,bx)∈nw
  ·exact .inl hx
  ·exact .inr (hg2 id fun bx hb=>hx ⟨bx,hb⟩)
 have At9:∀id,s.hp id≠none->Ap s.hp nw id=s.hp id:=fun id hn=>by
  rcases Ge id with⟨bx,hx⟩|e
  ·exact absurd (ha1 id bx hx) hn
  ·exact e
 have Q3:∀id,(s.hp id≠none∨∃bx,(id,bx)∈nw)->Ap s.hp nw id≠none:=by
  rintro id (hn|⟨bx,hx⟩)
  ·rw[At9 id hn];exact hn
  ·rw[hg1 id bx hx];simp
 have Akk:∀b,b<w.heap.size->KJ (Ap s.hp nw) β' b->KJ s.hp β b:=by
  rintro b hb ⟨id,o,hl,hβ⟩
  rcases Ge id with⟨bx,hx⟩|e
  ·have:=(st.nblk id bx b o hx hβ).1;omega
  ·rw[e] at hl;exact⟨id,o,hl,by rw[←st.old id (Co hl)];exact hβ⟩
 have WR:∀b,b<w.heap.size->Cw (Ap s.hp nw) β' Y b->Cw s.hp β Y b:=fun b hb hA=>hA.imp (Akk b hb) id
 have XL:B6 (Cw s.hp β Y) w w':=st.ext.weaken (fun _ _ x=>x.elim)
 refine⟨by rw[Od];exact h.dfr,by rw[Vt];exact h.tsz,MA hd h.tmo,?_,?_,?_,?_,?_,?_,?_,?_,?_,?_,?_,h.Ylt,?_⟩
 ·refine Mb (Q:=fun _ p u=>D5 w' (Cw (Ap s.hp nw) β' Y) β' p u) h.tsz hd (fun i hi=>?_) (fun _=>st.val)
  exact (h.tms i hi).step XL WR fun id Bh=>st.old id (h.wfT i hi id Bh)
 ·intro id b hb;simp only at hb;rcases Ge id with⟨bx,hx⟩|e
  ·rw[hg1 id bx hx] at hb;cases hb;exact st.nbox id _ hx
  ·rw[e] at hb;have hβ:=st.old id (by rw[hb];simp)
   have Jl:=h.box id b hb;have B5:=h.blt id;have Ei:s.hp id≠none:=by rw[hb];simp
   cases b with
   |st c=>
    obtain⟨b,o,h1,h2,h3⟩:=Jl;have Gy:=B5 b o Ei h1;have Oj:=st.ext.keep b Gy (fun x=>x)
    refine⟨b,o,by rw[hβ];exact h1,fun j c hj=>?_,fun j hj=>?_⟩
    ·obtain⟨v,hv,hc⟩:=h2 j c hj;refine⟨v,by rw[World.cell?_of_block (w:=w) Oj];exact hv,hc.step XL WR fun id' Bh=>st.old id' ?_⟩
     exact h.wfB id _ hb c (List.mem_of_getElem? hj) id' Bh
    ·rw[World.frozen?_of_block (w:=w) Oj];exact h3 j hj
   |ar fz c=>
    rcases Jl with⟨h1,h2⟩|⟨b,o,h1,h2,h3,h4⟩
    ·exact .inl ⟨by rw[hβ];exact h1,h2⟩
    ·have Gy:=B5 b o Ei h1;have Oj:=st.ext.keep b Gy (fun x=>x)
     have FQ:bsz w' b=bsz w b:=by unfold bsz;rw[Oj]
     refine .inr ⟨b,o,by rw[hβ];exact h1,fun j c hj=>?_,fun e j hj Pc=>?_,fun e x=>h4 e (WR b Gy x)⟩
     ·obtain⟨v,hv,h5,hc⟩:=h2 j c hj;exact⟨v,by rw[World.cell?_of_block (w:=w) (by rw[Eg];exact Oj)];exact hv,h5,hc.step XL WR⟩
     ·rw[World.frozen?_of_block (w:=w) Oj];exact h3 e j hj (by rw[←FQ];exact Pc)
   |mv=>trivial
 ·intro id id' b o o' hl Ib hb Gy;simp only at hl Ib;rcases Ge id with⟨bx,hx⟩|e
  ·rcases Ge id' with⟨bx',Qk⟩|e'
   ·exact st.ninj id bx id' bx' b o o' hx Qk hb Gy
   ·rw[e'] at Ib;have h1:=(st.nblk id bx b o hx hb).1;have h2:=h.blt id' b o' (Co Ib) (by rw[←st.old id' (Co Ib)];exact Gy)
    omega
  ·rw[e] at hl;rcases Ge id' with⟨bx',Qk⟩|e'
   ·have h1:=(st.nblk id' bx' b o' Qk Gy).1;have h2:=h.blt id b o (Co hl) (by rw[←st.old id (Co hl)];exact hb)
    omega
   ·rw[e'] at Ib;exact h.inj id id' b o o' hl Ib (by rw[←st.old id (Co hl)];exact hb) (by rw[←st.old id' (Co Ib)];exact Gy)
 ·intro id b o hn hb;simp only at hn;rcases Ge id with⟨bx,hx⟩|e
  ·exact (st.nblk id bx b o hx hb).2
  ·rw[e] at hn;exact Nat.lt_of_lt_of_le (h.blt id b o hn (by rw[←st.old id hn];exact hb)) st.ext.size
 ·have:=Mb (Q:=fun _ p _=>∀id∈Br p,Ap s.hp nw id≠none) (val:=val) (d:=d) (v:=v) h.tsz hd (fun i hi id Bh=>Q3 id (.inl (h.wfT i hi id Bh))) (fun _ id Bh=>Q3 id (st.vwf id Bh))
  exact this
 ·intro id cells hc c NV id' Bh;simp only at hc;rcases Ge id with⟨bx,hx⟩|e
  ·rw[hg1 id bx hx] at hc;cases hc;exact Q3 id' (st.nwf id _ hx c NV id' Bh)
  ·rw[e] at hc;exact Q3 id' (.inl (h.wfB id cells hc c NV id' Bh))
 ·rintro b ⟨id,o,hl,hb⟩
  simp only at hl;rcases Ge id with⟨bx,hx⟩|e
  ·exact .inr (Nat.le_trans h.fr.step.size (st.nblk id bx b o hx hb).1)
  ·rw[e] at hl;exact h.ownd b ⟨id,o,hl,by rw[←st.old id (Co hl)];exact hb⟩
 ·intro id bx b o hb hl hβ B5;simp only at hb;rcases Ge id with⟨bx',hx⟩|e
  ·have:=(st.nblk id bx' b o hx hβ).1;have:=h.fr.step.size;omega
  ·rw[e] at hb;exact h.rngB id bx b o hb hl (by rw[←st.old id (by rw[hb];simp)];exact hβ) B5
 ·intro i hi;obtain⟨h1,h2⟩:=h.pin i hi;exact⟨Q3 _ (.inl h1),by rw[st.old _ h1];exact h2⟩
 ·intro id c b o hb hβ B5;simp only at hb;rcases Ge id with⟨bx',hx⟩|e
  ·have:=(st.nblk id bx' b o hx hβ).1;have:=h.fr.step.size;omega
  ·rw[e] at hb;exact h.stp id c b o hb (by rw[←st.old id (by rw[hb];simp)];exact hβ) B5
 ·rintro b hY hX
  have hb:b<w.heap.size:=Nat.lt_of_lt_of_le (h.Ylt b hY) h.fr.step.size;exact h.Yx b hY (Akk b hb hX)
 ·refine⟨st.os.trans h.fr.os,st.tape.trans h.fr.tape,st.output.trans h.fr.output,h.fr.step.trans st.ext (fun _ _ x=>x.elim),fun b j hb hL=>?_⟩
  have Oj:=st.ext.keep b (Nat.lt_of_lt_of_le hb h.fr.step.size) (fun x=>x)
  have hc:w'.cell? ⟨b,j,none⟩=w.cell? ⟨b,j,none⟩:=World.cell?_of_block (w:=w) Oj;have hf:w'.frozen? ⟨b,j,none⟩=w.frozen? ⟨b,j,none⟩:=World.frozen?_of_block (w:=w) Oj;rw[hc,hf];exact h.fr.rng b j hb hL
end
open Go.RowKit
section
variable {P:Program} {N:Nat} {w0:World} {X0:Gu} {Y:Nat->Prop} {β β':Bt} {s:St} {a:Act} {w w':World} {o:Oper}
theorem NT (cs:List Value)(A:Nat->Prop):Bc (Bw w A β) (cs.map PV.sc) cs:=by
 induction cs with
 |nil=>trivial
 |cons v r ih=>exact⟨Au.sc v,ih⟩
theorem TD (cs:List Value):(cs.map PV.sc).flatMap An=[]:=by
 induction cs with
 |nil=>rfl
 |cons v r ih=>exact ih
theorem Cq (h:Cl N w0 X0 Y β s a w)(x:Operand):D5 w (Cw s.hp β Y) β (Bz s.tm x) (a.eval x):=by
 cases x with
 |tmp t=>
  show D5 _ _ _ (s.tm t) (a.tmps.getD t undef);by_cases ht:t<N
  ·exact h.tms t ht
  ·rw[h.tmo t (Nat.le_of_not_lt ht)];exact Au.top _
 |const v=>
  cases v with
  |agg cs=>exact⟨cs.toList,by simp[Act.eval],NT cs.toList _⟩
  |_=>exact Au.sc _
 |func f=>exact Au.sc _
 |global g=>exact Au.sc _
theorem Eh (h:Cl N w0 X0 Y β s a w)(x:Operand):∀id∈Br (Bz s.tm x),s.hp id≠none:=by
 cases x with
 |tmp t=>
  show ∀id∈Br (s.tm t),_;by_cases ht:t<N
  ·exact h.wfT t ht
  ·rw[h.tmo t (Nat.le_of_not_lt ht)];intro id Bh;cases Bh
 |const v=>
  cases v with
  |agg cs=>
   intro id Bh;have:Br (.agg (cs.toList.map .sc))=[]:=TD cs.toList;simp only[Bz] at Bh;rw[this] at Bh;cases Bh
  |_=>intro id Bh;cases Bh
 |func f=>intro id Bh;cases Bh
 |global g=>intro id Bh;cases Bh
theorem Wu {A:Nat->Prop}{v u:Value}(h:D5 w A β (.sc v) u):u=v:=Au.val h
theorem B3 (h:Cl N w0 X0 Y β s a w){x:Operand}{v:Value}(e:Bz s.tm x=.sc v):a.eval x=v:=by
 have:=Cq h x;rw[e] at this;exact Wu this
def Dz (P:Program)(a:Act)(w:World)(o:Oper)(Y:Nat->Prop)(β:Bt)(s:St)(v:PV)(fz:List Nat)(nw:List (Nat × Bl)):Prop:=
 (∀id∈fz,∃f c,s.hp id=some (.ar f c))∧∃val w',(execOp a.eval o).run P w=.ok (.value val) w'∧(Bo s.hp nw=true->∃β',GN Y β ⟨s.tm,Af s.hp fz⟩ w v nw val w' β')
theorem SG {v:PV}{val:Value}(hv:D5 w (Cw s.hp β Y) β v val) (hr:∀id∈Br v,s.hp id≠none):GN Y β s w v [] val w β:=
 ⟨rfl,rfl,rfl,B6.refl _ _,fun _ _=>rfl,by simp,by simp,by simp,by simp,by simp,hv,fun id Bh=>.inl (hr id Bh)⟩
theorem B0 {v:PV}{val:Value}(Ci:(execOp a.eval o).run P w=.ok (.value val) w) (hv:D5 w (Cw s.hp β Y) β v val) (hr:∀id∈Br v,s.hp id≠none):Dz P a w o Y β s v [] []:=
 ⟨by simp,val,w,Ci,fun _=>⟨β,SG (s:=⟨s.tm,Af s.hp []⟩) hv hr⟩⟩
theorem Ce {v:Value}(Ci:(execOp a.eval o).run P w=.ok (.value v) w):Dz P a w o Y β s (.sc v) [] []:=B0 Ci (Au.sc v) (by intro id Bh;cases Bh)
structure Fn (w w':World) (c:Array Value) (e:TypeId):Prop where
 os:w'.os=w.os
 tape:w'.tape=w.tape
 output:w'.output=w.output
 old:∀b,b<w.heap.size->w'.heap[b]?=w.heap[b]?
 size:w'.heap.size=w.heap.size+1
 new:∃fz:Nat × Nat,w'.heap[w.heap.size]?=some (.cells c e fz)∧(fz.1=fz.2∨c.size<=fz.1)
theorem Fn.alloc (w:World)(c:Array Value)(e:TypeId):Fn w (w.alloc (.cells c e)) c e:=
 ⟨rfl,rfl,rfl,fun b hb=>Below.heap_alloc w _ b hb,by show (w.heap.push _).size=_;simp,(0,0),by show (w.heap.push _)[w.heap.size]?=_;simp,.inl rfl⟩
theorem Fn.drew {c:Array Value}{e:TypeId}(h:Fn w w' c e):Fn w w'.drew c e:=⟨h.os,h.tape,h.output,h.old,h.size,h.new⟩
section
variable {c:Array Value} {e:TypeId}
theorem Fn.step (h:Fn w w' c e):B6 (fun _=>False) w w':=
 ⟨by rw[h.size];omega,fun b hb _=>h.old b hb,fun b hb=>Gf.same (h.old b hb)⟩
theorem Fn.cell (h:Fn w w' c e)(j:Nat):w'.cell? ⟨w.heap.size,j,none⟩=c[j]?:=by
 obtain⟨fz,hn,_⟩:=h.new;simp[World.cell?,hn]
theorem Fn.frozen (h:Fn w w' c e){j:Nat}(hj:j<c.size):w'.frozen? ⟨w.heap.size,j,none⟩=false:=by
 obtain⟨fz,hn,hf⟩:=h.new;simp only[World.frozen?,hn];rcases hf with hf|hf<;>simp<;>omega
theorem Ir (w:World)(c:Array Value)(e:TypeId):NJ (w.alloc (.cells c e)) w.heap.size=false:=by
 unfold NJ World.frozen?;have:(w.alloc (.cells c e)).heap[w.heap.size]?=some (.cells c e (0,0)):=by show (w.heap.push _)[w.heap.size]?=_;simp
 simp only[this];simp
theorem Fn.bsz (h:Fn w w' c e):bsz w' w.heap.size=c.size:=by
 obtain⟨fz,hn,_⟩:=h.new;simp[Pv.bsz,hn]
end
theorem M6 {c:Array Value}{e:TypeId}{d:Nat}{bx:Bl}{v:PV}{val:Value}(hg:Fn w w' c e)(hd:s.hp d=none)(hl:Cy (some bx))
  (Jl:Ol w' (Cw (Ch s.hp d (some bx)) (Ch β d (some (w.heap.size,0))) Y) (Ch β d (some (w.heap.size,0))) d bx)
  (hcw:∀cells,bx=.st cells->∀x∈cells,∀id'∈An x,s.hp id'≠none)
  (hv:D5 w' (Cw (Ch s.hp d (some bx)) (Ch β d (some (w.heap.size,0))) Y) (Ch β d (some (w.heap.size,0))) v val)
  (hvr:∀id∈Br v,s.hp id≠none∨id=d):GN Y β s w v [(d,bx)] val w' (Ch β d (some (w.heap.size,0))) where
 os:=hg.os
 tape:=hg.tape
 output:=hg.output
 ext:=hg.step
 old:=fun id hn=>Ai _ _ (by rintro rfl;exact hn hd)
 nlive:=by intro id b hm;simp at hm;obtain⟨rfl,rfl⟩:=hm;exact hl
 nbox:=by intro id b hm;simp at hm;obtain⟨rfl,rfl⟩:=hm;exact Jl
 nblk:=by
  intro id b x y hm hb;simp at hm;obtain⟨rfl,rfl⟩:=hm;rw[Am] at hb;simp at hb;have:=hg.size;omega
 ninj:=by intro id b id' b' x y z hm Ia _ _;simp at hm Ia;rw[hm.1,Ia.1]
 nwf:=by intro id cells hm x hx id' Bh;simp at hm;exact .inl (hcw cells hm.2.symm x hx id' Bh)
 val:=hv
 vwf:=by
  intro id Bh;rcases hvr id Bh with h|rfl
  ·exact .inl h
  ·exact .inr ⟨bx,by simp⟩
theorem YJ {c:Array Value}{e:TypeId}(hg:Fn w w' c e){A A':Nat->Prop}(hA:∀b,b<w.heap.size->A' b->A b){cells:List PV}
  (h:∀(j:Nat) p,cells[j]?=some p->∃v,c[j]?=some v∧v.oneCell'=true∧Au w A p v):RY w' A' ⟨w.heap.size,0,none⟩ cells:=by
 intro j p hj;obtain⟨v,hv,h1,ht⟩:=h j p hj;exact⟨v,by rw[Eb,Nat.zero_add,hg.cell];exact hv,h1,ht.step (hg.step.weaken (fun _ _ x=>x.elim)) hA⟩
theorem XB {d:Nat}{bx:Bl}(hwf:s.hp d=none):∀b,b<w.heap.size->Cw (Ch s.hp d (some bx)) (Ch β d (some (w.heap.size,0))) Y b->Cw s.hp β Y b:=by
 intro b hb hA;rcases hA with⟨id,o,hl,hβ⟩|hY
 ·by_cases e:id=d
  ·subst e;rw[Am] at hβ;simp at hβ;omega
  ·rw[Ai _ _ e] at hl hβ;exact .inl ⟨id,o,hl,hβ⟩
 ·exact .inr hY
theorem M1 {c:Array Value}{e:TypeId}{d:Nat}{cells:List PV}{fz:List Nat}{v:PV}{val:Value}
  (Xd:∀id∈fz,∃f c,s.hp id=some (.ar f c))
  (Ci:(execOp a.eval o).run P w=.ok (.value val) w') (hg:Fn w w' c e)
  (hc:∀(j:Nat) p,cells[j]?=some p->∃u,c[j]?=some u∧u.oneCell'=true∧Au w (Cw (Af s.hp fz) β Y) p u)
  (hv:(v=.ptr d 0∧val=.pointer (some ⟨w.heap.size,0,none⟩))∨∃es n cap,v=.view d es 0 n∧val=.slice (some ⟨w.heap.size,0,none⟩) n cap∧n<=cap∧cap*es<=c.size∧(es=1∨NJ w' w.heap.size=false)):
  Dz P a w o Y β s v fz [(d,.ar false cells)]:=by
 refine⟨Xd,val,w',Ci,fun Mq=>⟨Ch β d (some (w.heap.size,0)),?_⟩⟩
 have hd:s.hp d=none:=(Bi Mq).1 d (.ar false cells) (by simp)
 have hd':Af s.hp fz d=none:=Du.2 hd;refine M6 (s:=⟨s.tm,Af s.hp fz⟩) hg hd' trivial ?_ (fun cells hx=>by cases hx) ?_ ?_
 ·refine .inr ⟨w.heap.size,0,Am _ _ _,?_,fun _ j _ hj=>?_,(fun x=>by cases x)⟩
  ·exact YJ hg (XB (s:=⟨s.tm,Af s.hp fz⟩) hd') hc
  ·rw[hg.bsz] at hj;exact hg.frozen hj
 ·rcases hv with⟨rfl,rfl⟩|⟨es,n,cap,rfl,rfl,hn,Tf,Ayi⟩
  ·exact⟨w.heap.size,0,Am _ _ _,rfl⟩
  ·exact .inr ⟨w.heap.size,0,0,cap,Am _ _ _,rfl,.inl rfl,hn,⟨by rw[hg.bsz];omega,Ayi⟩,by rw[hg.size];omega⟩
 ·intro id Bh;rcases hv with⟨rfl,_⟩|⟨es,n,cap,rfl,_⟩<;>(simp[Br,B8,An] at Bh;exact .inr Bh)
theorem IA {c:Array Value}{e:TypeId}{d:Nat}{cells:List PV}
  (Ci:(execOp a.eval o).run P w=.ok (.value (.pointer (some ⟨w.heap.size,0,none⟩))) w') (hg:Fn w w' c e)
  (hc:∀(j:Nat) p,cells[j]?=some p->∃u,c[j]?=some u∧Bw w (Cw s.hp β Y) β p u) (hr:∀x∈cells,∀id∈An x,s.hp id≠none):
  Dz P a w o Y β s (.ptr d 0) [] [(d,.st cells)]:=by
 refine⟨by simp,_,w',Ci,fun Mq=>⟨Ch β d (some (w.heap.size,0)),?_⟩⟩
 have hd:s.hp d=none:=(Bi Mq).1 d (.st cells) (by simp)
 refine M6 (s:=⟨s.tm,Af s.hp []⟩) hg hd trivial ?_ (fun cs hx x hxm id Bh=>?_) ?_ ?_
 ·refine⟨w.heap.size,0,Am _ _ _,fun j p hj=>?_,fun j hj=>?_⟩
  ·obtain⟨u,hu,hp⟩:=hc j p hj;refine⟨u,by rw[Nat.zero_add,hg.cell];exact hu,hp.step (hg.step.weaken (fun _ _ x=>x.elim)) (XB (s:=⟨s.tm,Af s.hp []⟩) hd) fun id Bh=>Ai _ _ ?_⟩
   rintro rfl
   exact hr p (List.mem_of_getElem? hj) id Bh hd
  ·rw[Nat.zero_add];obtain⟨u,hu,_⟩:=hc j _ (List.getElem?_eq_getElem hj)
   exact hg.frozen (by
    rcases Nat.lt_or_ge j c.size with h|h
    ·exact h
    ·rw[Array.getElem?_eq_none h] at hu;cases hu)
 ·injection hx with hx;subst hx;exact hr x hxm id Bh
 ·exact⟨w.heap.size,0,Am _ _ _,rfl⟩
 ·intro id Bh;simp[Br,B8,An] at Bh;exact .inr Bh
end
open Go.RowKit
section
variable {R:Type} {r:R} {P:Program} {N:Nat} {w0:World} {X0:Gu} {Y:Nat->Prop} {β β':Bt} {s:St} {a:Act} {w w':World} {o:Oper}
theorem Id {t:TypeId}{n:Nat}(h:(P.info? t).map (·.size)=some n) (w:World):(sizeOf t).run P w=.ok n w:=by
 cases hi:P.info? t with
 |none=>rw[hi] at h;cases h
 |some i=>rw[hi] at h;simp at h;simp[sizeOf,typeInfo,hi,h]
theorem Aez {t:TypeId}{n:Nat}(h:A8 P t=n)(hn:0<n):(P.info? t).map (·.size)=some n:=by
 unfold A8 at h;cases hi:(P.info? t).map (·.size) with
 |none=>rw[hi] at h;simp at h;omega
 |some i=>rw[hi] at h;simp at h;rw[h]
theorem Ku {t:TypeId}{d:TypeDesc}(h:P.underlying t=some d)(w:World):(isAgg t).run P w=.ok (B4 P t) w:=by
 unfold isAgg B4;rw[h];simp only[Sem.run_bind,run_underlying h,Result.andThen_ok];cases d<;>rfl
theorem XS {t:TypeId}{v:Value}{K:PV->Option R}(h:cvK P t v K=some r):∃p,K p=some r∧Br p=[]∧∀(w:World)(A:Nat->Prop)(β:Bt),D5 w A β p v:=by
 have sc:∀v:Value,K (.sc v)=some r->∃p,K p=some r∧Br p=[]∧∀(w:World) (A:Nat->Prop) (β:Bt),D5 w A β p v:=fun v h=>⟨_,h,rfl,fun w A β=>Au.sc v⟩
 unfold cvK at h;split at h
 ·rename_i cs;obtain⟨hl,h⟩:=Al h;obtain⟨xs,h,hxl,hx⟩:=P4 h;have hl:=Nat.eq_of_beq_eq_true hl;refine⟨_,h,?_,fun w A β=>⟨cs.toList,by simp,?_⟩⟩
  ·show xs.flatMap An=[];rw[List.flatMap_eq_nil_iff];intro c hc;obtain⟨j,hj⟩:=List.mem_iff_getElem?.1 hc;exact Gq (hx j c hj).1
  ·refine Bc.of_at (by rw[hxl,hl]) fun i c u hc hu=>?_
   obtain⟨hT,p,hp,_,Wn⟩:=hx i c hc;refine (Jh hT).2 (Wn w A β u ?_).1;rw[Nat.zero_add,List.getElem?_map,hu] at hp;simp at hp;subst hp;exact Au.sc u
 ·split at h
  ·exact⟨_,h,rfl,fun w A β=>Au.lnil true _⟩
  ·cases h
 ·exact sc _ h
theorem Uz (h:Cl N w0 X0 Y β s a w){x:Operand}(Ci:(execOp a.eval o).run P w=.ok (.value (a.eval x)) w) {K:PV->Option R}(hk:Xt P o.type s.tm x K=some r):
  ∃v,K v=some r∧Dz P a w o Y β s v [] []:=by
 have dflt:K (Bz s.tm x)=some r->∃v,K v=some r∧Dz P a w o Y β s v [] []:=fun hk=>⟨_,hk,B0 Ci (Cq h x) (Eh h x)⟩
 cases x with
 |const v=>
  obtain⟨p,hk,hr,hv⟩:=XS hk;exact⟨p,hk,B0 Ci (hv _ _ _) (by rw[hr];simp)⟩
 |tmp t=>exact dflt hk
 |func f=>exact dflt hk
 |global g=>exact dflt hk
theorem Abd {x:Operand}(ho:o.op=.move x):(execOp a.eval o).run P w=.ok (.value (a.eval x)) w:=by unfold execOp;rw[ho];rfl
theorem OP {x:Operand}(ho:o.op=.assign x):(execOp a.eval o).run P w=.ok (.value (a.eval x)) w:=by unfold execOp;rw[ho];rfl
theorem VT (h:Cl N w0 X0 Y β s a w){c x y:Operand}(ho:o.op=.pick c x y){K:PV->Option R}(hk:(Ao (Bz s.tm c) fun t=>Bf t (K (Bz s.tm x)) (K (Bz s.tm y)))=some r):
  ∃v,K v=some r∧Dz P a w o Y β s v [] []:=by
 obtain⟨b,hb,hk⟩:=Di hk;have hc:=B3 h hb;rcases Kl hk with⟨rfl,hk⟩|⟨rfl,hk⟩
 ·exact⟨_,hk,B0 (by unfold execOp;rw[ho];simp[asBool,hc]) (Cq h x) (Eh h x)⟩
 ·exact⟨_,hk,B0 (by unfold execOp;rw[ho];simp[asBool,hc]) (Cq h y) (Eh h y)⟩
theorem L5 {t:TypeId}{K:List PV->Option R}(h:F6 P t K=some r):∃(v:Value)(cs:List PV),K cs=some r∧Ml P t=some v∧cs.length=(G1 P t).length∧cs.length=v.cells.toList.length∧cs.length=A8 P t ∧
  ∀(j:Nat) c,cs[j]?=some c->Sg c∧∃u,v.cells.toList[j]?=some u∧u.oneCell'=true∧∀(w:World) (A:Nat->Prop),Au w A c u:=by
 unfold F6 at h;obtain⟨v,hz,h⟩:=B7 h;obtain⟨hl,h⟩:=Al h;obtain⟨cs,h,Jg,hc⟩:=P4 h;simp only[Bool.and_eq_true] at hl;have DL:=Nat.eq_of_beq_eq_true hl.1
 have Pg:(G1 P t).length=A8 P t:=by
  have:=hl.2;simp only[Hd,Bool.and_eq_true] at this;exact Nat.eq_of_beq_eq_true this.2
 refine⟨v,cs,h,hz,Jg,by rw[Jg,DL],by rw[Jg,Pg],fun j c hj=>?_⟩
 obtain⟨hT,p,hp,_,Wn⟩:=hc j c hj;rw[Nat.zero_add,List.getElem?_map] at hp;cases hu:v.cells.toList[j]? with
 |none=>rw[hu] at hp;cases hp
 |some u=>
  rw[hu] at hp;simp at hp;subst hp;exact⟨hT,u,rfl,(Wn default (fun _=>False) (fun _=>none) u (Au.sc u)).2,fun w A=>(Wn w A (fun _=>none) u (Au.sc u)).1⟩
theorem R9 {t:TypeId}{v:Value}(h:Ml P t=some v)(w:World):(zeroValue t).run P w=.ok v w:=by
 unfold Ml at h;cases hi:P.info? t with
 |none=>rw[hi] at h;cases h
 |some i=>rw[hi] at h;simp at h;simp[zeroValue,typeInfo,hi,h]
theorem PP {t:TypeId}(ho:o.op=.alloc t){d:Nat}{K:PV->List Nat->List (Nat × Bl)->Option R}
  (hk:(F6 P t fun cs=>K (.ptr d 0) [] [(d,Afm P t cs)])=some r):∃v fz nw,K v fz nw=some r∧Dz P a w o Y β s v fz nw:=by
 obtain⟨z,cs,hk,hz,_,hl,_,hc⟩:=L5 hk
 have Ci:(execOp a.eval o).run P w=.ok (.value (.pointer (some ⟨w.heap.size,0,none⟩))) (w.alloc (.cells z.cells t)):=by
  unfold execOp;rw[ho];simp[Instr.alloc,R9 hz,newVar,newRow]
 have hg:=Fn.alloc w z.cells t;refine⟨_,_,_,hk,?_⟩;unfold Afm;cases Pk P t
 ·refine IA Ci hg (fun j p hj=>?_) fun x hx id Bh=>?_
  ·obtain⟨hT,u,hu,_,hv⟩:=hc j p hj;exact⟨u,by simpa using hu,(Jh hT).2 (hv _ _)⟩
  ·obtain⟨j,hj⟩:=List.mem_iff_getElem?.1 hx;rw[Gq (hc j x hj).1] at Bh;cases Bh
 ·refine M1 (by simp) Ci hg (fun j p hj=>?_) (.inl ⟨rfl,rfl⟩)
  obtain⟨hT,u,hu,h1,hv⟩:=hc j p hj;exact⟨u,by simpa using hu,h1,hv _ _⟩
end
open Go.RowKit
section
variable {R:Type} {r:R} {P:Program} {N:Nat} {w0:World} {X0:Gu} {Y:Nat->Prop} {β β':Bt} {s:St} {a:Act} {w w':World} {o:Oper} {A:Nat->Prop}
theorem M7 {t:TypeId}(h:Hd P t=true):(∃d,P.underlying t=some d)∧(G1 P t).length=A8 P t∧(P.info? t).map (·.size)=some (A8 P t):=by
 simp only[Hd,Bool.and_eq_true] at h;refine⟨Option.isSome_iff_exists.1 h.1,Nat.eq_of_beq_eq_true h.2,?_⟩;unfold A8;cases hi:P.info? t with
 |none=>unfold Program.underlying at h;rw[hi] at h;cases h.1
 |some i=>simp
theorem Kr {v:Value}(h:v.oneCell'=true):v.cells = #[v]:=by cases v<;>first|rfl|cases h
theorem YP {p:PV}{v:Value}{ts:List CT}{K:List PV->Option R}(hv:D5 w A β p v)(hl:(cellsOf p).length=ts.length) (h:Lr ts (cellsOf p) 0 K=some r):
  ∃cs,K cs=some r∧cs.length=ts.length∧Bc (Bw w A β) cs v.cells.toList∧(∀u∈v.cells.toList,u.oneCell'=true)∧(∀c∈cs,∀id∈An c,id∈Br p)∧∀c∈cs,(∀x,c ≠ .agg x)∧(∀x,c ≠ .tup x):=by
 obtain⟨cs,h,Jg,X9,hc⟩:=Ql h;refine⟨cs,h,Jg,?_⟩
 have single:(∀x,p ≠ .agg x)->cellsOf p=[p]:=by
  intro hp;cases p<;>first|rfl|exact absurd rfl (hp _)
 by_cases Fc:∃x,p=.agg x
 ·obtain⟨x,rfl⟩:=Fc;obtain⟨vs,rfl,h2⟩:=hv;have Dj:cs.length=vs.length:=by rw[Jg,←hl];exact h2.len
  have key:∀(i:Nat) c u,cs[i]?=some c->vs[i]?=some u->Bw w A β c u∧u.oneCell'=true:=by
   intro i c u Ob hu;obtain⟨q,hq,_,_,hqv⟩:=hc i c Ob;rw[Nat.zero_add] at hq;exact hqv w A β u (h2.at_ hq hu)
  refine⟨Bc.of_at Dj fun i c u Ob hu=>(key i c u Ob hu).1,?_,?_,X9⟩
  ·intro u hu;obtain⟨i,hi⟩:=List.mem_iff_getElem?.1 (show u∈vs from hu)
   have B5:i<vs.length:=by
    rcases Nat.lt_or_ge i vs.length with h|h
    ·exact h
    ·rw[List.getElem?_eq_none h] at hi;cases hi
   exact (key i _ u (List.getElem?_eq_getElem (by omega)) hi).2
  ·intro c NV id Bh;obtain⟨i,hi⟩:=List.mem_iff_getElem?.1 NV;obtain⟨q,hq,_,hr,_⟩:=hc i c hi;rw[Nat.zero_add] at hq;show id∈x.flatMap An;exact List.mem_flatMap.2 ⟨q,List.mem_of_getElem? hq,hr id Bh⟩
 ·have hp:∀x,p ≠ .agg x:=fun x e=>Fc ⟨x,e⟩
  rw[single hp] at hl hc;have DL:cs.length=1:=by rw[Jg,←hl];rfl
  match cs,DL with
  |[c],_=>
   obtain⟨q,hq,hf,hr,hqv⟩:=hc 0 c rfl;simp at hq;subst hq;have M4:∀x,p ≠ .tup x:=by rintro x rfl;exact hf
   have Lx:Bw w A β p v:=(V0 hp).1 ((Mc M4).1 hv);obtain⟨h5,h6⟩:=hqv w A β v Lx;rw[Kr h6];refine⟨⟨h5,trivial⟩,?_,?_,X9⟩
   ·intro u hu;simp at hu;subst hu;exact h6
   ·intro c' Ob id Bh;simp at Ob;subst Ob;have:=hr id Bh;cases p<;>first|exact this|exact absurd rfl (hp _)|exact absurd rfl (M4 _)
end
open Go.RowKit
section
variable {R:Type} {r:R} {P:Program} {N:Nat} {w0:World} {X0:Gu} {Y:Nat->Prop} {β β':Bt} {s:St} {a:Act} {w w':World} {o:Oper} {A:Nat->Prop}
theorem Bc.get {α β':Type}{R':α->β'->Prop}{zs:List α}{bs:List β'}(h:Bc R' zs bs){i:Nat}{x:α}(hx:zs[i]?=some x):∃y,bs[i]?=some y∧R' x y:=by
 have B5:i<zs.length:=by
  rcases Nat.lt_or_ge i zs.length with h|h
  ·exact h
  ·rw[List.getElem?_eq_none h] at hx;cases hx
 have hb:bs[i]?=some (bs[i]'(by rw[←h.len];exact B5)):=List.getElem?_eq_getElem _
 exact⟨_,hb,h.at_ hx hb⟩
theorem Ahf {p:PV}{v:Value}{ts:List CT}{K:List PV->Option R}(hv:D5 w A β p v)(hl:(cellsOf p).length=ts.length) (h:Pb ts (cellsOf p) 0 K=some r):
  ∃cs,K cs=some r∧cs.length=ts.length∧Bc (Au w A) cs v.cells.toList∧∀u∈v.cells.toList,u.oneCell'=true:=by
 obtain⟨cs,h,Jg,hc⟩:=P4 h;refine⟨cs,h,Jg,?_⟩;by_cases Fc:∃x,p=.agg x
 ·obtain⟨x,rfl⟩:=Fc;obtain⟨vs,rfl,h2⟩:=hv;have Dj:cs.length=vs.length:=by rw[Jg,←hl];exact h2.len
  have key:∀(i:Nat) c u,cs[i]?=some c->vs[i]?=some u->Au w A c u∧u.oneCell'=true:=by
   intro i c u Ob hu;obtain⟨_,q,hq,_,hqv⟩:=hc i c Ob;rw[Nat.zero_add] at hq;exact hqv w A β u (h2.at_ hq hu)
  refine⟨Bc.of_at Dj fun i c u Ob hu=>(key i c u Ob hu).1,?_⟩
  intro u hu;obtain⟨i,hi⟩:=List.mem_iff_getElem?.1 (show u∈vs from hu)
  have B5:i<vs.length:=by
   rcases Nat.lt_or_ge i vs.length with h|h
   ·exact h
   ·rw[List.getElem?_eq_none h] at hi;cases hi
  exact (key i _ u (List.getElem?_eq_getElem (by omega)) hi).2
 ·have hp:∀x,p ≠ .agg x:=fun x e=>Fc ⟨x,e⟩
  have single:cellsOf p=[p]:=by cases p<;>first|rfl|exact absurd rfl (hp _)
  rw[single] at hl hc;have DL:cs.length=1:=by rw[Jg,←hl];rfl
  match cs,DL with
  |[c],_=>
   obtain⟨_,q,hq,hf,hqv⟩:=hc 0 c rfl;simp at hq;subst hq;have M4:∀x,p ≠ .tup x:=by rintro x rfl;exact hf
   have Lx:Bw w A β p v:=(V0 hp).1 ((Mc M4).1 hv);obtain⟨h5,h6⟩:=hqv w A β v Lx;rw[Kr h6];exact⟨⟨h5,trivial⟩,fun u hu=>by simp at hu;subst hu;exact h6⟩
theorem Aaz (h:Cl N w0 X0 Y β s a w){t:TypeId}{x:Operand}(ho:o.op=.box t x){d:Nat}{K:PV->List Nat->List (Nat × Bl)->Option R}
    (hk:(Be (Hd P t&&Nat.beq (cellsOf (Bz s.tm x)).length (G1 P t).length)
      (bif Pk P t then Pb (G1 P t) (cellsOf (Bz s.tm x)) 0 fun cs=>K (.ptr d 0) [] [(d,.ar false cs)]
       else Lr (G1 P t) (cellsOf (Bz s.tm x)) 0 fun cs=>K (.ptr d 0) [] [(d,.st cs)]))=some r):∃v fz nw,K v fz nw=some r∧Dz P a w o Y β s v fz nw:=by
  obtain⟨hl,hk⟩:=Al hk
  simp only[Bool.and_eq_true] at hl
  have hl:=Nat.eq_of_beq_eq_true hl.2
  have Ci:(execOp a.eval o).run P w=.ok (.value (.pointer (some ⟨w.heap.size,0,none⟩))) (w.alloc (.cells (a.eval x).cells t)):=by
    unfold execOp
    rw[ho]
    simp[Instr.box,newVar,newRow]
  have hg:=Fn.alloc w (a.eval x).cells t
  cases ha:Pk P t
  · rw[ha] at hk
    obtain⟨cs,hk,_,h2,_,hr,_⟩:=YP (Cq h x) hl hk
    refine⟨_,_,_,hk,IA Ci hg (fun j p hj=>?_) fun c hc id Bh=>Eh h x id (hr c hc id Bh)⟩
    obtain⟨u,hu,hp⟩:=h2.get hj
    exact⟨u,by simpa using hu,hp⟩
  · rw[ha] at hk
    obtain⟨cs,hk,_,h2,h1⟩:=Ahf (Cq h x) hl hk
    refine⟨_,_,_,hk,M1 (by simp) Ci hg (fun j p hj=>?_) (.inl ⟨rfl,rfl⟩)⟩
    obtain⟨u,hu,hp⟩:=h2.get hj
    exact⟨u,by simpa using hu,h1 u (List.mem_of_getElem? hu),hp⟩
theorem VI {c:PV}(h1:∀x,c ≠ .agg x)(h2:∀x,c ≠ .tup x):Br c=An c:=by
 cases c<;>first|rfl|exact absurd rfl (h1 _)|exact absurd rfl (h2 _)
theorem Vn {t:TypeId}{ad:Addr}{cs:List PV}{p:PV}(hok:Hd P t=true)(Dj:cs.length=(G1 P t).length)
  (X9:∀c∈cs,(∀x,c ≠ .agg x)∧(∀x,c ≠ .tup x))
  (hc:∀(j:Nat) c,cs[j]?=some c->∃v,w.cell? (ad.add j)=some v∧Bw w A β c v)
  (hp:(B4 P t=true∧p=.agg cs)∨(B4 P t=false∧cs=[p])):∃val,(loadVar t ad).run P w=.ok val w∧D5 w A β p val:=by
 obtain⟨⟨d,hd⟩,hl,hi⟩:=M7 hok;rcases hp with⟨Fc,rfl⟩|⟨Fc,rfl⟩
 ·have hf:∀j,j<A8 P t->w.cell? (ad.add j)=some ((w.cell? (ad.add j)).getD undef):=by
   intro j hj;obtain⟨v,hv,_⟩:=hc j _ (List.getElem?_eq_getElem (by omega))
   rw[hv];rfl
  refine⟨_,?_,(List.range (A8 P t)).map (fun j=>(w.cell? (ad.add j)).getD undef),rfl,?_⟩
  ·simp only[loadVar,Sem.run_bind,Ku hd,Fc,Result.andThen_ok,if_true,Id hi,run_loadCells w ad (A8 P t) _ hf];simp
  ·refine Bc.of_at (by simp;omega) fun i c u Ob hu=>?_
   obtain⟨v,hv,Zc⟩:=hc i c Ob
   have B5:i<A8 P t:=by
    rcases Nat.lt_or_ge i cs.length with h|h
    ·omega
    ·rw[List.getElem?_eq_none h] at Ob;cases Ob
   rw[List.getElem?_map,List.getElem?_range B5] at hu;simp[hv] at hu;subst hu;exact Zc
 ·obtain⟨v,hv,Zc⟩:=hc 0 p rfl;have hn:=X9 p (by simp)
  have h0:ad.add 0=ad:=by simp[Addr.add]
  rw[h0] at hv;refine⟨v,?_,(Mc hn.2).2 ((V0 hn.1).2 Zc)⟩;simp only[loadVar,Sem.run_bind,Ku hd,Fc,Result.andThen_ok];simp[hv]
theorem Acj {hp:Nat->Option Bl}{id:Nat}{c:List PV}(h:rd hp id=some c):hp id=some (.st c)∨∃f,hp id=some (.ar f c):=by
 unfold rd at h;split at h
 ·rename_i e;simp at h;subst h;exact .inl e
 ·rename_i f _ e;simp at h;subst h;exact .inr ⟨_,e⟩
 ·cases h
theorem LO {hp:Nat->Option Bl}{id:Nat}{c:List PV}(h:Hq hp id=some c):∃f,hp id=some (.ar f c):=by
 unfold Hq at h;split at h
 ·rename_i e;simp at h;subst h;exact⟨_,e⟩
 ·cases h
theorem BW (h:Cl N w0 X0 Y β s a w){id:Nat}{c:List PV}(hr:rd s.hp id=some c){b ob:Nat}(hβ:β id=some (b,ob)) {j:Nat}{p:PV}(hj:c[j]?=some p):
  ∃v,w.cell? ⟨b,ob+j,none⟩=some v∧Bw w (Cw s.hp β Y) β p v:=by
 rcases Acj hr with hb|⟨f,hb⟩
 ·obtain⟨b',o',h1,h2,_⟩:=h.box id _ hb;rw[hβ] at h1;simp at h1;obtain⟨rfl,rfl⟩:=h1;exact h2 j p hj
 ·rcases h.box id _ hb with⟨h1,_⟩|⟨b',o',h1,h2,_⟩
  ·rw[hβ] at h1;cases h1
  ·rw[hβ] at h1;simp at h1;obtain⟨rfl,rfl⟩:=h1
   obtain⟨v,hv,_,ht⟩:=h2 j p hj;rw[Eb] at hv;refine⟨v,hv,?_⟩;cases ht with
   |sc=>exact Au.sc _
   |top=>exact Au.top _
   |ub=>exact Au.ub _
   |lnil=>exact Au.lnil _ _
   |lemp=>exact Au.lemp _ _ _
   |lst es n cells a cap f hs hb hA hn hc h1 hr=>exact Au.lst es n cells a cap f hs hb hA hn hc h1 hr
theorem Ii:∀{ts:List CT}{cells:List PV}{off:Nat}{K:List PV->Option R},Pb ts cells off K=some r->Lr ts cells off K=some r
 |[],_,_,_,h=>h
 |.int k::ts,cells,off,K,h=>by
  obtain⟨n,hp,h⟩:=D7 (show Ak k (cells.getD off .top) _=some r from h)
  show Ak k _ _=_;rw[hp];simp only[Ak,if_true];exact Ii h
 |.bool::ts,cells,off,K,h=>by
  obtain⟨n,hp,h⟩:=Di (show Ao (cells.getD off .top) _=some r from h)
  show Ao _ _=_;rw[hp];exact Ii h
 |.str::ts,cells,off,K,h=>by
  obtain⟨n,hp,h⟩:=Dd (show Az (cells.getD off .top) _=some r from h)
  show Az _ _=_;rw[hp];exact Ii h
 |.sl es::ts,cells,off,K,h=>by
  obtain⟨z,n,c,h,hp⟩:=Ew (show Ke es (cells.getD off .top) _=some r from h)
  change fcK (.sl es) (cells.getD off .top) (fun c=>Lr ts cells (off+1) fun r=>K (c::r))=some r
  unfold fcK;dsimp only;unfold fsK;rcases hp with hp|⟨hp,rfl,rfl,rfl⟩
  ·rw[hp];simp only[Ke,Nat.beq_refl,cond_true];exact Ii h
  ·rw[hp];exact Ii h
 |.any::ts,cells,off,K,h=>by
  have hK:∀v,Pb ts cells (off+1) (fun r=>K (.sc v::r))=some r->Lr ts cells (off+1) (fun r=>K (.sc v::r))=some r:=fun v h=>Ii h
  have h:fnK (cells.getD off .top) (fun v=>Pb ts cells (off+1) fun r=>K (.sc v::r))=some r:=h
  show fnK (cells.getD off .top) (fun v=>Lr ts cells (off+1) fun r=>K (.sc v::r))=some r
  unfold fnK at h ⊢;split at h
  ·rename_i e;exact hK _ h
  ·exact hK _ h
  ·cases h
theorem Au.unz {w:World}{A:Nat->Prop}{z:Bool}{es n:Nat}{c:List PV}{u:Value}(h:Au w A (.lst z es n c) u):Au w A (.lst false es n c) u:=by
 cases h with
 |lnil z es=>exact .lnil false es
 |lemp es a cap=>exact .lemp es a cap
 |lst es n c a cap f h1 h2 h3 h4 h5 h6 h7=>exact .lst es n c a cap f h1 h2 h3 h4 h5 h6 h7
theorem ZR {w:World}{A:Nat->Prop}{β:Bt}{p:PV}{u:Value}(h:Bw w A β p u):Bw w A β (MD p) u:=by
 cases p with
 |lst z es n c=>exact Au.unz h
 |_=>exact h
theorem UP (p:PV):An (MD p)=An p:=by cases p<;>rfl
theorem HE {w:World}{A:Nat->Prop}{β:Bt}:∀{cs:List PV}{vs:List Value},Bc (Bw w A β) cs vs->Bc (Bw w A β) (cs.map MD) vs
 |[],[],_=>trivial
 |_::_,_::_,h=>⟨ZR h.1,HE h.2⟩
 |[],_::_,h=>h.elim
 |_::_,[],h=>h.elim
theorem ZA {w:World}{A:Nat->Prop}{β:Bt}{p:PV}{u:Value}(h:D5 w A β p u):D5 w A β (UO p) u:=by
 cases p with
 |agg cs=>
  obtain⟨vs,h1,h2⟩:=(show Gt w A β (.agg cs) u from h)
  exact⟨vs,h1,HE h2⟩
 |lst z es n c=>exact Au.unz (show Au w A (.lst z es n c) u from h)
 |_=>exact h
theorem Aas (p:PV):Br (UO p)=Br p:=by
 cases p with
 |agg cs=>
  show (cs.map MD).flatMap An=cs.flatMap An
  induction cs with
  |nil=>rfl
  |cons a l ih=>rw[List.map_cons,List.flatMap_cons,List.flatMap_cons,ih,UP]
 |_=>rfl
theorem Ai3 {nz:Bool}{hp:Nat->Option Bl}{t:TypeId}{x:PV}{K:PV->Option R}(h:Vh nz P (rd hp) (Hq hp) t x K=some r):
  Sn P (rd hp) t x K=some r∨Sn P (rd hp) t x (fun v=>K (UO v))=some r:=by
 have h':Sn P (rd hp) t x K=some r∨Sn P (rd hp) t x (fun v=>K (bif nz then v else UO v))=some r:=by
  unfold Vh at h;unfold Sn;split at h
  ·rename_i id off;obtain⟨hb,h⟩:=Al h;rw[hb];show Do _ _=_∨Do _ _=_;split at h
   ·rename_i c hc;obtain⟨f,Jl⟩:=LO hc;have:rd hp id=some c:=by unfold rd;rw[Jl]
    rw[this];exact .inr (Ii h)
   ·exact .inl h
  ·exact .inr h
  ·cases h
 cases nz
 ·exact h'
 ·exact .inl (h'.elim id id)
theorem II (h:Cl N w0 X0 Y β s a w){t:TypeId}{x:PV}{u:Value}(hx:D5 w (Cw s.hp β Y) β x u) {K:PV->Option R}(hk:Sn P (rd s.hp) t x K=some r):
  ∃v ad val,K v=some r∧u=.pointer (some ad)∧(loadVar t ad).run P w=.ok val w∧D5 w (Cw s.hp β Y) β v val∧∀i∈Br v,s.hp i≠none:=by
 unfold Sn at hk;split at hk
 ·rename_i id off;obtain⟨hok,hk⟩:=Al hk;obtain⟨c,hr,hk⟩:=B7 hk;obtain⟨cs,hk,hl,X9,hc⟩:=Ql hk;obtain⟨b,ob,hβ,Cz⟩:=hx
  have Cp:∀(j:Nat) q,cs[j]?=some q->∃v,w.cell? ((⟨b,ob+off,none⟩:Addr).add j)=some v∧Bw w (Cw s.hp β Y) β q v:=by
   intro j q hq;obtain⟨p,hp,_,_,Wn⟩:=hc j q hq;obtain⟨v,hv,Zc⟩:=BW h hr hβ hp;exact⟨v,by rw[Eb,Nat.add_assoc];exact hv,(Wn _ _ _ _ Zc).1⟩
  have R8:∀q∈cs,∀i∈An q,s.hp i≠none:=by
   intro q hq i hi;obtain⟨j,hj⟩:=List.mem_iff_getElem?.1 hq;obtain⟨p,hp,_,hpr,_⟩:=hc j q hj;rcases Acj hr with hb|⟨f,hb⟩
   ·exact h.wfB id c hb p (List.mem_of_getElem? hp) i (hpr i hi)
   ·obtain⟨v,hv,Zc⟩:=BW h hr hβ hp;exfalso;have Cn:=hpr i hi;rcases h.box id _ hb with⟨_,rfl⟩|⟨b',o',h1,h2,_⟩
    ·simp at hp
    ·obtain⟨v',_,_,ht⟩:=h2 _ p hp;cases ht<;>cases Cn
  rcases LZ hk with⟨Fc,D8⟩|⟨Fc,q,rfl,D8⟩
  ·obtain⟨val,Vq,hv⟩:=Vn hok hl X9 Cp (.inl ⟨Fc,rfl⟩);refine⟨_,_,val,D8,Cz,Vq,hv,fun i hi=>?_⟩
   obtain⟨q,hq,hi⟩:=List.mem_flatMap.1 (show i∈cs.flatMap An from hi)
   exact R8 q hq i hi
  ·obtain⟨val,Vq,hv⟩:=Vn hok hl X9 Cp (.inr ⟨Fc,rfl⟩);refine⟨_,_,val,D8,Cz,Vq,hv,fun i hi=>R8 q (by simp) i ?_⟩
   have hn:=X9 q (by simp)
   rw[VI hn.1 hn.2] at hi;exact hi
 ·rename_i c off;obtain⟨hok,hk⟩:=Al hk;obtain⟨cs,hk,hl,hc⟩:=P4 hk;obtain⟨ad,Cz,hs,hb,hA,hrd⟩:=hx
  have X9:∀q∈cs,(∀x,q ≠ .agg x)∧(∀x,q ≠ .tup x):=by
   intro q hq;obtain⟨j,hj⟩:=List.mem_iff_getElem?.1 hq;exact⟨Vx (hc j q hj).1,YL (hc j q hj).1⟩
  have Cp:∀(j:Nat) q,cs[j]?=some q->∃v,w.cell? ((ad.add off).add j)=some v∧Bw w (Cw s.hp β Y) β q v:=by
   intro j q hq;obtain⟨hT,p,hp,BE,Wn⟩:=hc j q hq;obtain⟨v,hv,_,ht⟩:=hrd (off+j) p hp;exact⟨v,by rw[add_add];exact hv,(Jh hT).2 (Wn w (Cw s.hp β Y) β v ((Jh BE).2 ht)).1⟩
  have R8:∀q∈cs,An q=[]:=by
   intro q hq;obtain⟨j,hj⟩:=List.mem_iff_getElem?.1 hq;exact Gq (hc j q hj).1
  rcases LZ hk with⟨Fc,D8⟩|⟨Fc,q,rfl,D8⟩
  ·obtain⟨val,Vq,hv⟩:=Vn hok hl X9 Cp (.inl ⟨Fc,rfl⟩);refine⟨_,_,val,D8,Cz,Vq,hv,fun i hi=>?_⟩
   obtain⟨q,hq,hi⟩:=List.mem_flatMap.1 (show i∈cs.flatMap An from hi)
   rw[R8 q hq] at hi;cases hi
  ·obtain⟨val,Vq,hv⟩:=Vn hok hl X9 Cp (.inr ⟨Fc,rfl⟩);refine⟨_,_,val,D8,Cz,Vq,hv,fun i hi=>?_⟩
   have hn:=X9 q (by simp)
   rw[VI hn.1 hn.2,R8 q (by simp)] at hi
   cases hi
 ·cases hk
theorem OK (h:Cl N w0 X0 Y β s a w){t:TypeId}{x:PV}{u:Value}(hx:D5 w (Cw s.hp β Y) β x u) {nz:Bool}{K:PV->Option R}(hk:Vh nz P (rd s.hp) (Hq s.hp) t x K=some r):
  ∃v ad val,K v=some r∧u=.pointer (some ad)∧(loadVar t ad).run P w=.ok val w∧D5 w (Cw s.hp β Y) β v val∧∀i∈Br v,s.hp i≠none:=by
 rcases Ai3 hk with hk|hk
 ·exact II h hx hk
 ·obtain⟨v,ad,val,h1,h2,h3,h4,h5⟩:=II h hx hk;exact⟨UO v,ad,val,h1,h2,h3,ZA h4,by rw[Aas];exact h5⟩
theorem TA (h:Cl N w0 X0 Y β s a w){t:TypeId}{x:Operand}(ho:o.op=.load t x){nz:Bool}{K:PV->Option R}(hk:Vh nz P (rd s.hp) (Hq s.hp) t (Bz s.tm x) K=some r):
  ∃v,K v=some r∧Dz P a w o Y β s v [] []:=by
 obtain⟨v,ad,val,Dm,Cz,hl,hv,hr⟩:=OK h (Cq h x) hk;refine⟨v,Dm,B0 ?_ hv hr⟩;unfold execOp;rw[ho];simp[Instr.loadAt,Instr.sureAddr,Cz,hl]
theorem ZM {x:PV}{d:Nat}{K:PV->Option R}(h:Qs x d K=some r):(∃id off,x=.ptr id off∧K (.ptr id (off+d))=some r)∨∃c off,x=.iptr c off∧K (.iptr c (off+d))=some r:=by
 unfold Qs at h;split at h
 ·exact .inl ⟨_,_,rfl,h⟩
 ·exact .inr ⟨_,_,rfl,h⟩
 ·cases h
theorem Ti (h:Cl N w0 X0 Y β s a w){x:Operand}{d:Nat}{K:PV->Option R}(hk:Qs (Bz s.tm x) d K=some r)
  (Ci:∀ad:Addr,a.eval x=.pointer (some ad)->(execOp a.eval o).run P w=.ok (.value (.pointer (some (ad.add d)))) w):∃v,K v=some r∧Dz P a w o Y β s v [] []:=by
 have hx:=Cq h x;have EY:=Eh h x;rcases ZM hk with⟨id,off,e,hk⟩|⟨c,off,e,hk⟩
 ·rw[e] at hx EY;obtain⟨b,ob,hβ,Cz⟩:=hx;refine⟨_,hk,B0 (Ci _ Cz) ⟨b,ob,hβ,by rw[Eb,Nat.add_assoc]⟩ EY⟩
 ·rw[e] at hx;obtain⟨ad,Cz,h1,h2,h3,h4⟩:=hx;exact⟨_,hk,B0 (Ci _ Cz) ⟨ad,by rw[add_add],h1,h2,h3,h4⟩ (by intro i hi;cases hi)⟩
theorem DE (h:Cl N w0 X0 Y β s a w){x:Operand}(ho:o.op=.nilCheck x){K:PV->Option R}(hk:Qs (Bz s.tm x) 0 K=some r):∃v,K v=some r∧Dz P a w o Y β s v [] []:=by
 refine Ti h hk fun ad Cz=>?_
 unfold execOp;rw[ho];simp[Cz,Addr.add]
theorem Ve {t:TypeId}{f:Nat}{q:Nat × TypeId}(h:Mx P t f=some q):∃fs g,P.underlying t=some (.struct fs)∧fs[f]?=some g∧q=(g.offset,g.type):=by
 unfold Mx at h;split at h
 ·rename_i fs e;cases hg:fs[f]? with
  |none=>rw[hg] at h;cases h
  |some g=>rw[hg] at h;simp at h;exact⟨fs,g,e,hg,h.symm⟩
 ·cases h
theorem Zv (h:Cl N w0 X0 Y β s a w){t:TypeId}{x:Operand}{f:Nat}(ho:o.op=.fieldAddr t x f){K:PV->Option R}
  (hk:(Do (Mx P t f) fun q=>Be (Nat.ble 1 (A8 P q.2)) (Qs (Bz s.tm x) q.1 K))=some r):∃v,K v=some r∧Dz P a w o Y β s v [] []:=by
 obtain⟨q,hq,hk⟩:=B7 hk;obtain⟨hs,hk⟩:=Al hk;obtain⟨fs,g,hu,hg,rfl⟩:=Ve hq;have hs:1<=A8 P g.type:=Nat.le_of_ble_eq_true hs;have Ln:=Aez (P:=P) (t:=g.type) rfl (by omega)
 refine Ti h hk fun ad Cz=>?_
 unfold execOp;rw[ho];have Ei:¬A8 P g.type=0:=by omega
 simp[Instr.fieldAt,run_underlying hu,hg,Instr.sureAddr,Cz,fieldPlace,Id Ln,Ei]
end
open Go.RowKit
section
variable {R:Type} {r:R} {P:Program} {N:Nat} {w0:World} {X0:Gu} {Y:Nat->Prop} {β β':Bt} {s:St} {a:Act} {w w':World} {o:Oper} {A:Nat->Prop}
theorem CJ (h:Cl N w0 X0 Y β s a w){t:TypeId}{cs:List PV}{vs:List Value}{off:Nat}{K:PV->Option R}{x:Operand}(hx:Bz s.tm x=.agg cs)(hv:Bc (Bw w (Cw s.hp β Y) β) cs vs)
  (hk:Be (Hd P t) (Lr (G1 P t) cs off fun c=>YF (B4 P t) c K)=some r)
  (Ci:∀val,(part t ⟨vs⟩ off).run P w=.ok val w->(execOp a.eval o).run P w=.ok (.value val) w):∃v,K v=some r∧Dz P a w o Y β s v [] []:=by
 obtain⟨hok,hk⟩:=Al hk;obtain⟨⟨d,hd⟩,hl,hi⟩:=M7 hok;obtain⟨qs,hk,hql,X9,hq⟩:=Ql hk;have EY:=Eh h x;rw[hx] at EY
 have Cp:∀(j:Nat) q,qs[j]?=some q->∃v,vs[off+j]?=some v∧Bw w (Cw s.hp β Y) β q v:=by
  intro j q hj;obtain⟨p,hp,_,_,Wn⟩:=hq j q hj;obtain⟨v,Lx,hc⟩:=hv.get hp;exact⟨v,Lx,(Wn _ _ _ _ hc).1⟩
 have R8:∀q∈qs,∀i∈An q,s.hp i≠none:=by
  intro q hqm i hi;obtain⟨j,hj⟩:=List.mem_iff_getElem?.1 hqm;obtain⟨p,hp,_,hpr,_⟩:=hq j q hj;exact EY i (List.mem_flatMap.2 ⟨p,List.mem_of_getElem? hp,hpr i hi⟩)
 rcases LZ hk with⟨Fc,D8⟩|⟨Fc,q,rfl,D8⟩
 ·have Y6:A8 P t=0∨off+A8 P t<=vs.length:=by
   rcases Nat.eq_zero_or_pos (A8 P t) with h0|h0
   ·exact .inl h0
   ·obtain⟨v,Lx,_⟩:=Cp (A8 P t-1) _ (List.getElem?_eq_getElem (by omega))
    have:off+(A8 P t-1)<vs.length:=by
     rcases Nat.lt_or_ge (off+(A8 P t-1)) vs.length with h|h
     ·exact h
     ·rw[List.getElem?_eq_none h] at Lx;cases Lx
    exact .inr (by omega)
  refine⟨_,D8,B0 (Ci (.agg ⟨(vs.drop off).take (A8 P t)⟩) ?_) ⟨(vs.drop off).take (A8 P t),rfl,?_⟩ fun i hi=>?_⟩
  ·simp only[part,Sem.run_bind,Ku hd,Fc,Result.andThen_ok,if_true,Id hi];simp[List.extract_eq_take_drop]
  ·refine Bc.of_at ?_ fun i c u hc hu=>?_
   ·simp only[List.length_take,List.length_drop];omega
   ·obtain⟨v,Lx,Zc⟩:=Cp i c hc
    have B5:i<A8 P t:=by
     rcases Nat.lt_or_ge i qs.length with h|h
     ·omega
     ·rw[List.getElem?_eq_none h] at hc;cases hc
    rw[List.getElem?_take_of_lt B5,List.getElem?_drop,Lx] at hu;cases hu;exact Zc
  ·obtain⟨q,hqm,hi⟩:=List.mem_flatMap.1 (show i∈qs.flatMap An from hi)
   exact R8 q hqm i hi
 ·obtain⟨v,Lx,Zc⟩:=Cp 0 q rfl;have hn:=X9 q (by simp)
  refine⟨_,D8,B0 (Ci v ?_) ((Mc hn.2).2 ((V0 hn.1).2 Zc)) fun i hi=>?_⟩
  ·simp only[part,Sem.run_bind,Ku hd,Fc,Result.andThen_ok];rw[Nat.add_zero] at Lx;simp[Lx]
  ·rw[VI hn.1 hn.2] at hi;exact R8 q (by simp) i hi
theorem RH (h:Cl N w0 X0 Y β s a w){t:TypeId}{x:Operand}{f:Nat}(ho:o.op=.field t x f){K:PV->Option R}
  (hk:(Do (Mx P t f) fun q=>Be (Hd P q.2)<|E3 (Bz s.tm x) fun cs=>Lr (G1 P q.2) cs q.1 fun c=>YF (B4 P q.2) c K)=some r):∃v,K v=some r∧Dz P a w o Y β s v [] []:=by
 obtain⟨q,hq,hk⟩:=B7 hk;obtain⟨hok,hk⟩:=Al hk;obtain⟨cs,hx,hk⟩:=Gb hk;obtain⟨fs,g,hu,hg,rfl⟩:=Ve hq;have hxv:=Cq h x;rw[hx] at hxv;obtain⟨vs,Cz,hv⟩:=hxv;refine CJ (t:=g.type) (off:=g.offset) h hx hv (by rw[show Hd P g.type=true from hok];exact hk) fun val hp=>?_
 unfold execOp;rw[ho];simp[Instr.field,run_underlying hu,hg,asAgg,Cz,hp]
theorem GJ (h:Cl N w0 X0 Y β s a w){x:Operand}{i:Nat}(ho:o.op=.extract x i){K:PV->Option R}
  (hk:(match Bz s.tm x with | .tup vs=>Do vs[i]? K|_=>none)=some r):∃v,K v=some r∧Dz P a w o Y β s v [] []:=by
 have hx:=Cq h x;have EY:=Eh h x;split at hk
 ·rename_i ps e;rw[e] at hx EY;obtain⟨p,hp,hk⟩:=B7 hk;obtain⟨vs,Cz,hv⟩:=hx;obtain⟨v,Lx,Wn⟩:=hv.get hp
  have Ak7:∀y,p ≠ .tup y:=by
   rintro y rfl
   have Az3:Au _ _ (.tup y) v:=Wn;cases Az3
  refine⟨p,hk,B0 (val:=v) ?_ ((Mc Ak7).2 Wn) fun id Bh=>EY id ?_⟩
  ·unfold execOp;rw[ho];simp[Instr.extract,Cz,Lx]
  ·refine List.mem_flatMap.2 ⟨p,List.mem_of_getElem? hp,?_⟩;cases p<;>first|exact Bh|exact absurd rfl (Ak7 _)
 ·cases hk
theorem Fp {es:Nat}{p:PV}{z:Bool}{n:Nat}{c:List PV}{v:Value}(hp:p=.lst z es n c∨(p=.sc (.slice none 0 0)∧z=true∧n=0∧c=[])) (hv:D5 w A β p v):
  (v=.slice none 0 0∧n=0∧c=[])∨(∃ad cap,v=.slice (some ad) n cap∧z=false∧n<=cap∧ad.spot=none∧ad.block<w.heap.size∧¬A ad.block∧RY w A ad c)∨∃ad cap,v=.slice (some ad) 0 cap∧z=false∧n=0∧c=[]:=by
 have Lx:Bw w A β p v:=by rcases hp with rfl|⟨rfl,_⟩<;>exact hv
 have ht:=Sp hp Lx;cases ht with
 |lnil=>exact .inl ⟨rfl,rfl,rfl⟩
 |lst _ _ _ ad cap f hs hb hA hn hc h1 hr=>exact .inr (.inl ⟨ad,cap,rfl,rfl,hn,hs,hb,hA,fun j q hj=>⟨f j,hc j q hj,h1 j q hj,hr j q hj⟩⟩)
 |lemp _ ad cap=>exact .inr (.inr ⟨ad,cap,rfl,rfl,rfl,rfl⟩)
theorem Zy (h:Cl N w0 X0 Y β s a w){t:TypeId}{x i:Operand}(ho:o.op=.indexAddr t x i){K:PV->Option R}
  (hk:(Df (Bz s.tm i) fun _ n=>Ip P t (Bz s.tm x) n K)=some r):∃v,K v=some r∧Dz P a w o Y β s v [] []:=by
 obtain⟨ik,n,hi,hk⟩:=Db hk;have hai:=B3 h hi;have hx:=Cq h x;have EY:=Eh h x;unfold Ip at hk;split at hk
 ·rename_i len e hu;obtain⟨hz,hk⟩:=Al hk;obtain⟨hb,hk⟩:=Al hk;simp only[Bool.and_eq_true,decide_eq_true_eq] at hb;obtain⟨inf,Mk⟩:=Option.isSome_iff_exists.1 hz;refine Ti h hk fun ad Cz=>?_
  unfold execOp;rw[ho];simp[Instr.indexAt,asIntOf,hai,Cz,run_underlying hu,Instr.sureAddr,hb.1,hb.2,sizeOf,typeInfo,Mk,A8]
 ·rename_i e hu;obtain⟨hz,hk⟩:=Al hk;obtain⟨inf,Mk⟩:=Option.isSome_iff_exists.1 hz;have Ln:A8 P e=inf.size:=by simp[A8,Mk]
  split at hk
  ·rename_i id es off n' e';rw[e'] at hx EY;obtain⟨R5,hk⟩:=Al hk;have R5:=Nat.eq_of_beq_eq_true R5;subst R5;obtain⟨hb,hk⟩:=Al hk;simp only[Bool.and_eq_true,decide_eq_true_eq] at hb;rcases hx with⟨_,_,rfl,_⟩|⟨b,ob,y,cap,hβ,Cz,hy,_⟩
   ·omega
   ·have hy:y=ob+off:=by rcases hy with hy|⟨rfl,_⟩<;>omega
    subst hy;refine⟨_,hk,B0 (val:=.pointer (some ⟨b,ob+(off+n.toNat*A8 P e),none⟩)) ?_ ⟨b,ob,hβ,rfl⟩ EY⟩;unfold execOp;rw[ho];simp[Instr.indexAt,asIntOf,hai,Cz,run_underlying hu,hb.1,hb.2,sizeOf,typeInfo,Mk,Ln,Eb,Nat.add_assoc]
  ·obtain⟨z,n',c,hk,hp⟩:=Ew hk;obtain⟨hb,hk⟩:=Al hk;simp only[Bool.and_eq_true,decide_eq_true_eq] at hb;rcases Fp hp hx with⟨_,rfl,_⟩|⟨ad,cap,Cz,_,_,h1,h2,h3,h4⟩|⟨_,_,_,_,rfl,_⟩
   ·omega
   rotate_left
   ·omega
   ·refine⟨_,hk,B0 (val:=.pointer (some (ad.add (n.toNat*A8 P e)))) ?_ ⟨ad,rfl,h1,h2,h3,h4⟩ (by intro i hi;cases hi)⟩
    unfold execOp;rw[ho];simp[Instr.indexAt,asIntOf,hai,Cz,run_underlying hu,hb.1,hb.2,sizeOf,typeInfo,Mk,Ln]
 ·cases hk
theorem NE (h:Cl N w0 X0 Y β s a w){t:TypeId}{x i:Operand}(ho:o.op=.index t x i){K:PV->Option R}
  (hk:(Df (Bz s.tm i) fun _ n=>
   match P.underlying t with
   |some .string=>Az (Bz s.tm x) fun s=>Be (decide (0<=n)) (Do (s.data.toList[n.toNat]?) fun b=>K (.sc (.int .u8 b.toNat)))
   |some (.array len e)=>E3 (Bz s.tm x) fun cs=>Be (decide (0<=n)&&decide (n<len)&&Hd P e) (Lr (G1 P e) cs (n.toNat*A8 P e) fun c=>YF (B4 P e) c K)
   |_=>none)=some r):∃v,K v=some r∧Dz P a w o Y β s v [] []:=by
 obtain⟨ik,n,hi,hk⟩:=Db hk;have hai:=B3 h hi;split at hk
 ·rename_i hu;obtain⟨sb,hx,hk⟩:=Dd hk;have Cz:=B3 h hx;obtain⟨h0,hk⟩:=Al hk;obtain⟨b,hb,hk⟩:=B7 hk;have h0:=of_decide_eq_true h0;refine⟨_,hk,Ce ?_⟩
  have B5:n.toNat<sb.size:=by
   rcases Nat.lt_or_ge n.toNat sb.data.toList.length with h|h
   ·simpa using h
   ·rw[List.getElem?_eq_none h] at hb;cases hb
  have Gy:sb[n.toNat]=b:=by
   have:sb.data.toList[n.toNat]?=some sb[n.toNat]:=by
    rw[List.getElem?_eq_getElem (by simpa using B5)]
    rfl
   rw[hb] at this;injection this with this;exact this.symm
  unfold execOp;rw[ho];simp[Instr.index,asIntOf,hai,Cz,run_underlying hu,h0,B5,Gy]
 ·rename_i len e hu;obtain⟨cs,hx,hk⟩:=Gb hk;obtain⟨hb,hk⟩:=Al hk;simp only[Bool.and_eq_true,decide_eq_true_eq] at hb;have hxv:=Cq h x;rw[hx] at hxv;obtain⟨vs,Cz,hv⟩:=hxv;obtain⟨_,_,Ln⟩:=M7 hb.2;refine CJ (t:=e) (off:=n.toNat*A8 P e) h hx hv (by rw[hb.2];exact hk) fun val hp=>?_
  unfold execOp;rw[ho];simp[Instr.index,asIntOf,hai,Cz,run_underlying hu,hb.1.1,hb.1.2,Id Ln,hp]
 ·cases hk
end
open Go.RowKit
section
variable {R:Type} {r:R} {P:Program} {N:Nat} {w0:World} {X0:Gu} {Y:Nat->Prop} {β β':Bt} {s:St} {a:Act} {w w':World} {o:Oper} {A:Nat->Prop}
theorem Dn (h:Cl N w0 X0 Y β s a w){x:Option Operand}{dflt:Nat}{K:Nat->Option R}(hk:F2 (x.map (Bz s.tm)) dflt K=some r):
  ∃l,K l=some r∧((x=none∧l=dflt)∨∃y k,x=some y∧a.eval y=.int k (l:Int)):=by
 cases x with
 |none=>exact⟨dflt,hk,.inl ⟨rfl,rfl⟩⟩
 |some y=>
  obtain⟨k,i,hi,hk⟩:=Db (show Df (Bz s.tm y) _=some r from hk)
  obtain⟨h0,hk⟩:=Al hk;have h0:=of_decide_eq_true h0;exact⟨i.toNat,hk,.inr ⟨y,k,rfl,by rw[B3 h hi,Int.toNat_of_nonneg h0]⟩⟩
theorem Ha {lo hi:Option Operand}{isS:Bool}{len cap l u:Nat}(hl:(lo=none∧l=0)∨∃y k,lo=some y∧a.eval y=.int k (l:Int))
  (hu:(hi=none∧u=len)∨∃y k,hi=some y∧a.eval y=.int k (u:Int)) (h1:l<=u)(h2:u<=cap):
  (Instr.sliceBounds isS len cap (lo.map a.eval) (hi.map a.eval) none).run P w=.ok (l,u,cap) w:=by
 rcases hl with⟨rfl,rfl⟩|⟨y,k,rfl,hy⟩<;>rcases hu with⟨rfl,rfl⟩|⟨y',k',rfl,hy'⟩
 ·simp[Instr.sliceBounds]
 ·simp[Instr.sliceBounds,Instr.sliceBound,asIntOf,hy',h2]
 ·simp[Instr.sliceBounds,Instr.sliceBound,asIntOf,hy,h1]
 ·simp[Instr.sliceBounds,Instr.sliceBound,asIntOf,hy,hy',h1,h2]
theorem Cm {e:TypeId}(h:(P.info? e).isSome=true) (w:World):(sizeOf e).run P w=.ok (A8 P e) w:=by
 obtain⟨i,hi⟩:=Option.isSome_iff_exists.1 h;exact Id (by simp[A8,hi]) w
theorem AU {b j:Nat}{v:Value}(h:w.cell? ⟨b,j,none⟩=some v):j<bsz w b:=by
 unfold World.cell? at h;unfold bsz;split at h
 ·rename_i c e fz hb;simp only at hb;rw[hb];simp only[Option.isSome_none,Bool.false_eq_true,if_false] at h;rcases Nat.lt_or_ge j c.size with B5|hge
  ·exact B5
  ·rw[Array.getElem?_eq_none hge] at h;cases h
 ·cases h
theorem NL (h:Cl N w0 X0 Y β s a w){t:TypeId}{x:Operand}{lo hi:Option Operand}(ho:o.op=.slice t x lo hi none){K:PV->Option R}
  (hk:Ya P (rd s.hp) t (Bz s.tm x) (lo.map (Bz s.tm)) (hi.map (Bz s.tm)) K=some r):∃v,K v=some r∧Dz P a w o Y β s v [] []:=by
 have hx:=Cq h x;have EY:=Eh h x;unfold Ya at hk;split at hk
 ·rename_i hu;obtain⟨sb,FC,hk⟩:=Dd hk;have Cz:=B3 h FC;obtain⟨l,hk,hl⟩:=Dn h hk;obtain⟨u,hk,Ho⟩:=Dn h hk;obtain⟨hb,hk⟩:=Al hk;simp only[Bool.and_eq_true,decide_eq_true_eq] at hb;refine⟨_,hk,Ce ?_⟩;unfold execOp;rw[ho];simp[Instr.sliceAt,Instr.slice,run_underlying hu,Cz,Ha hl Ho hb.1 hb.2]
 ·rename_i e hu;obtain⟨Mk,hk⟩:=Al hk;split at hk
  ·rename_i id es off n e';rw[e'] at hx EY;obtain⟨R5,hk⟩:=Al hk;have R5:=Nat.eq_of_beq_eq_true R5;subst R5;obtain⟨l,hk,hl⟩:=Dn h hk;obtain⟨u,hk,Ho⟩:=Dn h hk;obtain⟨hb,hk⟩:=Al hk;simp only[Bool.and_eq_true,decide_eq_true_eq] at hb;rcases hx with⟨hβ,rfl,rfl,ad,Cz⟩|⟨b,ob,y,cap,hβ,Cz,hy,hn,Tf,B5⟩
   ·have hu0:u=0:=by omega
    have hl0:l=0:=by omega
    subst hu0 hl0;refine⟨_,hk,B0 (val:=.slice ad 0 0) ?_ (.inl ⟨hβ,by simp,rfl,ad,rfl⟩) EY⟩
    unfold execOp;rw[ho];cases ad<;>simp[Instr.sliceAt,Instr.slice,run_underlying hu,Cz,Ha hl Ho (Nat.le_refl 0) (Nat.le_refl 0),Cm Mk]
   ·have Ci:(execOp a.eval o).run P w=.ok (.value (.slice (some (if cap=l then ⟨b,y,none⟩ else ⟨b,y+l*A8 P e,none⟩)) (u-l) (cap-l))) w:=by
     unfold execOp;rw[ho];have MM:=Ha (P:=P) (w:=w) (isS:=true) hl Ho hb.1 (Nat.le_trans hb.2 hn);simp[Instr.sliceAt,Instr.slice,run_underlying hu,Cz,MM,Cm Mk,Eb];split<;>rfl
    refine⟨_,hk,B0 Ci (.inr ?_) EY⟩;by_cases hc:cap=l
    ·rw[if_pos hc];refine⟨b,ob,y,cap-l,hβ,rfl,?_,by omega,⟨by rw[hc,Nat.sub_self];have:=Tf.1;omega,Tf.2⟩,B5⟩
     by_cases h0:l*A8 P e=0
     ·rw[h0,Nat.add_zero];rcases hy with hy|⟨V8,Mp⟩
      ·exact .inl hy
      ·exact .inr ⟨by omega,Mp⟩
     ·exact .inr ⟨by omega,by omega⟩
    ·rw[if_neg hc];refine⟨b,ob,y+l*A8 P e,cap-l,hβ,rfl,?_,by omega,?_,B5⟩
     ·rcases hy with hy|⟨V8,Mp⟩
      ·exact .inl (by omega)
      ·exact .inr ⟨by omega,by omega⟩
     ·have:l*A8 P e+(cap-l)*A8 P e=cap*A8 P e:=by
       rw[←Nat.add_mul]
       congr 1
       omega
      have:=Tf.1;exact⟨by omega,Tf.2⟩
  ·obtain⟨z,n,c,hk,hp⟩:=Ew hk;obtain⟨l,hk,hl⟩:=Dn h hk;obtain⟨u,hk,Ho⟩:=Dn h hk;obtain⟨hb,hk⟩:=Al hk;simp only[Bool.and_eq_true,decide_eq_true_eq] at hb;rcases Fp hp hx with⟨Cz,rfl,rfl⟩|⟨ad,cap,Cz,rfl,hn,h1,h2,h3,h4⟩|⟨ad,cap,Cz,rfl,rfl,rfl⟩
   rotate_right
   ·have hu0:u=0:=by omega
    have hl0:l=0:=by omega
    subst hu0 hl0;refine⟨_,hk,B0 (val:=.slice (some (if cap=0 then ad else ad.add (0*A8 P e))) (0-0) (cap-0)) ?_ ?_ (by intro i hi;cases hi)⟩
    ·unfold execOp;rw[ho];have MM:=Ha (P:=P) (w:=w) (isS:=true) hl Ho (Nat.le_refl 0) (Nat.zero_le cap);simp[Instr.sliceAt,Instr.slice,run_underlying hu,Cz,MM,Cm Mk];split<;>rfl
    ·have:((([]:List PV).drop (0*A8 P e)).take ((0-0)*A8 P e))=[]:=by simp
     rw[this];exact Au.lemp _ _ _
   ·have hu0:u=0:=by omega
    have hl0:l=0:=by omega
    subst hu0 hl0;refine⟨_,hk,B0 (val:=.slice none 0 0) ?_ ?_ (by intro i hi;cases hi)⟩
    ·unfold execOp;rw[ho];simp[Instr.sliceAt,Instr.slice,run_underlying hu,Cz,Ha hl Ho (Nat.le_refl 0) (Nat.le_refl 0),Cm Mk]
    ·have:((([]:List PV).drop (0*A8 P e)).take ((0-0)*A8 P e))=[]:=by simp
     rw[this];exact Au.lnil z _
   ·have Ci:(execOp a.eval o).run P w=.ok (.value (.slice (some (if cap=l then ad else ad.add (l*A8 P e))) (u-l) (cap-l))) w:=by
     unfold execOp;rw[ho];have MM:=Ha (P:=P) (w:=w) (isS:=true) hl Ho hb.1 (Nat.le_trans hb.2 hn);simp[Instr.sliceAt,Instr.slice,run_underlying hu,Cz,MM,Cm Mk];split<;>rfl
    refine⟨_,hk,B0 Ci ?_ (by intro i hi;cases hi)⟩
    by_cases hc:cap=l
    ·rw[if_pos hc];have:u-l=0:=by omega
     rw[this];simp only[Nat.zero_mul,List.take_zero];exact Au.lst _ _ [] ad _ (fun _=>undef) h1 h2 h3 (by omega) (by simp) (by simp) (by simp)
    ·rw[if_neg hc]
     have Cp:∀(j:Nat) q,((c.drop (l*A8 P e)).take ((u-l)*A8 P e))[j]?=some q->c[l*A8 P e+j]?=some q:=by
      intro j q hq;rw[List.getElem?_take] at hq;split at hq
      ·rw[List.getElem?_drop] at hq;exact hq
      ·cases hq
     refine Au.lst _ _ _ (ad.add (l*A8 P e)) _ (fun j=>(w.cell? (ad.add (l*A8 P e+j))).getD undef) (Acr h1 _) (by rw[Eg];exact h2) (by rw[Eg];exact h3) (by omega) (fun j q hq=>?_) (fun j q hq=>?_) (fun j q hq=>?_)
     ·obtain⟨v,hv,_⟩:=h4 _ q (Cp j q hq);rw[add_add,hv];rfl
     ·obtain⟨v,hv,h5,_⟩:=h4 _ q (Cp j q hq);rw[hv];exact h5
     ·obtain⟨v,hv,_,ht⟩:=h4 _ q (Cp j q hq);rw[hv];exact ht
 ·rename_i n e hu;obtain⟨Mk,hk⟩:=Al hk;split at hk
  ·rename_i id off e';rw[e'] at hx EY;obtain⟨c,hrc,hk⟩:=B7 hk;obtain⟨Dj,hk⟩:=Al hk;simp only[Bool.and_eq_true,decide_eq_true_eq] at Dj;have R5:=Nat.eq_of_beq_eq_true Dj.2
   replace Dj:=Dj.1
   obtain⟨l,hk,hl⟩:=Dn h hk;obtain⟨u,hk,Ho⟩:=Dn h hk;obtain⟨hb,hk⟩:=Al hk;simp only[Bool.and_eq_true,decide_eq_true_eq] at hb;obtain⟨b,ob,hβ,Cz⟩:=hx
   have FQ:ob+off+n*A8 P e<=bsz w b:=by
    obtain⟨v,hv,_⟩:=BW h hrc hβ (j:=off+n*A8 P e-1) (List.getElem?_eq_getElem (by omega))
    have:=AU hv;omega
   have B5:b<w.heap.size:=h.blt id b ob (EY id (by simp[Br,B8,An])) hβ
   have Ci:(execOp a.eval o).run P w=.ok (.value (.slice (some (if n=l then ⟨b,ob+off,none⟩ else ⟨b,ob+off+l*A8 P e,none⟩)) (u-l) (n-l))) w:=by
    unfold execOp;rw[ho];have MM:=Ha (P:=P) (w:=w) (isS:=false) hl Ho hb.1 hb.2;simp[Instr.sliceAt,Instr.sureAddr,run_underlying hu,Cz,MM,Cm Mk,Eb]
   refine⟨_,hk,B0 Ci (.inr ?_) EY⟩;by_cases hc:n=l
   ·rw[if_pos hc];refine⟨b,ob,ob+off,n-l,hβ,rfl,?_,by omega,⟨by rw[hc,Nat.sub_self];omega,.inl R5⟩,B5⟩
    by_cases h0:l*A8 P e=0
    ·rw[h0,Nat.add_zero];exact .inl rfl
    ·exact .inr ⟨by omega,by omega⟩
   ·rw[if_neg hc];refine⟨b,ob,ob+off+l*A8 P e,n-l,hβ,rfl,.inl (by omega),by omega,?_,B5⟩
    have:l*A8 P e+(n-l)*A8 P e=n*A8 P e:=by
     rw[←Nat.add_mul]
     congr 1
     omega
    exact⟨by omega,.inl R5⟩
  ·cases hk
 ·cases hk
end
open Go.RowKit
section
variable {R:Type} {r:R} {P:Program} {N:Nat} {w0:World} {X0:Gu} {Y:Nat->Prop} {β β':Bt} {s:St} {a:Act} {w w':World} {o:Oper} {A:Nat->Prop}
theorem Aaq (h:Cl N w0 X0 Y β s a w){c:Call}(ho:o.op=.call c)(hc:c.callee=.builtin .len){K:PV->Option R}
  (hk:(Aa c.args.toList fun x _=>Aa c.argTypes.toList fun t _=>Abi P t (Bz s.tm x) fun n=>K (.sc (.int .i64 n)))=some r):∃v,K v=some r∧Dz P a w o Y β s v [] []:=by
 obtain⟨x,xs,FC,hk⟩:=A7 hk;obtain⟨t,ts,MU,hk⟩:=A7 hk;have hx:=Cq h x;have El:c.args=(x::xs).toArray:=by rw[←FC]
 have Zz:c.argTypes=(t::ts).toArray:=by rw[←MU]
 have Ci:∀n:Nat,(Builtin.len_ c.argTypes o.type (c.args.map a.eval)).run P w=.ok (.int .i64 n) w->(execOp a.eval o).run P w=.ok (.value (.int .i64 n)) w:=by
  intro n hl;unfold execOp;rw[ho];simp only[resolve,hc,invoke,builtin,Sem.run_bind,Sem.run_pure,Result.andThen_ok,hl]
 unfold Abi at hk;split at hk
 ·rename_i hu;obtain⟨sb,A3c,hk⟩:=Dd hk;have Cz:=B3 h A3c;refine⟨_,hk,Ce (Ci _ ?_)⟩;simp[Builtin.len_,El,Zz,run_underlying hu,Cz,goInt]
 ·rename_i n e hu;refine⟨_,hk,Ce (Ci _ ?_)⟩;simp[Builtin.len_,El,Zz,run_underlying hu,goInt]
 ·rename_i e hu;split at hk
  ·rename_i id es off n e';rw[e'] at hx;obtain⟨_,hk⟩:=Al hk;refine⟨_,hk,Ce (Ci _ ?_)⟩;rcases hx with⟨_,_,rfl,ad,Cz⟩|⟨b,ob,y,cap,_,Cz,_⟩<;>simp[Builtin.len_,El,Zz,run_underlying hu,Cz,goInt]
  ·obtain⟨z,n,cc,hk,hp⟩:=Ew hk;refine⟨_,hk,Ce (Ci _ ?_)⟩;rcases Fp hp hx with⟨Cz,rfl,_⟩|⟨ad,cap,Cz,_⟩|⟨ad,cap,Cz,_,rfl,_⟩<;>simp[Builtin.len_,El,Zz,run_underlying hu,Cz,goInt]
 ·cases hk
theorem YV (h:Cl N w0 X0 Y β s a w){c:Call}(ho:o.op=.call c)(hc:c.callee=.builtin .cap){K:PV->Option R}
  (hk:(Aa c.args.toList fun x _=>Aa c.argTypes.toList fun t _=>Aba P t (Bz s.tm x) fun n=>K (.sc (.int .i64 n)))=some r):∃v,K v=some r∧Dz P a w o Y β s v [] []:=by
 obtain⟨x,xs,FC,hk⟩:=A7 hk;obtain⟨t,ts,MU,hk⟩:=A7 hk;have hx:=Cq h x;have El:c.args=(x::xs).toArray:=by rw[←FC]
 have Zz:c.argTypes=(t::ts).toArray:=by rw[←MU]
 have Ci:∀n:Nat,(Builtin.cap_ c.argTypes o.type (c.args.map a.eval)).run P w=.ok (.int .i64 n) w->(execOp a.eval o).run P w=.ok (.value (.int .i64 n)) w:=by
  intro n hl;unfold execOp;rw[ho];simp only[resolve,hc,invoke,builtin,Sem.run_bind,Sem.run_pure,Result.andThen_ok,hl]
 unfold Aba at hk;split at hk
 ·rename_i e hu;obtain⟨z,n,cc,hk,hp⟩:=Ew hk;obtain⟨hz,hk⟩:=Al hk;refine⟨_,hk,Ce (Ci _ ?_)⟩;rcases Fp hp hx with⟨Cz,rfl,_⟩|⟨ad,cap,Cz,AZ,_⟩|⟨ad,cap,Cz,AZ,_,_⟩
  ·simp[Builtin.cap_,El,Zz,run_underlying hu,Cz,goInt]
  ·rw[hz] at AZ;cases AZ
  ·rw[hz] at AZ;cases AZ
 ·cases hk
theorem Aaf (h:Cl N w0 X0 Y β s a w){c:Call}(ho:o.op=.call c)(hc:c.callee=.builtin .min){K:PV->Option R}
  (hk:(Aa c.args.toList fun x r=>Aa r fun y r'=>Ad r' (Aji (Bz s.tm x) (Bz s.tm y) K))=some r):∃v,K v=some r∧Dz P a w o Y β s v [] []:=by
 obtain⟨x,xs,FC,hk⟩:=A7 hk;obtain⟨y,ys,rfl,hk⟩:=A7 hk;obtain⟨rfl,hk⟩:=Dc hk;obtain⟨k,n,hx,hk⟩:=Db hk;obtain⟨m,hy,hk⟩:=D7 hk
 have El:c.args = #[x,y]:=by
  have:c.args=([x,y]:List Operand).toArray:=by rw[←FC]
  exact this
 refine⟨_,hk,Ce ?_⟩;unfold execOp;rw[ho];simp[resolve,hc,invoke,builtin,El,Builtin.min_,Builtin.min2,B3 h hx,B3 h hy]
theorem Aae (h:Cl N w0 X0 Y β s a w){c:Call}(ho:o.op=.call c)(hc:c.callee=.builtin .max){K:PV->Option R}
  (hk:(Aa c.args.toList fun x r=>Aa r fun y r'=>Ad r' (Ai7 (Bz s.tm x) (Bz s.tm y) K))=some r):∃v,K v=some r∧Dz P a w o Y β s v [] []:=by
 obtain⟨x,xs,FC,hk⟩:=A7 hk;obtain⟨y,ys,rfl,hk⟩:=A7 hk;obtain⟨rfl,hk⟩:=Dc hk;obtain⟨k,n,hx,hk⟩:=Db hk;obtain⟨m,hy,hk⟩:=D7 hk
 have El:c.args = #[x,y]:=by
  have:c.args=([x,y]:List Operand).toArray:=by rw[←FC]
  exact this
 refine⟨_,hk,Ce ?_⟩;unfold execOp;rw[ho];simp[resolve,hc,invoke,builtin,El,Builtin.max_,Builtin.max2,B3 h hx,B3 h hy]
theorem TS (h:Cl N w0 X0 Y β s a w){op:UnOp}{t:TypeId}{x:Operand}(ho:o.op=.unOp op t x){K:PV->Option R}(hk:unK op (Bz s.tm x) K=some r):
  ∃v,K v=some r∧Dz P a w o Y β s v [] []:=by
 unfold unK at hk;split at hk
 ·obtain⟨b,hb,hk⟩:=Di hk;refine⟨_,hk,Ce ?_⟩;unfold execOp;rw[ho];simp[Op.unary,B3 h hb]
 ·obtain⟨k,n,hb,hk⟩:=Db hk;refine⟨_,hk,Ce ?_⟩;unfold execOp;rw[ho];simp[Op.unary,Op.intArith,B3 h hb]
 ·obtain⟨k,n,hb,hk⟩:=Db hk;refine⟨_,hk,Ce ?_⟩;unfold execOp;rw[ho];simp[Op.unary,Op.intBits,B3 h hb,Auh]
 ·cases hk
theorem ZB {op:BinOp}{k:IntKind}{m n:Int}{t:TypeId}{x y:Operand}{K:PV->Option R}(hs1:op ≠ .shl)(Sd:op ≠ .shr)(hk:EC op k m n K=some r):
  ∃v,K (.sc v)=some r∧(do eqGuard op t x y (.int k m) (.int k n);binOp op t (.int k m) (.int k n)).run P w=.ok v w:=by
 cases op<;>first
  |exact absurd rfl hs1
  |exact absurd rfl Sd
  |(obtain⟨hb,hk⟩:=Al hk;have hb:=of_decide_eq_true hb;exact⟨_,hk,by simp[eqGuard,binOp,Op.intDiv,hb]⟩)
  |exact⟨_,hk,by simp[eqGuard,binOp,-BitVec.toNat_and,-BitVec.toNat_or,-BitVec.toNat_xor,-gt_iff_lt,-ge_iff_le]<;>rfl⟩
theorem Aac {op:BinOp}{m n:ByteArray}{t:TypeId}{x y:Operand}{K:PV->Option R}(hk:BD op m n K=some r):
  ∃v,K (.sc v)=some r∧(do eqGuard op t x y (.string m) (.string n);binOp op t (.string m) (.string n)).run P w=.ok v w:=by
 cases op<;>first
  |cases hk
  |(obtain⟨hb,hk⟩:=Al hk;have hb:=of_decide_eq_true hb;exact⟨_,hk,by
    have Gy:¬(((m.size+n.size:Nat):Int)>IntKind.i64.max):=by
     have:IntKind.i64.max=9223372036854775807:=rfl;rw[this];omega
    simp only[eqGuard,binOp,Op.stringOp,if_neg Gy];rfl⟩)
  |exact⟨_,hk,by simp only[eqGuard,binOp,Op.stringOp,ByteArray.toList_eq];rfl⟩
end
open Go.RowKit
section
variable {R:Type} {r:R} {P:Program} {N:Nat} {w0:World} {X0:Gu} {Y:Nat->Prop} {β β':Bt} {s:St} {a:Act} {w w':World} {o:Oper} {A:Nat->Prop}
theorem EE {t:TypeId}(hu:P.underlying t=some .bool)(x y:Bool):(Op.equal t (.bool x) (.bool y)).run P w=.ok (x==y) w:=by
 have h:∀d,(Op.equalIn (d+1) t (.bool x) (.bool y)).run P w=.ok (x==y) w:=fun d=>by simp[Op.equalIn,run_underlying hu]
 exact h 9999
theorem Q0 {t e:TypeId}(hu:P.underlying t=some (.slice e)) (x:Option Addr)(n c:Nat):(Op.equal t (.slice x n c) (.slice none 0 0)).run P w=.ok x.isNone w:=by
 have h:∀d,(Op.equalIn (d+1) t (.slice x n c) (.slice none 0 0)).run P w=.ok x.isNone w:=fun d=>by
  cases x<;>simp[Op.equalIn,run_underlying hu]
 exact h 9999
theorem Vu {t k e:TypeId}(hu:P.underlying t=some (.map k e)):(Op.equal t (.map none) (.map none)).run P w=.ok true w:=by
 have h:∀d,(Op.equalIn (d+1) t (.map none) (.map none)).run P w=.ok true w:=fun d=>by
  simp[Op.equalIn,run_underlying hu]
 exact h 9999
theorem Hg {t:TypeId}(d:Nat){v u:Value}(hv:(∃k m n,P.underlying t=some (.int k)∧v=.int k m∧u=.int k n)∨(∃m n,P.underlying t=some .bool∧v=.bool m∧u=.bool n)∨∃m n,P.underlying t=some .string∧v=.string m∧u=.string n) {b:Bool}
  (hb:∀k m n,v=.int k m->u=.int k n->b=(m==n)) (Gy:∀m n,v=.bool m->u=.bool n->b=(m==n)) (A01:∀m n,v=.string m->u=.string n->b=(m==n)):(Op.equalIn (d+1) t v u).run P w=.ok b w:=by
 rcases hv with⟨k,m,n,hu,rfl,rfl⟩|⟨m,n,hu,rfl,rfl⟩|⟨m,n,hu,rfl,rfl⟩
 ·rw[hb k m n rfl rfl];simp[Op.equalIn,run_underlying hu]
 ·rw[Gy m n rfl rfl];simp[Op.equalIn,run_underlying hu]
 ·rw[A01 m n rfl rfl];simp[Op.equalIn,run_underlying hu]
theorem N3 {t:TypeId}{dsc:TypeDesc}(hu:P.underlying t=some dsc)(hd:B4 P t=false){xs:Array Value}{i:Nat}{v:Value}(hv:xs[i]?=some v):(part t xs i).run P w=.ok v w:=by
 simp only[part,Sem.run_bind,Ku hu,hd,Result.andThen_ok];simp[hv]
theorem IE (k:IntKind)(n:Int)(K:Int->Option R):Ak k (.sc (.int k n)) K=K n:=by simp[Ak]
theorem QY (d : Nat) : ∀ (fs : List Field) (i : Nat) (xs ys : Array Value) (ps qs : List PV) (K : Bool -> Option R), OZ P fs i = true -> Ji (fs.map (fty P)) ps qs K = some r ->
    (∀ (j : Nat) p, ps[j]? = some p -> ∃ v, xs[i + j]? = some v ∧ Bw w A β p v) -> (∀ (j : Nat) p, qs[j]? = some p -> ∃ v, ys[i + j]? = some v ∧ Bw w A β p v) ->
    ∃ b, K b = some r ∧ (forIn fs ((none, ()) : Option Bool × Unit) fun (f : Field) (_ : Option Bool × Unit) =>
            if f.name = "_" then pure (ForInStep.yield ((none, ()) : Option Bool × Unit))
            else do
              let x ← part f.type xs f.offset
              let y ← part f.type ys f.offset
              let e ← Op.equalIn (d + 1) f.type x y
              if e = false then pure (ForInStep.done ((some false, ()) : Option Bool × Unit)) else pure (ForInStep.yield ((none, ()) : Option Bool × Unit)) : Sem (Option Bool × Unit)).run P w = .ok (if b then (none, ()) else (some false, ())) w
  | [], i, xs, ys, ps, qs, K, _, hk, _, _ => by
    cases ps with
    | nil => cases qs with
      | nil => exact⟨true, hk, by simp⟩
      | cons q qs => cases hk
    | cons p ps => cases hk
  | f :: fs, i, xs, ys, ps, qs, K, FU, hk, hp, hq => by
    simp only[OZ, Bool.and_eq_true] at FU
    obtain⟨⟨⟨Mp, Acv⟩, hty⟩, Sh⟩ := FU
    have Mp := Nat.eq_of_beq_eq_true Mp
    have AV : f.name ≠ "_" := by simpa using Acv
    cases ps with
    | nil =>
      simp only[List.map_cons] at hk
      cases Apk : fty P f <;> rw[Apk] at hk <;> cases hk
    | cons p ps =>
      cases qs with
      | nil =>
        simp only[List.map_cons] at hk
        cases Apk : fty P f <;> rw[Apk] at hk <;> cases hk
      | cons q qs =>
        obtain⟨v, hv, Wn⟩ := hp 0 p rfl
        obtain⟨u, hu, hqu⟩ := hq 0 q rfl
        rw[Nat.add_zero] at hv hu
        have main : ∃ b0 dsc, P.underlying f.type = some dsc ∧ B4 P f.type = false ∧ (Op.equalIn (d + 1) f.type v u).run P w = .ok b0 w ∧ Ji (fs.map (fty P)) ps qs (fun r => K (b0 && r)) = some r := by
          simp only[List.map_cons] at hk
          unfold fty at hk
          split at hk
          · rename_i k H6
            obtain⟨m, IG, Dm⟩ := D7 (show Ak k p _ = some r from hk)
            obtain⟨n, ES, D8⟩ := D7 Dm
            subst IG ES
            have Lx : v = .int k m := Au.val (w := w) (A := A) Wn
            have Ho : u = .int k n := Au.val (w := w) (A := A) hqu
            subst Lx Ho
            refine⟨m == n, _, H6, by simp[B4, H6], Hg d (.inl ⟨k, m, n, H6, rfl, rfl⟩) ?_ ?_ ?_, D8⟩
            · intro k' m' n' h1 h2; injection h1 with _ h1; injection h2 with _ h2; rw[h1, h2]
            · intro m' n' h1; cases h1
            · intro m' n' h1; cases h1
          · rename_i H6
            obtain⟨m, IG, Dm⟩ := Di (show Ao p _ = some r from hk)
            obtain⟨n, ES, D8⟩ := Di Dm
            subst IG ES
            have Lx : v = .bool m := Au.val (w := w) (A := A) Wn
            have Ho : u = .bool n := Au.val (w := w) (A := A) hqu
            subst Lx Ho
            refine⟨m == n, _, H6, by simp[B4, H6], Hg d (.inr (.inl ⟨m, n, H6, rfl, rfl⟩)) ?_ ?_ ?_, D8⟩
            · intro k' m' n' h1; cases h1
            · intro m' n' h1 h2; injection h1 with h1; injection h2 with h2; rw[h1, h2]
            · intro m' n' h1; cases h1
          · rename_i H6
            obtain⟨m, IG, Dm⟩ := Dd (show Az p _ = some r from hk)
            obtain⟨n, ES, D8⟩ := Dd Dm
            subst IG ES
            have Lx : v = .string m := Au.val (w := w) (A := A) Wn
            have Ho : u = .string n := Au.val (w := w) (A := A) hqu
            subst Lx Ho
            refine⟨m == n, _, H6, by simp[B4, H6], Hg d (.inr (.inr ⟨m, n, H6, rfl, rfl⟩)) ?_ ?_ ?_, D8⟩
            · intro k' m' n' h1; cases h1
            · intro m' n' h1; cases h1
            · intro m' n' h1 h2; injection h1 with h1; injection h2 with h2; rw[h1, h2]
          · cases hk
        obtain⟨b0, dsc, H6, Fc, he, hk⟩ := main
        obtain⟨b, hkb, Ci⟩ := QY d fs (i + 1) xs ys ps qs _ Sh hk (fun j p' hj => by have := hp (j + 1) p' hj; rwa [Nat.add_assoc, Nat.add_comm 1 j]) (fun j p' hj => by have := hq (j + 1) p' hj; rwa [Nat.add_assoc, Nat.add_comm 1 j])
        refine⟨b0 && b, hkb, ?_⟩
        have hpx : (part f.type xs f.offset).run P w = .ok v w := N3 H6 Fc (by rw[Mp]; exact hv)
        have hpy : (part f.type ys f.offset).run P w = .ok u w := N3 H6 Fc (by rw[Mp]; exact hu)
        cases b0
        · simp[List.forIn_cons, AV, hpx, hpy, he]
        · simp only[Bool.true_and]
          rw[← Ci]
          simp[List.forIn_cons, AV, hpx, hpy, he]
theorem Zx (d:Nat){t:TypeId}{fs:Array Field}(hu:P.underlying t=some (.struct fs)) (Fh:P.stoodInHeld t=false)(FU:OZ P fs.toList 0=true){xs ys:List PV}{vx vy:List Value}
  (hvx:Bc (Bw w A β) xs vx) (hvy:Bc (Bw w A β) ys vy) {K:Bool->Option R}(hk:Ji (fs.toList.map (fty P)) xs ys K=some r):
  ∃b,K b=some r∧(Op.equalIn (d+2) t (.agg ⟨vx⟩) (.agg ⟨vy⟩)).run P w=.ok b w:=by
 obtain⟨b,hkb,Ci⟩:=QY (P:=P) (w:=w) (A:=A) (β:=β) d fs.toList 0 ⟨vx⟩ ⟨vy⟩ xs ys K FU hk (fun j p hj=>by
   obtain⟨v,hv,hc⟩:=hvx.get hj;exact⟨v,by simpa using hv,hc⟩) (fun j p hj=>by
   obtain⟨v,hv,hc⟩:=hvy.get hj;exact⟨v,by simpa using hv,hc⟩)
 refine⟨b,hkb,?_⟩;rw[Array.forIn_toList] at Ci;rw[Op.equalIn];simp[run_underlying hu,Fh];rw[Ci];cases b<;>simp
theorem Uh:∀(ts1:List CT){ts2:List CT}{ps qs:List PV}{K:Bool->Option R},Ji (ts1++ts2) ps qs K=some r ->
  Ji ts1 (ps.take ts1.length) (qs.take ts1.length) (fun b=>Ji ts2 (ps.drop ts1.length) (qs.drop ts1.length) fun r'=>K (b&&r'))=some r
 |[],ts2,ps,qs,K,h=>by
  simp only[List.length_nil,List.take_zero,List.drop_zero,Ji,Bool.true_and];exact h
 |t::ts1,ts2,ps,qs,K,h=>by
  rw[List.cons_append] at h;cases ps with
  |nil=>cases t<;>cases h
  |cons p ps=>
   cases qs with
   |nil=>cases t<;>cases h
   |cons q qs=>
    simp only[List.length_cons,List.take_succ_cons,List.drop_succ_cons];cases t with
    |int k=>
     obtain⟨m,IG,h1⟩:=D7 (show Ak k p _=some r from h)
     obtain⟨n,ES,h2⟩:=D7 h1;subst IG ES;have:=Uh ts1 h2;simp only[←Bool.and_assoc] at this;exact (IE _ _ _).trans ((IE _ _ _).trans this)
    |bool=>
     obtain⟨m,IG,h1⟩:=Di (show Ao p _=some r from h)
     obtain⟨n,ES,h2⟩:=Di h1;subst IG ES;have:=Uh ts1 h2;simp only[←Bool.and_assoc] at this;exact this
    |str=>
     obtain⟨m,IG,h1⟩:=Dd (show Az p _=some r from h)
     obtain⟨n,ES,h2⟩:=Dd h1;subst IG ES;have:=Uh ts1 h2;simp only[←Bool.and_assoc] at this;exact this
    |sl es=>cases h
    |any=>cases h
theorem NA:∀(ts:List CT){ps qs:List PV}{K:Bool->Option R},Ji ts ps qs K=some r->ps.length=ts.length∧qs.length=ts.length
 |[],ps,qs,K,h=>by
  cases ps with
  |nil=>cases qs with
   |nil=>exact⟨rfl,rfl⟩
   |cons q qs=>cases h
  |cons p ps=>cases h
 |t::ts,ps,qs,K,h=>by
  cases ps with
  |nil=>cases t<;>cases h
  |cons p ps=>
   cases qs with
   |nil=>cases t<;>cases h
   |cons q qs=>
    have go:∃K',Ji ts ps qs K'=some r:=by
     cases t with
     |int k=>
      obtain⟨m,IG,h1⟩:=D7 (show Ak k p _=some r from h)
      obtain⟨n,ES,h2⟩:=D7 h1;exact⟨_,h2⟩
     |bool=>
      obtain⟨m,IG,h1⟩:=Di (show Ao p _=some r from h)
      obtain⟨n,ES,h2⟩:=Di h1;exact⟨_,h2⟩
     |str=>
      obtain⟨m,IG,h1⟩:=Dd (show Az p _=some r from h)
      obtain⟨n,ES,h2⟩:=Dd h1;exact⟨_,h2⟩
     |sl es=>cases h
     |any=>cases h
    obtain⟨K',h'⟩:=go;have:=NA ts h';exact⟨by simp[this.1],by simp[this.2]⟩
theorem RD {t:TypeId}{dsc:TypeDesc}(hu:P.underlying t=some dsc)(hd:B4 P t=true)(hi:(P.info? t).isSome=true) (xs:Array Value)(i:Nat):(part t xs i).run P w=.ok (.agg (xs.extract i (i+A8 P t))) w:=by
 simp only[part,Sem.run_bind,Ku hu,hd,Result.andThen_ok,if_true,Cm hi];rfl
theorem IZ {xs:Array Value}{i n:Nat}{ps:List PV}(hn:n<=ps.length)(hp:∀(j:Nat) p,ps[j]?=some p->∃v,xs[i+j]?=some v∧Bw w A β p v):Bc (Bw w A β) (ps.take n) (xs.extract i (i+n)).toList:=by
 rcases Nat.eq_zero_or_pos n with h0|h0
 ·subst h0;simp[Bc]
 have hl:n-1<ps.length:=by omega
 obtain⟨v,hv,_⟩:=hp (n-1) _ (List.getElem?_eq_getElem hl);have Ln:=(Array.getElem?_eq_some_iff.1 hv).1;refine Bc.of_at (by simp;omega) fun j a b ha hb=>?_
 rw[List.getElem?_take] at ha;split at ha
 ·rename_i hj;obtain⟨v,hv,hc⟩:=hp j a ha;rw[Array.getElem?_toList,Array.getElem?_extract] at hb;split at hb
  ·rw[hv] at hb;cases hb;exact hc
  ·cases hb
 ·cases ha
theorem Yg {f:Field}{gs:Array Field}(hu:P.underlying f.type=some (.struct gs)):NI P f=gs.toList.map (fty P):=by unfold NI;rw[hu]
theorem VM {f:Field}(h:∀gs,P.underlying f.type≠some (.struct gs)):NI P f=[fty P f]:=by
 unfold NI;split
 ·rename_i gs hu;exact absurd hu (h gs)
 ·rfl
theorem XH (d : Nat) : ∀ (fs : List Field) (i : Nat) (xs ys : Array Value) (ps qs : List PV) (K : Bool -> Option R), Kz P fs i = true -> Ji (Sa P fs) ps qs K = some r ->
    (∀ (j : Nat) p, ps[j]? = some p -> ∃ v, xs[i + j]? = some v ∧ Bw w A β p v) -> (∀ (j : Nat) p, qs[j]? = some p -> ∃ v, ys[i + j]? = some v ∧ Bw w A β p v) ->
    ∃ b, K b = some r ∧ (forIn fs ((none, ()) : Option Bool × Unit) fun (f : Field) (_ : Option Bool × Unit) =>
            if f.name = "_" then pure (ForInStep.yield ((none, ()) : Option Bool × Unit))
            else do
              let x ← part f.type xs f.offset
              let y ← part f.type ys f.offset
              let e ← Op.equalIn (d + 2) f.type x y
              if e = false then pure (ForInStep.done ((some false, ()) : Option Bool × Unit)) else pure (ForInStep.yield ((none, ()) : Option Bool × Unit)) : Sem (Option Bool × Unit)).run P w = .ok (if b then (none, ()) else (some false, ())) w
  | [], i, xs, ys, ps, qs, K, _, hk, _, _ => by
    cases ps with
    | nil => cases qs with
      | nil => exact⟨true, hk, by simp⟩
      | cons q qs => cases hk
    | cons p ps => cases hk
  | f :: fs, i, xs, ys, ps, qs, K, FU, hk, hp, hq => by
    simp only[Kz, Bool.and_eq_true] at FU
    obtain⟨⟨Mp, Acv⟩, hty⟩ := FU
    have Mp := Nat.eq_of_beq_eq_true Mp
    have AV : f.name ≠ "_" := by simpa using Acv
    have main : ∃ b0 v u n, (part f.type xs f.offset).run P w = .ok v w ∧ (part f.type ys f.offset).run P w = .ok u w ∧ (Op.equalIn (d + 2) f.type v u).run P w = .ok b0 w ∧ Kz P fs (i + n) = true ∧ Ji (Sa P fs) (ps.drop n) (qs.drop n) (fun r' => K (b0 && r')) = some r := by
      have hk := Uh (NI P f) (show Ji (NI P f ++ Sa P fs) ps qs K = some r from hk)
      have Dj := NA _ hk
      rw[List.length_take, List.length_take] at Dj
      have plain : (∀ gs, P.underlying f.type ≠ some (.struct gs)) -> Kz P fs (i + 1) = true -> (match P.underlying f.type with | some (.int _) => true | some .bool => true | some .string => true | _ => false) = true ->
          ∃ b0 v u n, (part f.type xs f.offset).run P w = .ok v w ∧ (part f.type ys f.offset).run P w = .ok u w ∧ (Op.equalIn (d + 2) f.type v u).run P w = .ok b0 w ∧ Kz P fs (i + n) = true ∧ Ji (Sa P fs) (ps.drop n) (qs.drop n) (fun r' => K (b0 && r')) = some r := by
        intro hs Amx Tn
        rw[VM hs] at hk Dj
        simp only[List.length_singleton] at hk Dj
        obtain⟨p, ps, rfl⟩ : ∃ p ps', ps = p :: ps' := by
          cases ps with
          | nil => simp at Dj
          | cons p ps => exact⟨p, ps, rfl⟩
        obtain⟨q, qs, rfl⟩ : ∃ q qs', qs = q :: qs' := by
          cases qs with
          | nil => simp at Dj
          | cons q qs => exact⟨q, qs, rfl⟩
        obtain⟨v, hv, Wn⟩ := hp 0 p rfl
        obtain⟨u, hu, hqu⟩ := hq 0 q rfl
        rw[Nat.add_zero] at hv hu
        simp only[List.take_succ_cons, List.take_zero, List.drop_succ_cons, List.drop_zero] at hk ⊢
        have one : ∃ b0 dsc, P.underlying f.type = some dsc ∧ B4 P f.type = false ∧ (Op.equalIn (d + 2) f.type v u).run P w = .ok b0 w ∧ Ji (Sa P fs) ps qs (fun r' => K (b0 && r')) = some r := by
          unfold fty at hk
          split at hk
          · rename_i k H6
            obtain⟨m, IG, Dm⟩ := D7 (show Ak k p _ = some r from hk)
            obtain⟨n, ES, D8⟩ := D7 Dm
            subst IG ES
            have Lx : v = .int k m := Au.val (w := w) (A := A) Wn
            have Ho : u = .int k n := Au.val (w := w) (A := A) hqu
            subst Lx Ho
            have e : ∀ b : Bool, (b && true) = b := Bool.and_true
            simp only[Ji, e] at D8
            refine⟨m == n, _, H6, by simp[B4, H6], Hg (d + 1) (.inl ⟨k, m, n, H6, rfl, rfl⟩) ?_ ?_ ?_, D8⟩
            · intro k' m' n' h1 h2; injection h1 with _ h1; injection h2 with _ h2; rw[h1, h2]
            · intro m' n' h1; cases h1
            · intro m' n' h1; cases h1
          · rename_i H6
            obtain⟨m, IG, Dm⟩ := Di (show Ao p _ = some r from hk)
            obtain⟨n, ES, D8⟩ := Di Dm
            subst IG ES
            have Lx : v = .bool m := Au.val (w := w) (A := A) Wn
            have Ho : u = .bool n := Au.val (w := w) (A := A) hqu
            subst Lx Ho
            have e : ∀ b : Bool, (b && true) = b := Bool.and_true
            simp only[Ji, e] at D8
            refine⟨m == n, _, H6, by simp[B4, H6], Hg (d + 1) (.inr (.inl ⟨m, n, H6, rfl, rfl⟩)) ?_ ?_ ?_, D8⟩
            · intro k' m' n' h1; cases h1
            · intro m' n' h1 h2; injection h1 with h1; injection h2 with h2; rw[h1, h2]
            · intro m' n' h1; cases h1
          · rename_i H6
            obtain⟨m, IG, Dm⟩ := Dd (show Az p _ = some r from hk)
            obtain⟨n, ES, D8⟩ := Dd Dm
            subst IG ES
            have Lx : v = .string m := Au.val (w := w) (A := A) Wn
            have Ho : u = .string n := Au.val (w := w) (A := A) hqu
            subst Lx Ho
            have e : ∀ b : Bool, (b && true) = b := Bool.and_true
            simp only[Ji, e] at D8
            refine⟨m == n, _, H6, by simp[B4, H6], Hg (d + 1) (.inr (.inr ⟨m, n, H6, rfl, rfl⟩)) ?_ ?_ ?_, D8⟩
            · intro k' m' n' h1; cases h1
            · intro m' n' h1; cases h1
            · intro m' n' h1 h2; injection h1 with h1; injection h2 with h2; rw[h1, h2]
          · cases hk
        obtain⟨b0, dsc, H6, Fc, he, hk⟩ := one
        exact⟨b0, v, u, 1, N3 H6 Fc (by rw[Mp]; exact hv), N3 H6 Fc (by rw[Mp]; exact hu), he, Amx, by simpa using hk⟩
      split at hty
      · rename_i k H6
        exact plain (fun gs e => by rw[H6] at e; cases e) hty (by rw[H6])
      · rename_i H6
        exact plain (fun gs e => by rw[H6] at e; cases e) hty (by rw[H6])
      · rename_i H6
        exact plain (fun gs e => by rw[H6] at e; cases e) hty (by rw[H6])
      · rename_i gs H6
        simp only[Bool.and_eq_true, Bool.not_eq_true'] at hty
        obtain⟨⟨⟨⟨hfp, Fh⟩, hi⟩, Ln⟩, Sh⟩ := hty
        have Ln := Nat.eq_of_beq_eq_true Ln
        have Jg : (NI P f).length = gs.size := by rw[Yg H6, List.length_map, Array.length_toList]
        rw[Jg] at hk Dj
        rw[Yg H6] at hk
        have hx := IZ (n := gs.size) (by omega) hp
        have hy := IZ (n := gs.size) (by omega) hq
        obtain⟨b0, hkb, he⟩ := Zx d H6 Fh hfp hx hy hk
        have ha : B4 P f.type = true := by simp[B4, H6]
        exact⟨b0, _, _, gs.size, by rw[RD H6 ha hi, Mp, Ln], by rw[RD H6 ha hi, Mp, Ln], he, Sh, hkb⟩
      · cases hty
    obtain⟨b0, v, u, n, hpx, hpy, he, Amx, hk⟩ := main
    obtain⟨b, hkb, Ci⟩ := XH d fs (i + n) xs ys (ps.drop n) (qs.drop n) _ Amx hk (fun j p' hj => by rw[List.getElem?_drop] at hj; have := hp (n + j) p' hj; rwa [← Nat.add_assoc] at this) (fun j p' hj => by rw[List.getElem?_drop] at hj; have := hq (n + j) p' hj; rwa [← Nat.add_assoc] at this)
    refine⟨b0 && b, hkb, ?_⟩
    cases b0
    · simp[List.forIn_cons, AV, hpx, hpy, he]
    · simp only[Bool.true_and]
      rw[← Ci]
      simp[List.forIn_cons, AV, hpx, hpy, he]
theorem CG (d:Nat){t:TypeId}{fs:Array Field}(hu:P.underlying t=some (.struct fs)) (Fh:P.stoodInHeld t=false)(FU:Kz P fs.toList 0=true){xs ys:List PV}{vx vy:List Value}
  (hvx:Bc (Bw w A β) xs vx) (hvy:Bc (Bw w A β) ys vy) {K:Bool->Option R}(hk:Ji (Sa P fs.toList) xs ys K=some r):
  ∃b,K b=some r∧(Op.equalIn (d+3) t (.agg ⟨vx⟩) (.agg ⟨vy⟩)).run P w=.ok b w:=by
 obtain⟨b,hkb,Ci⟩:=XH (P:=P) (w:=w) (A:=A) (β:=β) d fs.toList 0 ⟨vx⟩ ⟨vy⟩ xs ys K FU hk (fun j p hj=>by
   obtain⟨v,hv,hc⟩:=hvx.get hj;exact⟨v,by simpa using hv,hc⟩) (fun j p hj=>by
   obtain⟨v,hv,hc⟩:=hvy.get hj;exact⟨v,by simpa using hv,hc⟩)
 refine⟨b,hkb,?_⟩;rw[Array.forIn_toList] at Ci;rw[Op.equalIn];simp[run_underlying hu,Fh];rw[Ci];cases b<;>simp
theorem JD (h:Cl N w0 X0 Y β s a w){t:TypeId}{fs:Array Field}{x y:Operand}{op:BinOp}(hop:op=.eql∨op=.neq)(hu:P.underlying t=some (.struct fs)) (FU:LV P t fs=true){xs ys:List PV}
  (hx:Bz s.tm x=.agg xs)(hy:Bz s.tm y=.agg ys){K:Bool->Option R}(hk:Ji (Sa P fs.toList) xs ys K=some r):
  ∃b,K b=some r∧(do eqGuard op t x y (a.eval x) (a.eval y);binOp op t (a.eval x) (a.eval y)).run P w=.ok (.bool (if op=.eql then b else !b)) w:=by
 have hxv:=Cq h x;have XY:=Cq h y;rw[hx] at hxv;rw[hy] at XY;obtain⟨vx,Cz,hvx⟩:=hxv;obtain⟨vy,hay,hvy⟩:=XY;simp only[LV,Bool.and_eq_true,Bool.not_eq_true'] at FU;obtain⟨⟨FU,Fh⟩,heg⟩:=FU;obtain⟨b,hkb,heq⟩:=CG 9997 hu Fh FU hvx hvy hk;have heq:(Op.equal t (.agg ⟨vx⟩) (.agg ⟨vy⟩)).run P w=.ok b w:=heq;refine⟨b,hkb,?_⟩;rw[Cz,hay];rcases hop with rfl|rfl
 ·simp[eqGuard,binOp,heq,heg]
 ·simp[eqGuard,binOp,heq,heg]
theorem OX (h:Cl N w0 X0 Y β s a w){op:BinOp}{t ty:TypeId}{x y:Operand}(ho:o.op=.binOp op t x y ty){K:PV->Option R}
  (hk:Rj P op t (Bz s.tm x) (Bz s.tm y) K=some r):∃v,K v=some r∧Dz P a w o Y β s v [] []:=by
 have Ci:∀v,(do eqGuard op t x y (a.eval x) (a.eval y);binOp op t (a.eval x) (a.eval y)).run P w=.ok v w->(execOp a.eval o).run P w=.ok (.value v) w:=by
  intro v hv;unfold execOp;rw[ho];simp only[Sem.run_bind] at hv ⊢;rw[hv];rfl
 unfold Rj at hk;split at hk
 ·rename_i fs hu;split at hk
  ·obtain⟨FU,hk⟩:=Al hk;obtain⟨xs,hx,hk⟩:=Gb hk;obtain⟨ys,hy,hk⟩:=Gb hk;obtain⟨b,hk,hr⟩:=JD h (.inl rfl) hu FU hx hy hk;exact⟨_,hk,Ce (Ci _ (by rw[hr];rfl))⟩
  ·obtain⟨FU,hk⟩:=Al hk;obtain⟨xs,hx,hk⟩:=Gb hk;obtain⟨ys,hy,hk⟩:=Gb hk;obtain⟨b,hk,hr⟩:=JD h (.inr rfl) hu FU hx hy hk;exact⟨_,hk,Ce (Ci _ (by rw[hr];rfl))⟩
  ·cases hk
 ·unfold Acx at hk;split at hk
  ·rename_i k hu;split at hk
   ·obtain⟨m,hx,hk⟩:=D7 hk;obtain⟨k2,n,hy,hk⟩:=Db hk;obtain⟨hb,hk⟩:=Al hk;have hb:=of_decide_eq_true hb;refine⟨_,hk,Ce (Ci _ ?_)⟩;have:¬n<0:=by omega
    simp[eqGuard,binOp,Op.shift,B3 h hx,B3 h hy,this]
   ·obtain⟨m,hx,hk⟩:=D7 hk;obtain⟨k2,n,hy,hk⟩:=Db hk;obtain⟨hb,hk⟩:=Al hk;have hb:=of_decide_eq_true hb;refine⟨_,hk,Ce (Ci _ ?_)⟩;have:¬n<0:=by omega
    simp[eqGuard,binOp,Op.shift,B3 h hx,B3 h hy,this]
   ·rename_i hs1 Sd;obtain⟨m,hx,hk⟩:=D7 hk;obtain⟨n,hy,hk⟩:=D7 hk;obtain⟨v,hk,hr⟩:=ZB (P:=P) (w:=w) (t:=t) (x:=x) (y:=y) hs1 Sd hk;exact⟨_,hk,Ce (Ci _ (by rw[B3 h hx,B3 h hy];exact hr))⟩
  ·rename_i hu;obtain⟨m,hx,hk⟩:=Dd hk;obtain⟨n,hy,hk⟩:=Dd hk;obtain⟨v,hk,hr⟩:=Aac (P:=P) (w:=w) (t:=t) (x:=x) (y:=y) hk;exact⟨_,hk,Ce (Ci _ (by rw[B3 h hx,B3 h hy];exact hr))⟩
  ·rename_i hu;split at hk
   ·obtain⟨m,hx,hk⟩:=Di hk;obtain⟨n,hy,hk⟩:=Di hk;refine⟨_,hk,Ce (Ci _ ?_)⟩;simp[eqGuard,binOp,B3 h hx,B3 h hy,EE hu]
   ·obtain⟨m,hx,hk⟩:=Di hk;obtain⟨n,hy,hk⟩:=Di hk;refine⟨_,hk,Ce (Ci _ ?_)⟩;simp[eqGuard,binOp,B3 h hx,B3 h hy,EE hu]
   ·cases hk
  ·rename_i e hu;have hx:=Cq h x
   have nilQ:∀{e:Bool} {K':PV->Option R},CS e (Bz s.tm x) K'=some r->∃q ad n c,K' q=some r∧a.eval x=.slice ad n c∧(q=.sc (.bool (if ad.isNone then e else !e))∨q=.ub):=by
    intro e K' hq;unfold CS at hq;split at hq
    ·rename_i e';exact⟨_,none,0,0,hq,B3 h e',.inl rfl⟩
    ·rename_i z es n c e';rcases Fp (.inl e') hx with⟨Cz,rfl,_⟩|⟨ad,cap,Cz,rfl,_⟩|⟨ad,cap,Cz,rfl,rfl,_⟩
     ·rcases Kl hq with⟨_,hq⟩|⟨_,hq⟩
      ·exact⟨_,none,0,0,hq,Cz,.inl rfl⟩
      ·rcases Kl hq with⟨hb,_⟩|⟨_,hq⟩
       ·exact absurd (of_decide_eq_true hb) (by omega)
       ·exact⟨_,none,0,0,hq,Cz,.inr rfl⟩
     ·rcases Kl hq with⟨hz,_⟩|⟨_,hq⟩
      ·cases hz
      ·rcases Kl hq with⟨_,hq⟩|⟨_,hq⟩
       ·exact⟨_,some ad,n,cap,hq,Cz,.inl rfl⟩
       ·exact⟨_,some ad,n,cap,hq,Cz,.inr rfl⟩
     ·rcases Kl hq with⟨hz,_⟩|⟨_,hq⟩
      ·cases hz
      ·rcases Kl hq with⟨hb,_⟩|⟨_,hq⟩
       ·exact absurd (of_decide_eq_true hb) (by omega)
       ·exact⟨_,some ad,0,cap,hq,Cz,.inr rfl⟩
    ·rename_i id es off n e';rw[e'] at hx;rcases hx with⟨_,_,rfl,ad,Cz⟩|⟨b,ob,y',cap,_,Cz,_⟩
     ·rcases Kl hq with⟨hb,_⟩|⟨_,hq⟩
      ·exact absurd (of_decide_eq_true hb) (by omega)
      ·exact⟨_,ad,0,0,hq,Cz,.inr rfl⟩
     ·rcases Kl hq with⟨_,hq⟩|⟨_,hq⟩
      ·exact⟨_,_,n,cap,hq,Cz,.inl rfl⟩
      ·exact⟨_,_,n,cap,hq,Cz,.inr rfl⟩
    ·cases hq
   split at hk
   ·rename_i hy;obtain⟨q,ad,n,c,hk,Cz,hb⟩:=nilQ hk;rcases hb with rfl|rfl
    ·refine⟨_,hk,Ce (Ci _ ?_)⟩;cases ad<;>simp[eqGuard,binOp,Cz,B3 h hy,Q0 hu]
    ·refine⟨_,hk,B0 (val:=.bool ad.isNone) (Ci _ ?_) (Au.ub _) (by intro i hi;cases hi)⟩
     simp[eqGuard,binOp,Cz,B3 h hy,Q0 hu]
   ·rename_i hy;obtain⟨q,ad,n,c,hk,Cz,hb⟩:=nilQ hk;rcases hb with rfl|rfl
    ·refine⟨_,hk,Ce (Ci _ ?_)⟩;cases ad<;>simp[eqGuard,binOp,Cz,B3 h hy,Q0 hu]
    ·refine⟨_,hk,B0 (val:=.bool !ad.isNone) (Ci _ ?_) (Au.ub _) (by intro i hi;cases hi)⟩
     simp[eqGuard,binOp,Cz,B3 h hy,Q0 hu]
   ·cases hk
  ·rename_i kt vt hu;split at hk
   ·rename_i hx hy;refine⟨_,hk,Ce (Ci _ ?_)⟩;simp[eqGuard,binOp,B3 h hx,B3 h hy,Vu hu]
   ·rename_i hx hy;refine⟨_,hk,Ce (Ci _ ?_)⟩;simp[eqGuard,binOp,B3 h hx,B3 h hy,Vu hu]
   ·cases hk
  ·cases hk
end
open Go.RowKit
section
variable {R:Type} {r:R} {P:Program} {N:Nat} {w0:World} {X0:Gu} {Y:Nat->Prop} {β β':Bt} {s:St} {a:Act} {w w':World} {o:Oper} {A:Nat->Prop}
theorem Yq:∀{c:List PV}{ns:List Int},Ra c=some ns->c=ns.map (fun n=>.sc (.int .i32 n))
 |[],ns,h=>by simp[Ra] at h;subst h;rfl
 |p::c,ns,h=>by
  unfold Ra at h;split at h
  ·rename_i e;cases e
  ·rename_i n r e;cases e;cases hr:Ra c with
   |none=>rw[hr] at h;cases h
   |some l'=>
    rw[hr] at h;simp at h;subst h;rw[Yq hr];rfl
  ·cases h
theorem Yr:∀{c:List PV}{l:List UInt8},Ix c=some l->∃ns:List Int,c=ns.map (fun n=>.sc (.int .u8 n))∧l=ns.map fun n=>n.toNat.toUInt8
 |[],l,h=>⟨[],rfl,by simp[Ix] at h;subst h;rfl⟩
 |p::c,l,h=>by
  unfold Ix at h;split at h
  ·rename_i e;cases e
  ·rename_i n r e;cases e;cases hr:Ix c with
   |none=>rw[hr] at h;cases h
   |some l'=>
    rw[hr] at h;simp at h;obtain⟨ns,rfl,rfl⟩:=Yr hr;exact⟨n::ns,rfl,h.symm⟩
  ·cases h
theorem Ox:∀(ns:List Int)(b:ByteArray),ns.foldl (fun r n=>r.push (UInt8.ofNat n.toNat)) b=⟨b.data++(ns.map fun n=>n.toNat.toUInt8).toArray⟩
 |[],b=>by simp
 |n::ns,b=>by
  simp only[List.foldl_cons];rw[Ox ns];simp[ByteArray.push]
theorem DZ (h:Cl N w0 X0 Y β s a w){es:Nat}{x:Operand}{K:Nat->List PV->Option R}(hk:OY (Hq s.hp) es (Bz s.tm x) K=some r):
  ∃n c,K n c=some r∧(((∃ad,a.eval x=.slice ad 0 0)∧n=0∧c=[])∨∃ad cap,a.eval x=.slice (some ad) n cap∧n<=cap∧(c=[]∨ad.block<w.heap.size)∧RY w (Cw s.hp β Y) ad c):=by
 have hx:=Cq h x;have EY:=Eh h x;unfold OY at hk;split at hk
 ·rename_i id es' off n e;rw[e] at hx EY;cases hb:Nat.beq es' es
  ·rw[hb] at hk;cases hk
  ·rw[hb] at hk;obtain⟨c,hc,hk⟩:=B7 (show Do _ _=some r from hk)
   obtain⟨hl,hk⟩:=Al hk;have hl:=of_decide_eq_true hl;obtain⟨f,Abc⟩:=LO hc;refine⟨_,_,hk,?_⟩;rcases hx with⟨_,rfl,rfl,ad,Cz⟩|⟨b,ob,y,cap,hβ,Cz,hy,hn,_,B5⟩
   ·exact .inl ⟨⟨ad,Cz⟩,rfl,by simp⟩
   ·refine .inr ⟨_,cap,Cz,hn,.inr B5,fun j p hj=>?_⟩
    have Ads:0<n*es:=by
     rcases Nat.eq_zero_or_pos (n*es) with h0|h0
     ·rw[h0] at hj;simp at hj
     ·exact h0
    have V8:n≠0:=by rintro rfl;simp at Ads
    have hy:y=ob+off:=by rcases hy with hy|⟨h0,_⟩<;>omega
    subst hy;rw[List.getElem?_take] at hj;split at hj
    ·rw[List.getElem?_drop] at hj;rcases h.box id _ Abc with⟨h1,_⟩|⟨b',o',h1,h2,_⟩
     ·rw[hβ] at h1;cases h1
     ·rw[hβ] at h1;simp at h1;obtain⟨rfl,rfl⟩:=h1
      obtain⟨v,hv,h3,ht⟩:=h2 (off+j) p hj;rw[Eb] at hv;exact⟨v,by rw[Eb,Nat.add_assoc];exact hv,h3,ht⟩
    ·cases hj
 ·obtain⟨z,n,c,hk,hp⟩:=Ew hk;refine⟨n,c,hk,?_⟩;rcases Fp hp hx with h1|⟨ad,cap,Cz,_,hn,h1,h2,_,h4⟩|⟨ad,cap,Cz,_,rfl,rfl⟩
  ·exact .inl ⟨⟨none,h1.1⟩,h1.2⟩
  ·exact .inr ⟨ad,cap,Cz,hn,.inr h2,h4⟩
  ·exact .inr ⟨ad,cap,Cz,Nat.zero_le _,.inl rfl,fun j c hj=>by simp at hj⟩
theorem ZS (b:ByteArray)(j:Nat)(p:PV)(h:(Nu b)[j]?=some p):∃x,b.data[j]?=some x∧p=.sc (.int .u8 x.toNat):=by
 unfold Nu at h;rw[List.getElem?_map] at h;cases hx:b.data.toList[j]? with
 |none=>rw[hx] at h;cases h
 |some x=>
  rw[hx] at h;simp at h;exact⟨x,by simpa using hx,h.symm⟩
theorem TI (h:Cl N w0 X0 Y β s a w){src dst:TypeId}{x:Operand}(ho:o.op=.convert src dst x){d:Nat}{K:PV->List (Nat × Bl)->Option R}
  (hk:DJ P (Hq s.hp) d src dst (Bz s.tm x) K=some r):∃v nw,K v nw=some r∧Dz P a w o Y β s v [] nw:=by
 have Ci:∀v w',(convert src dst (a.eval x)).run P w=.ok v w'->(execOp a.eval o).run P w=.ok (.value v) w':=by
  intro v w' hv;unfold execOp;rw[ho];simp[hv]
 unfold DJ at hk;split at hk
 ·rename_i k hu;obtain⟨hs,hk⟩:=Al hk;obtain⟨k',n,hx,hk⟩:=Db hk;exact⟨_,_,hk,Ce (Ci _ _ (by rw[B3 h hx];obtain⟨ds,hds⟩:=Option.isSome_iff_exists.1 hs;cases ds<;>simp[convert,run_underlying hds,run_underlying hu,Conv.intToInt]))⟩
 ·rename_i hu;split at hk
  ·rename_i hs;obtain⟨b,hx,hk⟩:=Dd hk;exact⟨_,_,hk,Ce (Ci _ _ (by rw[B3 h hx];simp[convert,run_underlying hs,run_underlying hu]))⟩
  ·rename_i e hs;split at hk
   ·rename_i he;obtain⟨n,c,hk,hc⟩:=DZ h hk;obtain⟨hl,hk⟩:=Al hk;have hl:=of_decide_eq_true hl;obtain⟨l,hb,hk⟩:=B7 hk;obtain⟨ns,rfl,rfl⟩:=Yr hb;refine⟨_,_,hk,Ce (Ci _ _ ?_)⟩;rcases hc with⟨⟨ad,Cz⟩,rfl,hn⟩|⟨ad,cap,Cz,_,_,hrd⟩
    ·have:ns=[]:=by simpa using hn
     subst this;rw[Cz,run_convert_bytes_string w src dst e ad 0 0 hs he hu];cases ad<;>rfl
    ·rw[Cz,run_convert_bytes_string w src dst e _ _ _ hs he hu]
     have hld:(loadCells ad n).run P w=.ok (ns.map (Value.int .u8)).toArray w:=by
      have:=run_loadCells_list (P:=P) w ad (ns.map (Value.int .u8)) (fun j v hj=>by
       rw[List.getElem?_map] at hj;cases hn:ns[j]? with
       |none=>rw[hn] at hj;cases hj
       |some m=>
        rw[hn] at hj;simp at hj;subst hj;obtain⟨v,hv,_,ht⟩:=hrd j (.sc (.int .u8 m)) (by rw[List.getElem?_map,hn];rfl)
        rw[ht.val] at hv;exact hv)
      simp only[List.length_map] at this hl;rw[hl] at this;exact this
     rw[run_bytesToString w ad n cap ns hld,Ox];simp
   ·rename_i he;obtain⟨n,c,hk,hc⟩:=DZ h hk;obtain⟨hl,hk⟩:=Al hk;have hl:=of_decide_eq_true hl;obtain⟨ns,hb,D8⟩:=B7 hk;have AE:=Yq hb;clear hk;subst AE;refine⟨_,_,D8,Ce (Ci _ _ ?_)⟩;rcases hc with⟨⟨ad,Cz⟩,Wz,hn⟩|⟨ad,cap,Cz,_,_,hrd⟩
    ·have:ns=[]:=by simpa using hn
     subst this;rw[Cz,run_convert_runes_string w src dst e ad _ _ hs he hu];cases ad with
     |none=>rfl
     |some p=>
      have V8:n=0:=by simpa using Wz
      subst V8;exact run_runesToString w p 0 0 [] (by simpa using run_loadCells_list (P:=P) w p [] (by simp))
    ·rw[Cz,run_convert_runes_string w src dst e _ _ _ hs he hu]
     have hld:(loadCells ad n).run P w=.ok (ns.map (Value.int .i32)).toArray w:=by
      have:=run_loadCells_list (P:=P) w ad (ns.map (Value.int .i32)) (fun j v hj=>by
       rw[List.getElem?_map] at hj;cases hn:ns[j]? with
       |none=>rw[hn] at hj;cases hj
       |some m=>
        rw[hn] at hj;simp at hj;subst hj;obtain⟨v,hv,_,ht⟩:=hrd j (.sc (.int .i32 m)) (by rw[List.getElem?_map,hn];rfl)
        rw[ht.val] at hv;exact hv)
      simp only[List.length_map] at this hl;rw[hl] at this;exact this
     exact run_runesToString w ad n cap ns hld
   ·cases hk
  ·cases hk
 ·rename_i e hu;split at hk
  ·rename_i he hs;obtain⟨b,hx,hk⟩:=Dd hk;obtain⟨Ln,hk⟩:=Al hk;have hr:=run_bytes_of_string (P:=P) w src dst e b hs hu he;rw[←B3 h hx] at hr
   have Tf:b.size<=grownCap w b.size 0 e:=by
    unfold grownCap;simp[Question.cut]
   have QP:(bytesRow b (grownCap w b.size 0 e)).size=grownCap w b.size 0 e:=by
    simp only[bytesRow,Array.size_append,Array.size_map,Array.size_replicate];have:b.data.size=b.size:=rfl;omega
   refine⟨_,_,hk,M1 (c:=bytesRow b (grownCap w b.size 0 e)) (e:=e) (by simp) (Ci _ _ hr) ?_ (fun j p hj=>?_) (.inr ⟨1,b.size,grownCap w b.size 0 e,rfl,rfl,Tf,by rw[QP];omega,.inl rfl⟩)⟩
   ·exact⟨rfl,rfl,rfl,fun i hi=>Below.heap_alloc w.drew _ i hi,by show (w.heap.push _).size=_;simp,_,by show (w.heap.push _)[w.heap.size]?=_;simp;rfl,.inr (Nat.le_refl _)⟩
   ·obtain⟨y,hy,rfl⟩:=ZS b j p hj;refine⟨.int .u8 y.toNat,?_,rfl,Au.sc _⟩
    have B5:j<b.data.size:=by
     rcases Nat.lt_or_ge j b.data.size with h|h
     ·exact h
     ·rw[Array.getElem?_eq_none h] at hy;cases hy
    simp only[bytesRow];rw[Array.getElem?_append_left (by simpa using B5),Array.getElem?_map,hy]
    rfl
  ·cases hk
 ·cases hk
end
open Go.RowKit
section
variable {R:Type} {r:R} {P:Program} {N:Nat} {w0:World} {X0:Gu} {Y:Nat->Prop} {β β':Bt} {s:St} {a:Act} {w w':World} {o:Oper} {A:Nat->Prop}
theorem Vk:∀{n:Nat}{l:List PV}{j:Nat}{c:PV},(Om n l)[j]?=some c->j<n*l.length∧l[j % l.length]?=some c
 |0,l,j,c,h=>by simp[Om] at h
 |n+1,l,j,c,h=>by
  have e:Om (n+1) l=l++Om n l:=by simp[Om,List.replicate_succ]
  rw[e] at h;by_cases hj:j<l.length
  ·rw[List.getElem?_append_left hj] at h;refine⟨by rw[Nat.add_mul];omega,?_⟩
   rw[Nat.mod_eq_of_lt hj];exact h
  ·rw[List.getElem?_append_right (by omega)] at h
   obtain⟨h1,h2⟩:=Vk h;refine⟨by rw[Nat.add_mul];omega,?_⟩
   rw[Nat.mod_eq_sub_mod (by omega)];exact h2
theorem PF (n:Nat)(l:List PV):(Om n l).length=n*l.length:=by
 induction n with
 |zero=>simp[Om]
 |succ n ih=>
  have e:Om (n+1) l=l++Om n l:=by simp[Om,List.replicate_succ]
  rw[e,List.length_append,ih,Nat.add_mul];omega
theorem OD {z:Array Value}{n j:Nat}(hj:j<n){v:Value}(hv:z[j % z.size]?=some v):(madeCells z n)[j]?=some v:=by
 unfold madeCells;rw[Array.getElem?_map,Array.getElem?_range,if_pos hj];simp only[Option.map_some];rw[getElem!_def,hv]
theorem UY (h:Cl N w0 X0 Y β s a w){t:TypeId}{x y:Operand}(ho:o.op=.makeSlice t x y){d:Nat}{K:PV->List Nat->List (Nat × Bl)->Option R}
  (hk:(match P.underlying t with
   |some (.slice e)=>Df (Bz s.tm x) fun _ n=>Df (Bz s.tm y) fun _ m=>
     Be (decide (0<=n)&&decide (n<=m)&&decide (m*((P.info? e).map (·.bytes)).getD 0<=1099511627776)&&decide (m<=1099511627776))
      (F6 P e fun z=>K (.view d (A8 P e) 0 n.toNat) [] [(d,.ar false (Om n.toNat z))])
   |_=>none)=some r):∃v fz nw,K v fz nw=some r∧Dz P a w o Y β s v fz nw:=by
 split at hk
 ·rename_i e hu;obtain⟨k1,n,hx,hk⟩:=Db hk;obtain⟨k2,m,hy,hk⟩:=Db hk;obtain⟨hb,hk⟩:=Al hk;simp only[Bool.and_eq_true,decide_eq_true_eq] at hb;obtain⟨⟨⟨h0,FY⟩,P5⟩,hm⟩:=hb;obtain⟨z,cs,hk,hz,hct,hl,Ln,hc⟩:=L5 hk
  have hzc:∃i,P.info? e=some i∧i.zero=some z:=by
   unfold Ml at hz;cases hi:P.info? e with
   |none=>rw[hi] at hz;cases hz
   |some i=>rw[hi] at hz;exact⟨i,rfl,hz⟩
  obtain⟨i,hi,hzi⟩:=hzc;have Asb:A8 P e=i.size:=by simp[A8,hi]
  simp only[hi,Option.map_some,Option.getD_some] at P5;have hr:=run_make (P:=P) w t e i z hu hi hzi k1 k2 n m h0 FY (by rw[Int.mul_comm];omega) (by omega)
  have Ci:(execOp a.eval o).run P w=.ok (.value (.slice (some ⟨w.heap.size,0,none⟩) n.toNat m.toNat)) (w.alloc (.cells (madeCells z.cells (m.toNat*i.size)) e)):=by
   unfold execOp;rw[ho];simp[B3 h hx,B3 h hy,hr]
  have hzl:z.cells.size=A8 P e:=by
   have:z.cells.toList.length=z.cells.size:=by simp
   omega
  refine⟨_,_,_,hk,M1 (c:=madeCells z.cells (m.toNat*i.size)) (e:=e) (by simp) Ci (Fn.alloc w _ e) (fun j p hj=>?_) (.inr ⟨A8 P e,n.toNat,m.toNat,rfl,rfl,by omega,by rw[size_madeCells,Asb];exact Nat.le_refl _,.inr (Ir w _ e)⟩)⟩
  obtain⟨h1,h2⟩:=Vk hj;obtain⟨hT,u,Ho,LI,hv⟩:=hc _ p h2;refine⟨u,OD ?_ ?_,LI,hv _ _⟩
  ·have:n.toNat*cs.length<=m.toNat*i.size:=by
    rw[Ln,Asb];exact Nat.mul_le_mul_right _ (by omega)
   omega
  ·rw[hzl,←Ln]
   simpa using Ho
 ·cases hk
theorem Abl {p:PV}{v:Value}(hp:okP p=true)(hv:D5 w A β p v):Bc (Bw w A β) (cellsOf p) v.cells.toList:=by
 have one:v.oneCell'=true->Bw w A β p v->(∀x,p ≠ .agg x)->Bc (Bw w A β) (cellsOf p) v.cells.toList:=by
  intro h1 h2 h3;have:cellsOf p=[p]:=by cases p<;>first|rfl|exact absurd rfl (h3 _)
  rw[this,Kr h1];exact⟨h2,trivial⟩
 unfold okP at hp;split at hp
 ·obtain⟨vs,rfl,h2⟩:=hv;exact h2
 ·refine one ?_ hv (by simp)
  have Lx:Au w A _ v:=hv;cases Lx<;>rfl
 ·refine one ?_ hv (by simp)
  rcases hv with⟨_,_,_,_,rfl⟩|⟨_,_,_,_,_,rfl,_⟩<;>rfl
 ·have:=Wu hv;subst this;exact one rfl hv (by simp)
 ·have:=Wu hv;subst this;exact one rfl hv (by simp)
 ·have:=Wu hv;subst this;exact one rfl hv (by simp)
 ·have:=Wu hv;subst this;exact one rfl hv (by simp)
 ·cases hp
theorem WU:∀(vs:List Value)(k off:Nat)(cells:Array Value),off+k+vs.length<=cells.size ->
  ((vs.zipIdx k).foldl (fun cs (q:Value × Nat)=>cs.setIfInBounds (off+q.2) q.1) cells).toList=cells.toList.take (off+k)++vs++cells.toList.drop (off+k+vs.length)
 |[],k,off,cells,_=>by simp
 |v::vs,k,off,cells,h=>by
  simp only[List.zipIdx_cons,List.foldl_cons,List.length_cons] at h ⊢;rw[WU vs (k+1) off _ (by simp;omega)]
  have B5:off+k<cells.toList.length:=by simp;omega
  simp only[Array.toList_setIfInBounds];rw[show off+(k+1)=off+k+1 from by omega,List.take_succ_eq_append_getElem (by simpa using B5)]
  rw[List.getElem_set_self,List.take_set_of_le (Nat.le_refl _),List.drop_set_of_lt (by omega)]
  simp only[List.append_assoc,List.cons_append,List.nil_append];rw[show off+k+1+vs.length=off+k+(vs.length+1) from by omega]
theorem ED (h:Cl N w0 X0 Y β s a w){F5:Nat->Option (Nat × Nat)}:∀{parts:List (Nat × Operand)} {pc:List PV}{vc:Array Value}{K:List PV->Option R},
  Pj F5 (parts.map fun q=>(q.1,Bz s.tm q.2)) pc K=some r->Bc (Bw w (Cw s.hp β Y) β) pc vc.toList->(∀c∈pc,∀id∈An c,s.hp id≠none) ->
  ∃pc' vc',K pc'=some r∧Instr.fill F5 vc (parts.map fun q=>(q.1,a.eval q.2))=some vc'∧Bc (Bw w (Cw s.hp β Y) β) pc' vc'.toList∧pc'.length=pc.length∧∀c∈pc',∀id∈An c,s.hp id≠none
 |[],pc,vc,K,hk,hv,hr=>⟨pc,vc,hk,rfl,hv,rfl,hr⟩
 |(i,x)::parts,pc,vc,K,hk,hv,hr=>by
  simp only[List.map_cons] at hk;unfold Pj at hk;obtain⟨⟨off,size⟩,Tn,hk⟩:=B7 hk;obtain⟨hb,hk⟩:=Al hk;simp only[Bool.and_eq_true] at hb;obtain⟨⟨hok,Ln⟩,Y6⟩:=hb;have Ln:(cellsOf (Bz s.tm x)).length=size:=Nat.eq_of_beq_eq_true Ln;have Y6:off+size<=pc.length:=Nat.le_of_ble_eq_true Y6;have hxc:=Abl hok (Cq h x);have hxl:=hxc.len;have hvl:=hv.len;have O9:vc.toList.length=vc.size:=by simp
  have AE:(a.eval x).cells.toList.length=(a.eval x).cells.size:=by simp
  have Ari:=WU (a.eval x).cells.toList 0 off vc (by omega)
  simp only[Nat.add_zero] at Ari
  have Arv:((a.eval x).cells.zipIdx.foldl (fun cs (q:Value × Nat)=>cs.setIfInBounds (off+q.2) q.1) vc).toList=vc.toList.take off++(a.eval x).cells.toList++vc.toList.drop (off+(a.eval x).cells.toList.length):=by
   rw[←Ari,←Array.foldl_toList];simp
  obtain⟨pc',vc',hk,hf,h2,hl,hr'⟩:=ED h (pc:=Ca pc (cellsOf (Bz s.tm x)) off) (vc:=(a.eval x).cells.zipIdx.foldl (fun cs (q:Value × Nat)=>cs.setIfInBounds (off+q.2) q.1) vc) hk (by
    rw[Arv,←hxl];exact (((hv.take off).app hxc).app (hv.drop _))) (by
    intro c hc id Bh;unfold Ca at hc;rcases List.mem_append.1 hc with hc|hc
    ·rcases List.mem_append.1 hc with hc|hc
     ·exact hr c (List.mem_of_mem_take hc) id Bh
     ·refine Eh h x id ?_;cases hp:Bz s.tm x with
      |agg cs=>rw[hp] at hc;exact List.mem_flatMap.2 ⟨c,hc,Bh⟩
      |tup cs=>rw[hp] at hc;simp[cellsOf] at hc;subst hc;cases Bh
      |_=>rw[hp] at hc;simp[cellsOf] at hc;subst hc;exact Bh
    ·exact hr c (List.mem_of_mem_drop hc) id Bh)
  refine⟨pc',vc',hk,?_,h2,?_,hr'⟩
  ·simp only[List.map_cons,Instr.fill,Tn];rw[if_neg (by simp;omega)]
   exact hf
  ·rw[hl];simp[Ca];omega
theorem NN {t:TypeId}{z:Value}{cs:List PV}(hl:cs.length=z.cells.toList.length)(hc:∀(j:Nat) c,cs[j]?=some c->Sg c∧∃u,z.cells.toList[j]?=some u∧u.oneCell'=true∧∀(w:World)(A:Nat->Prop),Au w A c u) (_ht:Ml P t=some z):
  Bc (Bw w A β) cs z.cells.toList∧∀c∈cs,An c=[]:=by
 refine⟨Bc.of_at hl fun i c u hci hu=>?_,fun c NV=>?_⟩
 ·obtain⟨hT,u',Ho,_,hv⟩:=hc i c hci;rw[hu] at Ho;cases Ho;exact (Jh hT).2 (hv _ _)
 ·obtain⟨j,hj⟩:=List.mem_iff_getElem?.1 NV;exact Gq (hc j c hj).1
theorem CV:∀{fs:List Field},(fs.all fun f=>DI P f.type)=true->fs.mapM (fun f=>(P.info? f.type).map fun i=>(f.offset,i.size))=some (fs.map fun f=>(f.offset,A8 P f.type))
 |[],_=>rfl
 |f::fs,h=>by
  simp only[List.all_cons,Bool.and_eq_true] at h;obtain⟨i,hi⟩:=Option.isSome_iff_exists.1 h.1;simp[List.mapM_cons,hi,CV h.2,A8]
theorem S5 {p q:Nat->Option (Nat × Nat)} (h:∀i,p i=q i)(cells:Array Value)(parts:List (Nat × Value)):Instr.fill p cells parts=Instr.fill q cells parts:=by
 have:p=q:=funext h;rw[this]
theorem RE (h:Cl N w0 X0 Y β s a w){t:TypeId}{ps:Array (Nat × Operand)} (ho:o.op=.build t ps){K:PV->Option R}
  (hk:(Be (Nb P t&&B4 P t)<|F6 P t fun z=>Pj (Oq P t) (ps.toList.map fun q=>(q.1,Bz s.tm q.2)) z fun cs=>Lr (G1 P t) cs 0 fun cs'=>K (.agg cs'))=some r):∃v,K v=some r∧Dz P a w o Y β s v [] []:=by
 obtain⟨Tn,hk⟩:=Al hk;simp only[Bool.and_eq_true] at Tn;obtain⟨Tn,Fc⟩:=Tn;obtain⟨z,cs,hk,hz,hct,hl,Ln,hc⟩:=L5 hk;obtain⟨hzr,AZ⟩:=NN (w:=w) (A:=Cw s.hp β Y) (β:=β) hl hc hz;obtain⟨pc',vc',hk,hf,h2,Ib,hr'⟩:=ED h hk hzr (fun c NV id Bh=>by rw[AZ c NV] at Bh;cases Bh)
 obtain⟨qs,hk,hql,X9,hq⟩:=Ql hk
 have Am0:P.built t (ps.toList.map fun q=>(q.1,a.eval q.2))=some vc':=by
  have hzi:∃i,P.info? t=some i∧i.zero=some z:=by
   unfold Ml at hz;cases hi:P.info? t with
   |none=>rw[hi] at hz;cases hz
   |some i=>rw[hi] at hz;exact⟨i,rfl,hz⟩
  obtain⟨i,hi,hzi⟩:=hzi;unfold Nb at Tn;unfold Program.built;split at Tn
  ·rename_i fs hu
   have hf':Instr.fill (((fs.toList.map fun f=>(f.offset,A8 P f.type)).toArray)[·]?) z.cells (ps.toList.map fun q=>(q.1,a.eval q.2))=some vc':=by
    rw[←hf];refine S5 (fun j=>?_) _ _
    simp[Oq,hu]
   simp only[hi,hu,hzi,CV Tn];exact hf'
  ·rename_i n e hu;obtain⟨ie,hie⟩:=Option.isSome_iff_exists.1 Tn
   have hf':Instr.fill (fun j=>some (j*ie.size,ie.size)) z.cells (ps.toList.map fun q=>(q.1,a.eval q.2))=some vc':=by
    rw[←hf];refine S5 (fun j=>?_) _ _
    simp[Oq,hu,A8,hie]
   simp only[hi,hu,hzi,hie];exact hf'
  ·rename_i e hu;simp[B4,hu] at Fc
  ·cases Tn
 refine⟨_,hk,B0 (val:=.agg vc') ?_ ⟨vc'.toList,rfl,?_⟩ ?_⟩
 ·unfold execOp;rw[ho];have:=run_build (P:=P) w t (ps.map fun q=>(q.1,a.eval q.2)) vc' (by simpa using Am0)
  simp[this]
 ·refine Bc.of_at (by have:=h2.len;omega) fun j c u hcj hu=>?_
  obtain⟨p,hp,_,_,Wn⟩:=hq j c hcj;rw[Nat.zero_add] at hp;exact (Wn _ _ _ _ (h2.at_ hp hu)).1
 ·intro id Bh;obtain⟨c,NV,Bh⟩:=List.mem_flatMap.1 (show id∈qs.flatMap An from Bh)
  obtain⟨j,hj⟩:=List.mem_iff_getElem?.1 NV;obtain⟨p,hp,_,hpr,_⟩:=hq j c hj;rw[Nat.zero_add] at hp;exact hr' p (List.mem_of_getElem? hp) id (hpr id Bh)
end
open Go.RowKit
section
variable {R:Type} {r:R} {P:Program} {N:Nat} {w0:World} {X0:Gu} {Y:Nat->Prop} {β β':Bt} {s:St} {a:Act} {w w':World} {o:Oper} {A:Nat->Prop}
theorem SH (h:Cl N w0 X0 Y β s a w){fz:List Nat}(Xd:∀id∈fz,∃f c,s.hp id=some (.ar f c)) {id:Nat}(hm:id∈fz){f:Bool}{c:List PV}(hb:s.hp id=some (.ar f c)) {b ob:Nat}(hβ:β id=some (b,ob)):
  ¬Cw (Af s.hp fz) β Y b∧RY w (Cw (Af s.hp fz) β Y) ⟨b,ob,none⟩ c∧b<w.heap.size:=by
 have hf:=h.freeze Xd;have he:Af s.hp fz id=some (.ar true c):=by rw[Bv,if_pos hm,hb];rfl
 rcases hf.box id _ he with⟨h1,_⟩|⟨b',o',h1,h2,_,h4⟩
 ·rw[hβ] at h1;cases h1
 ·rw[hβ] at h1;simp at h1;obtain⟨rfl,rfl⟩:=h1;exact⟨h4 rfl,h2,h.blt id b ob (by rw[hb];simp) hβ⟩
theorem YR (h:Cl N w0 X0 Y β s a w){fz:List Nat}(Xd:∀id∈fz,∃f c,s.hp id=some (.ar f c)) {id es off n:Nat}(hm:id∈fz){f:Bool}{c:List PV}(hb:s.hp id=some (.ar f c)) {v:Value}
  (hv:Bw w (Cw s.hp β Y) β (.view id es off n) v):Au w (Cw (Af s.hp fz) β Y) (.lst false es n ((c.drop off).take (n*es))) v:=by
 rcases hv with⟨_,rfl,rfl,ad,rfl⟩|⟨b,ob,y,cap,hβ,rfl,hy,hn,_,B5⟩
 ·simp only[Nat.zero_mul,List.take_zero];cases ad with
  |none=>exact Au.lnil false es
  |some p=>exact Au.lemp es p 0
 ·obtain⟨h1,h2,_⟩:=SH h Xd hm hb hβ;by_cases V8:n*es=0
  ·rw[V8,List.take_zero];exact Au.lst es n [] ⟨b,y,none⟩ cap (fun _=>undef) rfl B5 h1 hn (by simp) (by simp) (by simp)
  ·have hy:y=ob+off:=by
    rcases hy with hy|⟨h0,_⟩
    ·exact hy
    ·rw[h0] at V8;simp at V8
   subst hy
   have Cp:∀(j:Nat) q,((c.drop off).take (n*es))[j]?=some q->c[off+j]?=some q:=by
    intro j q hq;rw[List.getElem?_take] at hq;split at hq
    ·rw[List.getElem?_drop] at hq;exact hq
    ·cases hq
   refine Au.lst es n _ ⟨b,ob+off,none⟩ cap (fun j=>(w.cell? ⟨b,ob+off+j,none⟩).getD undef) rfl B5 h1 hn (fun j q hq=>?_) (fun j q hq=>?_) (fun j q hq=>?_)
   ·obtain⟨v,hv,_⟩:=h2 _ q (Cp j q hq);rw[Eb,←Nat.add_assoc] at hv;rw[Eb,hv];rfl
   ·obtain⟨v,hv,h3,_⟩:=h2 _ q (Cp j q hq);rw[Eb,←Nat.add_assoc] at hv;rw[hv];exact h3
   ·obtain⟨v,hv,_,ht⟩:=h2 _ q (Cp j q hq);rw[Eb,←Nat.add_assoc] at hv;rw[hv];exact ht
theorem Au.zf {A:Nat->Prop}{z:Bool}{es n:Nat}{c:List PV}{v:Value}(h:Au w A (.lst z es n c) v):Au w A (.lst false es n c) v:=by
 cases h with
 |lnil=>exact .lnil _ _
 |lemp=>exact .lemp _ _ _
 |lst _ _ _ a cap f hs hb hA hn hc h1 hr=>exact .lst _ _ _ a cap f hs hb hA hn hc h1 hr
theorem BT (h:Cl N w0 X0 Y β s a w){t:CT}{p:PV}{K:PV->List Nat->Option R}(hk:Ls (Hq s.hp) t p K=some r):
  ∃c m,K c m=some r∧Sg c∧GD p∧(∀id∈m,∃f cc,s.hp id=some (.ar f cc))∧∀fz:List Nat,(∀id∈m,id∈fz)->(∀id∈fz,∃f cc,s.hp id=some (.ar f cc))->∀v,Bw w (Cw s.hp β Y) β p v->Au w (Cw (Af s.hp fz) β Y) c v∧v.oneCell'=true:=by
 have tree:∀t',(Xg t' p fun c=>K c [])=some r->∃c m,K c m=some r∧Sg c∧GD p∧(∀id∈m,∃f cc,s.hp id=some (.ar f cc))∧∀fz:List Nat,(∀id∈m,id∈fz)->(∀id∈fz,∃f cc,s.hp id=some (.ar f cc))->∀v,Bw w (Cw s.hp β Y) β p v->Au w (Cw (Af s.hp fz) β Y) c v∧v.oneCell'=true:=by
  intro t' hk;obtain⟨c,hk,hT,BE,hv⟩:=Kc hk;refine⟨c,[],hk,hT,Ok BE,by simp,fun fz _ Xd v Wn=>?_⟩
  obtain⟨h1,h2⟩:=hv _ _ _ _ Wn;exact⟨h1.step (B6.refl _ _) (fun b _ hb=>hb.imp Nc id),h2⟩
 cases t with
 |sl es=>
  unfold Ls at hk;dsimp only at hk;split at hk
  ·rename_i id es' off n;cases hb:Nat.beq es' es
   ·rw[hb] at hk;cases hk
   ·rw[hb] at hk;have:=Nat.eq_of_beq_eq_true hb;subst this;obtain⟨c,hc,hk⟩:=B7 (show Do _ _=some r from hk)
    obtain⟨_,hk⟩:=Al hk;obtain⟨f,Jl⟩:=LO hc;refine⟨_,[id],hk,trivial,trivial,?_,fun fz hm Xd v hv=>⟨YR h Xd (hm id (by simp)) Jl hv,?_⟩⟩
    ·intro i hi;simp at hi;subst hi;exact⟨f,c,Jl⟩
    ·rcases hv with⟨_,_,_,_,rfl⟩|⟨_,_,_,_,_,rfl,_⟩<;>rfl
  ·obtain⟨z,n,c,hk,hp⟩:=Ew hk;refine⟨_,[],hk,trivial,?_,by simp,fun fz _ Xd v Wn=>?_⟩
   ·rcases hp with rfl|⟨rfl,_⟩<;>trivial
   ·have ht:=Sp hp Wn;refine⟨Au.zf (ht.step (B6.refl _ _) (fun b _ hb=>hb.imp Nc id)),?_⟩
    cases ht<;>rfl
 |int k=>exact tree (.int k) hk
 |bool=>exact tree .bool hk
 |str=>exact tree .str hk
 |any=>exact tree .any hk
theorem Np (h:Cl N w0 X0 Y β s a w):∀{ts:List CT}{ps:List PV}{K:List PV->List Nat->Option R},Le (Hq s.hp) ts ps K=some r ->
  ∃cs m,K cs m=some r∧cs.length=ts.length∧ps.length=ts.length∧(∀c∈cs,Sg c)∧(∀p∈ps,GD p)∧(∀id∈m,∃f cc,s.hp id=some (.ar f cc)) ∧
   ∀fz:List Nat,(∀id∈m,id∈fz)->(∀id∈fz,∃f cc,s.hp id=some (.ar f cc))->∀vs,Bc (Bw w (Cw s.hp β Y) β) ps vs->Bc (Au w (Cw (Af s.hp fz) β Y)) cs vs∧∀v∈vs,v.oneCell'=true
 |[],[],K,hk=>⟨[],[],hk,rfl,rfl,by simp,by simp,by simp,fun fz _ _ vs hv=>by
   cases vs with
   |nil=>exact⟨trivial,by simp⟩
   |cons v vs=>exact hv.elim⟩
 |[],_::_,K,hk=>by cases hk
 |_::_,[],K,hk=>by cases hk
 |t::ts,p::ps,K,hk=>by
  unfold Le at hk;obtain⟨c,m,hk,hT,hF,hm,hv⟩:=BT h hk;obtain⟨cs,ms,hk,hl,Ib,hTs,hFs,CL,O9⟩:=Np h hk;refine⟨c::cs,m++ms,hk,by simp[hl],by simp[Ib],?_,?_,?_,fun fz hfm Xd vs h2=>?_⟩
  ·intro x hx;rcases List.mem_cons.1 hx with rfl|hx
   ·exact hT
   ·exact hTs x hx
  ·intro x hx;rcases List.mem_cons.1 hx with rfl|hx
   ·exact hF
   ·exact hFs x hx
  ·intro x hx;rcases List.mem_append.1 hx with hx|hx
   ·exact hm x hx
   ·exact CL x hx
  ·cases vs with
   |nil=>exact h2.elim
   |cons v vs=>
    obtain⟨h3,h4⟩:=hv fz (fun i hi=>hfm i (by simp[hi])) Xd v h2.1
    obtain⟨h5,h6⟩:=O9 fz (fun i hi=>hfm i (by simp[hi])) Xd vs h2.2
    refine⟨⟨h3,h5⟩,?_⟩;intro x hx;rcases List.mem_cons.1 hx with rfl|hx
    ·exact h4
    ·exact h6 x hx
theorem Abe {R':PV->Value->Prop}{cs:List PV}{z:Array Value}(h:Bc R' cs z.toList)(n:Nat):Bc R' (Om n cs) (madeCells z (n*cs.length)).toList:=by
 have hzl:z.size=cs.length:=by have:=h.len;simp at this;exact this.symm
 refine Bc.of_at ?_ fun j c v hc hv=>?_
 ·rw[PF];simp[size_madeCells]
 ·obtain⟨h1,h2⟩:=Vk hc
  have B5:j % cs.length<cs.length:=by
   rcases Nat.lt_or_ge (j % cs.length) cs.length with h|h
   ·exact h
   ·rw[List.getElem?_eq_none h] at h2;cases h2
  obtain⟨u,hu,hcu⟩:=h.get h2;have:(madeCells z (n*cs.length))[j]?=some u:=OD h1 (by rw[hzl];simpa using hu)
  have Lx:(madeCells z (n*cs.length))[j]?=some v:=by simpa using hv
  rw[this] at Lx;cases Lx;exact hcu
theorem JB {A':Nat->Prop}:∀{ps cs:List PV}{vs:List Value},Bc (Bw w (Cw s.hp β Y) β) ps vs->Bc (Au w A') cs vs->Bc (Au w A') (NS true ps cs) vs
 |[],_,_,_,h=>h
 |_::_,[],_,_,h=>h
 |p::ps,c::cs,[],_,h=>h.elim
 |p::ps,c::cs,v::vs,hp,h=>by
  refine⟨?_,JB hp.2 h.2⟩;split
  ·have h1:Au w (Cw s.hp β Y) (.lst true _ 0 []) v:=hp.1;cases h1;exact .lnil true _
  ·exact h.1
theorem Wx (h:Cl N w0 X0 Y β s a w){nz:Bool}{t:TypeId}{n:Nat}{ps:Array (Nat × Operand)} (ho:o.op=.buildSlice t n ps){d:Nat}{K:PV->List Nat->List (Nat × Bl)->Option R}
  (hk:(match P.underlying t with
   |some (.slice e)=>Be (Nb P t&&Nat.ble (n*A8 P e) 16777216) (F6 P e fun z=>Pj (Oq P t) (ps.toList.map fun q=>(q.1,Bz s.tm q.2)) (Om n z) fun cs=>
     Le (Hq s.hp) (List.replicate n (G1 P e)).flatten cs fun cs' m=>K (.view d (A8 P e) 0 n) m [(d,.ar false (bif nz then NS true cs cs' else cs'))])
   |_=>none)=some r):∃v fz nw,K v fz nw=some r∧Dz P a w o Y β s v fz nw:=by
 split at hk
 ·rename_i e hu;obtain⟨hb,hk⟩:=Al hk;simp only[Bool.and_eq_true] at hb;have Y6:n*A8 P e<=16777216:=Nat.le_of_ble_eq_true hb.2;have Mk:(P.info? e).isSome=true:=by have:=hb.1;unfold Nb at this;rw[hu] at this;exact this
  obtain⟨z,cs,hk,hz,hct,hl,Ln,hc⟩:=L5 hk;obtain⟨hzr,AZ⟩:=NN (w:=w) (A:=Cw s.hp β Y) (β:=β) hl hc hz;have A1z:=Abe hzr n
  obtain⟨pc',vc',hk,hf,h2,Ib,hr'⟩:=ED h hk A1z (fun c NV id Bh=>by
   obtain⟨j,hj⟩:=List.mem_iff_getElem?.1 NV;obtain⟨_,hg⟩:=Vk hj;rw[AZ c (List.mem_of_getElem? hg)] at Bh;cases Bh)
  obtain⟨qs,m,hk,hql,Tn,hqT,_,hm,hqv⟩:=Np h hk;obtain⟨h3,h3'⟩:=hqv m (fun _ hi=>hi) hm _ h2
  have h3:Bc (Au w (Cw (Af s.hp m) β Y)) (bif nz then NS true pc' qs else qs) vc'.toList:=by
   cases nz
   ·exact h3
   ·exact JB h2 h3
  have hf':Instr.fill (fun i=>some (i*A8 P e,A8 P e)) (madeCells z.cells (n*cs.length)) (ps.toList.map fun q=>(q.1,a.eval q.2))=some vc':=by
   rw[←hf];refine S5 (fun i=>?_) _ _
   simp[Oq,hu]
  have hvl:vc'.size=n*A8 P e:=by
   have h4:=h2.len;rw[Ib,PF] at h4;simp at h4;rw[←h4,Ln]
  have Ci:(execOp a.eval o).run P w=.ok (.value (.slice (some ⟨w.heap.size,0,none⟩) n n)) (w.alloc (.cells vc' e)):=by
   unfold execOp;rw[ho];have Asn:¬(n*A8 P e>2 ^ 24):=by omega
   rw[Ln] at hf';by_cases V8:n*A8 P e=0
   ·simp only[Instr.buildSlice,Sem.run_bind,run_underlying hu,Result.andThen_ok,Cm Mk,if_neg Asn,V8];rw[V8] at hf';have e0:madeCells z.cells 0=(Array.range 0).map (fun _=>default):=by simp[madeCells]
    rw[e0] at hf';simp[hf',newRow]
   ·simp only[Instr.buildSlice,Sem.run_bind,run_underlying hu,Result.andThen_ok,Cm Mk,if_neg Asn,if_neg V8,R9 hz];unfold madeCells at hf';simp[hf',newRow]
  refine⟨_,_,_,hk,M1 (c:=vc') (e:=e) hm Ci (Fn.alloc w vc' e) (fun j p hj=>?_) (.inr ⟨A8 P e,n,n,rfl,rfl,Nat.le_refl _,by rw[hvl];exact Nat.le_refl _,.inr (Ir w vc' e)⟩)⟩
  obtain⟨u,Ho,hp⟩:=h3.get hj;exact⟨u,by simpa using Ho,h3' u (List.mem_of_getElem? Ho),hp⟩
 ·cases hk
theorem LW (h:Cl N w0 X0 Y β s a w){t:TypeId}{x k:Operand}{ok:Bool}(ho:o.op=.lookup t x k ok){K:PV->Option R}
  (hk:(match P.underlying t with
   |some (.map kt vt)=>Be (match P.underlying kt with|some .string=>true|_=>false) (
    match Bz s.tm x with
    |.sc (.map none)=>Az (Bz s.tm k) fun _=>Do (Ml P vt) fun z=>cvK P vt z fun v=>Be (match v with | .tup _=>false|_=>true) (K (bif ok then .tup [v,.sc (.bool false)] else v))
    |_=>none)
   |_=>none)=some r):∃v,K v=some r∧Dz P a w o Y β s v [] []:=by
 split at hk
 ·rename_i kt vt hu;obtain⟨hkt,hk⟩:=Al hk
  have hkt:P.underlying kt=some .string:=by
   split at hkt
   ·assumption
   ·cases hkt
  split at hk
  ·rename_i hx;obtain⟨b,hkk,hk⟩:=Dd hk;obtain⟨z,hz,hk⟩:=B7 hk;obtain⟨v,hk,hr,hv⟩:=XS hk;obtain⟨UC,hk⟩:=Al hk
   have UC:∀cs,v ≠ .tup cs:=by
    rintro cs rfl
    cases UC
   have hzr:∀w:World,(zeroValue vt).run P w=.ok z w:=by
    intro w;unfold Ml at hz;cases hi:P.info? vt with
    |none=>rw[hi] at hz;cases hz
    |some i=>
     rw[hi] at hz;simp[zeroValue,typeInfo,hi,show i.zero=some z from hz]
   have Ci:(execOp a.eval o).run P w=.ok (.value (if ok then .tuple #[z,.bool false] else z)) w:=by
    unfold execOp;rw[ho];have hck:∀c (n:Nat),(Instr.checkKey c (n+1) kt (.string b)).run P w=.ok () w:=fun c n=>by simp[Instr.checkKey,run_underlying hkt]
    have EZ:∀c,(Instr.checkKey c 10000 kt (.string b)).run P w=.ok () w:=fun c=>hck c 9999
    cases ok<;>simp[Instr.lookup,run_underlying hu,B3 h hx,B3 h hkk,EZ,Instr.findKey,Instr.findNow,run_underlying hkt,hzr]
   refine⟨_,hk,B0 Ci ?_ ?_⟩
   ·cases ok
    ·exact hv _ _ _
    ·refine⟨[z,.bool false],rfl,(Mc UC).1 (hv _ _ _),?_,trivial⟩;exact Au.sc _
   ·cases ok
    ·intro id Bh;simp only[cond_false] at Bh;rw[hr] at Bh;cases Bh
    ·intro id Bh;have:Br (.tup [v,.sc (.bool false)])=B8 v++[]:=by simp[Br,B8,An]
     simp only[cond_true] at Bh;rw[this,List.append_nil] at Bh;have e:B8 v=Br v:=by cases v<;>first|rfl|exact absurd rfl (UC _)
     rw[e,hr] at Bh;cases Bh
  ·cases hk
 ·cases hk
end
end
end Go.Proofs.YtodnjibebeghjaaDoor.Pv
