/-
  The proof of DataWritten, part 1.
-/
import Derived.Orders
import Derived.LoopN
import Derived.Below
import Derived.Laws.Cover4
import Derived.Lib.ValidU
import Derived.Lib.Bytealg
import Derived.IntWalk
import Derived.WalkKit
import Derived.WalkLawsBesides
import Derived.Laws.IdiomStrings
import Derived.Laws.MakeOwn
import Derived.Laws.Tables
set_option linter.unusedSimpArgs false
set_option linter.unusedVariables false
namespace Go.Proofs.YtodnjibebeghjaaGreatDoor.Pv
section
inductive PV where
 |sc (v:Value)
 |lst (z:Bool) (es n:Nat) (cells:List PV)
 |own (es n:Nat) (cells:List PV)
 |view (id es off n:Nat)
 |ptr (id off:Nat)
 |iptr (cells:List PV) (off:Nat)
 |pbox (cells:List PV)
 |agg (cells:List PV)
 |tup (vs:List PV)
 |top
 |ub
inductive Bs where
 |st (cells:List PV)
 |ar (fz:Bool) (cells:List PV)
 |mv
structure St where
 tm:Nat->PV
 hp:Nat->Option Bs
structure Ap where
 vals:List PV
 outs:List (List PV)
structure G1 where
 shr:FuncId->Bool
 mvd:FuncId->Nat->Bool
 lnd:FuncId->Nat->Bool
 kz:FuncId->Bool
 ext:FuncId->Option (List PV->Option Ap)
 nz:Nat->Bool
def G1.core (C:G1):G1:={ C with ext:=fun _=>none }
def Cs {α:Type}(f:Nat->α)(i:Nat)(v:α):Nat->α:=fun j=>bif Nat.beq j i then v else f j
def rd (hp:Nat->Option Bs)(id:Nat):Option (List PV):=
 match hp id with
 |some (.st c)=>some c
 |some (.ar _ c)=>some c
 |_=>none
def Jp (hp:Nat->Option Bs)(id:Nat):Option (List PV):=
 match hp id with
 |some (.ar _ c)=>some c
 |_=>none
inductive CT where
 |int (k:IntKind)
 |bool
 |str
 |sl (es:Nat)
 |any
def Bc (P:Program)(t:TypeId):Nat:=((P.info? t).map (·.size)).getD 0
def B9 (P:Program)(t:TypeId):Bool:=
 match P.underlying t with
 |some (.struct _)=>true
 |some (.array _ _)=>true
 |_=>false
def Awm (P:Program):Nat->TypeId->List CT
 |0,_=>[]
 |d+1,t=>
  match P.underlying t with
  |some (.int k)=>[.int k]
  |some .bool=>[.bool]
  |some .string=>[.str]
  |some (.slice e)=>[.sl (Bc P e)]
  |some (.struct fs)=>fs.toList.flatMap fun f=>Awm P d f.type
  |some (.array n e)=>(List.replicate n (Awm P d e)).flatten
  |_=>[.any]
abbrev H7 (P:Program)(t:TypeId):List CT:=Awm P 9 t
def Ir (P:Program)(t:TypeId):Bool:=(P.underlying t).isSome&&Nat.beq (H7 P t).length (Bc P t)
abbrev JN (k:IntKind)(a b:Int):Int:=k.wrap (BitVec.ofInt k.bits a &&& BitVec.ofInt k.bits b).toNat
abbrev QM (k:IntKind)(a b:Int):Int:=k.wrap (BitVec.ofInt k.bits a ||| BitVec.ofInt k.bits b).toNat
abbrev Gi (k:IntKind)(a b:Int):Int:=k.wrap (BitVec.ofInt k.bits a ^^^ BitVec.ofInt k.bits b).toNat
abbrev Api (k:IntKind)(a b:Int):Int:=k.wrap (BitVec.ofInt k.bits a &&& ~~~BitVec.ofInt k.bits b).toNat
abbrev Ka (k:IntKind)(a b:Int):Int:=k.wrap (a*2 ^ (min b.toNat k.bits))
abbrev Ut (k:IntKind)(a b:Int):Int:=a.fdiv (2 ^ (min b.toNat k.bits))
abbrev A3g (k:IntKind)(n:Int):Int:=k.wrap (BitVec.ofInt k.bits (if k.signed then -1 else k.max) ^^^ BitVec.ofInt k.bits n).toNat
section
variable {R:Type}
def Aj (k:IntKind)(p:PV)(K:Int->Option R):Option R:=
 match p with
 |.sc (.int k' n)=>if k'=k then K n else none
 |_=>none
def Aq (p:PV)(K:Bool->Option R):Option R:=
 match p with
 |.sc (.bool b)=>K b
 |_=>none
def Ar (p:PV)(K:ByteArray->Option R):Option R:=
 match p with
 |.sc (.string s)=>K s
 |_=>none
def F1 (es:Nat)(p:PV)(K:Bool->Nat->List PV->Option R):Option R:=
 match p with
 |.lst z es' n c=>bif Nat.beq es' es then K z n c else none
 |.sc (.slice none 0 0)=>K true 0 []
 |_=>none
def fsK (es:Nat)(p:PV)(K:PV->Option R):Option R:=
 match p with
 |.view id es' off n=>bif Nat.beq es' es then K (.view id es off n) else none
 |p=>F1 es p fun z n c=>K (.lst z es n c)
def IU (es:Nat)(p:PV)(K:Nat->List PV->Option R):Option R:=
 match p with
 |.own es' n c=>bif Nat.beq es' es then K n c else none
 |_=>none
def A2 (b:Bool)(K:Option R):Option R:=bif b then K else none
abbrev Ac {α:Type}(x:α)(K:α->Option R):Option R:=K x
def SW (b:Bool)(x y:Option R):Option R:=bif b then x else y
abbrev A63 (x:Nat)(K:Nat->Option R):Option R:=K x
def Asp (x:List (List Nat)) (K:List (List Nat)->Option R):Option R:=K x
def Ba (b:Bool)(x y:Option R):Option R:=bif b then x else y
def C5 {α:Type}(o:Option α)(K:α->Option R):Option R:=
 match o with
 |some a=>K a
 |none=>none
def Aa {α:Type}(l:List α)(K:α->List α->Option R):Option R:=
 match l with
 |a::r=>K a r
 |[]=>none
def Ad {α:Type}(l:List α)(K:Option R):Option R:=
 match l with
 |[]=>K
 |_::_=>none
def F7 (p:PV)(K:List PV->Option R):Option R:=
 match p with
 |.agg c=>K c
 |_=>none
def Sn (p:PV)(K:List PV->Option R):Option R:=
 match p with
 |.pbox c=>K c
 |_=>none
def Ah (r:Option Ap)(K:List PV->List (List PV)->Option R):Option R:=
 match r with
 |some ⟨v,o⟩=>K v o
 |none=>none
def fnK (p:PV)(K:Value->Option R):Option R:=
 match p with
 |.sc (.func f a b)=>K (.func f a b)
 |.sc (.map none)=>K (.map none)
 |_=>none
def fvK (p:PV)(K:FuncId->Option R):Option R:=
 match p with
 |.sc (.func (.func f) a b)=>bif a.isEmpty&&b.isEmpty then K f else none
 |_=>none
def BG (t:CT)(p:PV)(K:PV->Option R):Option R:=
 match t with
 |.int k=>Aj k p fun n=>K (.sc (.int k n))
 |.bool=>Aq p fun b=>K (.sc (.bool b))
 |.str=>Ar p fun s=>K (.sc (.string s))
 |.sl es=>F1 es p fun z n c=>K (.lst z es n c)
 |.any=>fnK p fun v=>K (.sc v)
def fcK (t:CT)(p:PV)(K:PV->Option R):Option R:=
 match t with
 |.sl es=>fsK es p K
 |t=>BG t p K
def R7:List CT->List PV->Nat->(List PV->Option R)->Option R
 |[],_,_,K=>K []
 |t::ts,cells,off,K=>BG t (cells.getD off .top) fun c=>R7 ts cells (off+1) fun r=>K (c::r)
def Od:List CT->List PV->Nat->(List PV->Option R)->Option R
 |[],_,_,K=>K []
 |t::ts,cells,off,K=>fcK t (cells.getD off .top) fun c=>Od ts cells (off+1) fun r=>K (c::r)
def mkV (agg:Bool)(cells:List PV)(K:PV->Option R):Option R:=
 bif agg then K (.agg cells) else Aa cells fun c r=>Ad r (K c)
def cellsOf:PV->List PV
 |.agg c=>c
 |p=>[p]
def cvK (P:Program)(t:TypeId)(v:Value)(K:PV->Option R):Option R:=
 match v with
 |.agg cs=>A2 (Nat.beq cs.toList.length (H7 P t).length) (R7 (H7 P t) (cs.toList.map .sc) 0 fun c=>K (.agg c))
 |.slice none 0 0=>
  match P.underlying t with
  |some (.slice e)=>K (.lst true (Bc P e) 0 [])
  |_=>none
 |v=>K (.sc v)
end
def B3 (tm:Nat->PV):Operand->PV
 |.tmp t=>tm t
 |.const (.agg cs)=>.agg (cs.toList.map .sc)
 |.const v=>.sc v
 |.func f=>.sc (.func (.func f) #[] #[])
 |.global g=>.sc (.pointer (some ⟨g,0,none⟩))
section
variable {R:Type}
def Ds (p:PV)(K:IntKind->Int->Option R):Option R:=
 match p with
 |.sc (.int k n)=>K k n
 |_=>none
def RO (rdf:Nat->Option (List PV)) (es:Nat)(p:PV)(K:Nat->List PV->Option R):Option R:=
 match p with
 |.view id es' off n=>bif Nat.beq es' es then C5 (rdf id) fun c=>A2 (decide (off+n*es<=c.length)) (K n ((c.drop off).take (n*es))) else none
 |p=>F1 es p fun _ n c=>K n c
def Oc (rdf:Nat->Option (List PV)) (t:CT)(p:PV)(K:PV->List Nat->Option R):Option R:=
 match t with
 |.sl es=>
  match p with
  |.view id es' off n=>bif Nat.beq es' es then C5 (rdf id) fun c=>A2 (decide (off+n*es<=c.length)) (K (.lst false es n ((c.drop off).take (n*es))) [id]) else none
  |p=>F1 es p fun _ n c=>K (.lst false es n c) []
 |t=>BG t p fun c=>K c []
def Ni (rdf:Nat->Option (List PV)):List CT->List PV->(List PV->List Nat->Option R)->Option R
 |[],[],K=>K [] []
 |t::ts,p::ps,K=>Oc rdf t p fun c m=>Ni rdf ts ps fun cs ms=>K (c::cs) (m++ms)
 |_,_,_=>none
def VG (k:Bool):List PV->List PV->List PV
  |p::ps,c::cs=>
    (match k,p with
     |true,.lst true es 0 []=>.lst true es 0 []
     |_,_=>c)::VG k ps cs
  |_,cs=>cs
def YM (P:Program)(rdf:Nat->Option (List PV)) (t:TypeId)(p:PV)(K:PV->List Nat->Option R):Option R:=
 bif B9 P t then F7 p fun ps=>Ni rdf (H7 P t) ps fun cs m=>K (.agg cs) m
 else Ni rdf (H7 P t) [p] fun cs m=>Aa cs fun c r=>Ad r (K c m)
def HI (P:Program)(rdf:Nat->Option (List PV)):List TypeId->List PV->(List PV->List Nat->Option R)->Option R
 |[],[],K=>K [] []
 |t::ts,p::ps,K=>YM P rdf t p fun v m=>HI P rdf ts ps fun vs ms=>K (v::vs) (m++ms)
 |_,_,_=>none
def Ahz (shr:Bool)(id:Nat)(t:CT)(p:PV)(K:PV->List (Nat × Bs)->Option R):Option R:=
 match t with
 |.sl es=>bif shr then F1 es p fun _ n c=>K (.lst false es n c) [] else IU es p fun n c=>K (.view id es 0 n) [(id,.ar false c)]
 |t=>BG t p fun c=>K c []
def Qa (shr:Bool)(N:Nat):Nat->List CT->List PV->(List PV->List (Nat × Bs)->Option R)->Option R
 |_,[],ps,K=>Ad ps (K [] [])
 |id,t::ts,ps,K=>Aa ps fun p ps=>Ahz shr id t p fun c b=>Qa shr N (id+N) ts ps fun cs bs=>K (c::cs) (b++bs)
def Zk (P:Program)(t:TypeId):Option TypeId:=
 match P.underlying t with
 |some (.pointer e)=>some e
 |_=>none
def UC (P:Program)(t:TypeId):Nat:=
 match Zk P t with
 |some e=>1+(H7 P e).length
 |none=>(H7 P t).length
def Aez (P:Program)(shr:Bool)(N:Nat)(id:Nat)(t:TypeId)(p:PV)(K:PV->List (Nat × Bs)->Option R):Option R:=
 match Zk P t with
 |some e=>Sn p fun ps=>Qa shr N (id+N) (H7 P e) ps fun cs bs=>K (.ptr id 0) ((id,.st cs)::bs)
 |none=>
 bif B9 P t then F7 p fun ps=>Qa shr N id (H7 P t) ps fun cs bs=>K (.agg cs) bs
 else Qa shr N id (H7 P t) [p] fun cs bs=>Aa cs fun c r=>Ad r (K c bs)
def BN (P:Program)(shr:Bool)(N:Nat):Nat->List TypeId->List PV->(List PV->List (Nat × Bs)->Option R)->Option R
 |_,[],ps,K=>Ad ps (K [] [])
 |id,t::ts,ps,K=>Aa ps fun p ps=>Aez P shr N id t p fun v bs=>BN P shr N (id+N*UC P t) ts ps fun vs bs'=>K (v::vs) (bs++bs')
def Nx (P:Program)(t:TypeId):List TypeId:=
 match P.underlying t with
 |some (.tuple ts)=>ts.toList
 |_=>[t]
def Nb (vs:List PV)(t:Bool):PV:=bif t then .tup vs else vs.headD .top
def O3 (P:Program)(t:TypeId):Bool:=
 match P.underlying t with
 |some (.tuple _)=>true
 |_=>false
def Ans (op:BinOp)(a b:Int)(K:Bool->Option R):Option R:=
 match op with
 |.eql=>K (a==b)
 |.neq=>K (a != b)
 |.lss=>K (decide (a<b))
 |.leq=>K (decide (a<=b))
 |.gtr=>K (decide (a>b))
 |.geq=>K (decide (a>=b))
 |_=>none
def IG (op:BinOp)(k:IntKind)(a b:Int)(K:PV->Option R):Option R:=
 match op with
 |.add=>Ac ((k.wrap (a+b))) fun n=>K (.sc (.int k n))
 |.sub=>Ac ((k.wrap (a-b))) fun n=>K (.sc (.int k n))
 |.mul=>Ac ((k.wrap (a*b))) fun n=>K (.sc (.int k n))
 |.quo=>A2 (decide (b≠0)) (Ac ((k.wrap (a.tdiv b))) fun n=>K (.sc (.int k n)))
 |.rem=>A2 (decide (b≠0)) (Ac ((a.tmod b)) fun n=>K (.sc (.int k n)))
 |.and=>Ac (JN k a b) fun n=>K (.sc (.int k n))
 |.or=>Ac (QM k a b) fun n=>K (.sc (.int k n))
 |.xor=>Ac (Gi k a b) fun n=>K (.sc (.int k n))
 |.andNot=>Ac (Api k a b) fun n=>K (.sc (.int k n))
 |op=>Ans op a b fun r=>K (.sc (.bool r))
def HF (op:BinOp)(x y:ByteArray)(K:PV->Option R):Option R:=
 match op with
 |.add=>A2 (decide (x.size+y.size<=9223372036854775807)) (Ac (x++y) fun s=>K (.sc (.string s)))
 |.eql=>K (.sc (.bool (x.data.toList==y.data.toList)))
 |.neq=>K (.sc (.bool !(x.data.toList==y.data.toList)))
 |.lss=>K (.sc (.bool (Op.bytesLess x.data.toList y.data.toList)))
 |.leq=>K (.sc (.bool (Op.bytesLess x.data.toList y.data.toList||x.data.toList==y.data.toList)))
 |.gtr=>K (.sc (.bool !(Op.bytesLess x.data.toList y.data.toList||x.data.toList==y.data.toList)))
 |.geq=>K (.sc (.bool !(Op.bytesLess x.data.toList y.data.toList)))
 |_=>none
def IB (e:Bool)(p:PV)(K:PV->Option R):Option R:=
 match p with
 |.sc (.slice none 0 0)=>K (.sc (.bool e))
 |.lst z _ n _=>Ba z (K (.sc (.bool e))) (Ba (decide (0<n)) (K (.sc (.bool !e))) (K .ub))
 |.view _ _ _ n=>Ba (decide (0<n)) (K (.sc (.bool !e))) (K .ub)
 |_=>none
def TQ (P:Program):List Field->Nat->Bool
 |[],_=>true
 |f::r,i=>Nat.beq f.offset i&&(f.name != "_")&&(match P.underlying f.type with|some (.int _)=>true|some .bool=>true|some .string=>true|_=>false)&&TQ P r (i+1)
def Nh (P:Program):List Field->Nat->Bool
  |[],_=>true
  |f::r,i=>Nat.beq f.offset i&&(f.name != "_") &&
    (match P.underlying f.type with
     |some (.int _)=>Nh P r (i+1)
     |some .bool=>Nh P r (i+1)
     |some .string=>Nh P r (i+1)
     |some (.struct gs)=>TQ P gs.toList 0 && !P.stoodInHeld f.type&&(P.info? f.type).isSome&&Nat.beq (Bc P f.type) gs.size&&Nh P r (i+gs.size)
     |_=>false)
def NH (P:Program)(t:TypeId)(fs:Array Field):Bool:=Nh P fs.toList 0 && !P.stoodInHeld t && !P.eqGuardType P.depth t
def fty (P:Program)(f:Field):CT:=
 match P.underlying f.type with
 |some (.int k)=>.int k
 |some .bool=>.bool
 |some .string=>.str
 |_=>.any
def UD (P:Program)(f:Field):List CT:=
 match P.underlying f.type with
 |some (.struct gs)=>gs.toList.map (fty P)
 |_=>[fty P f]
def Vu (P:Program):List Field->List CT
 |[]=>[]
 |f::r=>UD P f++Vu P r
def Kz:List CT->List PV->List PV->(Bool->Option R)->Option R
 |[],[],[],K=>K true
 |.int k::ts,p::ps,q::qs,K=>Aj k p fun a=>Aj k q fun b=>Kz ts ps qs fun r=>K ((a==b)&&r)
 |.bool::ts,p::ps,q::qs,K=>Aq p fun a=>Aq q fun b=>Kz ts ps qs fun r=>K ((a==b)&&r)
 |.str::ts,p::ps,q::qs,K=>Ar p fun a=>Ar q fun b=>Kz ts ps qs fun r=>K ((a==b)&&r)
 |_,_,_,_=>none
def Amm (P:Program)(op:BinOp)(t:TypeId)(x y:PV)(K:PV->Option R):Option R:=
 match P.underlying t with
 |some (.int k)=>
  match op with
  |.shl=>Aj k x fun a=>Ds y fun _ b=>A2 (decide (0<=b)) (Ac (Ka k a b) fun n=>K (.sc (.int k n)))
  |.shr=>Aj k x fun a=>Ds y fun _ b=>A2 (decide (0<=b)) (Ac (Ut k a b) fun n=>K (.sc (.int k n)))
  |op=>Aj k x fun a=>Aj k y fun b=>IG op k a b K
 |some .string=>Ar x fun a=>Ar y fun b=>HF op a b K
 |some .bool=>
  match op with
  |.eql=>Aq x fun a=>Aq y fun b=>K (.sc (.bool (a==b)))
  |.neq=>Aq x fun a=>Aq y fun b=>K (.sc (.bool !(a==b)))
  |_=>none
 |some (.slice _)=>
  match op,y with
  |.eql,.sc (.slice none 0 0)=>IB true x K
  |.neq,.sc (.slice none 0 0)=>IB false x K
  |_,_=>none
 |some (.map _ _)=>
  match op,x,y with
  |.eql,.sc (.map none),.sc (.map none)=>K (.sc (.bool true))
  |.neq,.sc (.map none),.sc (.map none)=>K (.sc (.bool false))
  |_,_,_=>none
 |_=>none
def Ug (P:Program)(op:BinOp)(t:TypeId)(x y:PV)(K:PV->Option R):Option R:=
 match P.underlying t with
 |some (.struct fs)=>
  match op with
  |.eql=>A2 (NH P t fs) (F7 x fun xs=>F7 y fun ys=>Kz (Vu P fs.toList) xs ys fun b=>K (.sc (.bool b)))
  |.neq=>A2 (NH P t fs) (F7 x fun xs=>F7 y fun ys=>Kz (Vu P fs.toList) xs ys fun b=>K (.sc (.bool !b)))
  |_=>none
 |_=>Amm P op t x y K
def unK (op:UnOp)(x:PV)(K:PV->Option R):Option R:=
 match op with
 |.not=>Aq x fun b=>K (.sc (.bool !b))
 |.neg=>Ds x fun k n=>Ac (k.wrap (0-n)) fun n=>K (.sc (.int k n))
 |.xor=>Ds x fun k n=>Ac (A3g k n) fun n=>K (.sc (.int k n))
 |_=>none
def Kn:List PV->Option (List UInt8)
 |[]=>some []
 |.sc (.int .u8 n)::r=>(Kn r).map (n.toNat.toUInt8 :: ·)
 |_::_=>none
def Uo:List PV->Option (List Int)
 |[]=>some []
 |.sc (.int .i32 n)::r=>(Uo r).map (n :: ·)
 |_::_=>none
def P5 (s:ByteArray):List PV:=s.data.toList.map fun b=>.sc (.int .u8 b.toNat)
def HZ (P:Program)(rdf:Nat->Option (List PV)) (d:Nat)(src dst:TypeId)(x:PV)(K:PV->List (Nat × Bs)->Option R):Option R:=
 match P.underlying dst with
 |some (.int k)=>A2 (P.underlying src).isSome (Ds x fun _ n=>Ac (k.wrap n) fun n=>K (.sc (.int k n)) [])
 |some .string=>
  match P.underlying src with
  |some .string=>Ar x fun s=>K (.sc (.string s)) []
  |some (.slice e)=>
   match P.underlying e with
   |some (.int .u8)=>RO rdf 1 x fun n c=>A2 (decide (c.length=n)) (C5 (Kn c) fun b=>K (.sc (.string ⟨b.toArray⟩)) [])
   |some (.int .i32)=>RO rdf 1 x fun n c=>A2 (decide (c.length=n)) (C5 (Uo c) fun ns=>Ac (runesBytes ns) fun s=>K (.sc (.string s)) [])
   |_=>none
  |_=>none
 |some (.slice e)=>
  match P.underlying e,P.underlying src with
  |some (.int .u8),some .string=>Ar x fun s=>A2 (decide (s.size<=1099511627776)) (K (.view d 1 0 s.size) [(d,.ar false (P5 s))])
  |_,_=>none
 |_=>none
def Gr (p:Option PV)(dflt:Nat)(K:Nat->Option R):Option R:=
 match p with
 |none=>K dflt
 |some p=>Ds p fun _ i=>A2 (decide (0<=i)) (K i.toNat)
def AE (P:Program)(rdf:Nat->Option (List PV)) (t:TypeId)(x:PV)(lo hi:Option PV)(K:PV->Option R):Option R:=
 match P.underlying t with
 |some .string=>Ar x fun s=>Gr lo 0 fun l=>Gr hi s.size fun h=>A2 (decide (l<=h)&&decide (h<=s.size)) (Ac (s.extract l h) fun s=>K (.sc (.string s)))
 |some (.slice e)=>A2 (P.info? e).isSome (
  match x with
  |.view id es off n=>A2 (Nat.beq es (Bc P e)) (Gr lo 0 fun l=>Gr hi n fun h=>A2 (decide (l<=h)&&decide (h<=n)) (Ac (off+l*es) fun o=>Ac (h-l) fun n=>K (.view id es o n)))
  |x=>F1 (Bc P e) x fun z n c=>Gr lo 0 fun l=>Gr hi n fun h=>A2 (decide (l<=h)&&decide (h<=n)) (Ac (h-l) fun n=>Ac ((c.drop (l*Bc P e)).take (n*Bc P e)) fun c=>K (.lst z (Bc P e) n c)))
 |some (.array n e)=>A2 (P.info? e).isSome (
  match x with
  |.ptr id off=>C5 (rdf id) fun c=>A2 (decide (1<=n*Bc P e)&&decide (off+n*Bc P e<=c.length)&&Nat.beq (Bc P e) 1)<|Gr lo 0 fun l=>Gr hi n fun h=>A2 (decide (l<=h)&&decide (h<=n)) (Ac (off+l*Bc P e) fun o=>Ac (h-l) fun n=>K (.view id (Bc P e) o n))
  |_=>none)
 |_=>none
def Ua (P:Program)(d:Nat)(t:TypeId)(x:PV)(lo hi mx:Option PV)(K:PV->List (Nat × Bs)->Option R):Option R:=
 match P.underlying t with
 |some (.slice e)=>A2 ((P.info? e).isSome&&hi.isSome) (
  match x with
  |.view _ es _ n=>A2 (Nat.beq es (Bc P e)) (Gr lo 0 fun l=>Gr hi n fun h=>Gr mx n fun m=>A2 (Nat.beq l m&&Nat.beq h m&&decide (m<=n)) (K (.view d (Bc P e) 0 0) [(d,.ar false [])]))
  |x=>F1 (Bc P e) x fun _ n _=>Gr lo 0 fun l=>Gr hi n fun h=>Gr mx n fun m=>A2 (Nat.beq l m&&Nat.beq h m&&decide (m<=n)) (K (.view d (Bc P e) 0 0) [(d,.ar false [])]))
 |_=>none
def Tk (x:PV)(d:Nat)(K:PV->Option R):Option R:=
 match x with
 |.ptr id off=>K (.ptr id (off+d))
 |.iptr c off=>K (.iptr c (off+d))
 |_=>none
def FV (P:Program)(e:TypeId):Bool:=(P.info? e).isSome
def Px (P:Program)(t:TypeId)(f:Nat):Option (Nat × TypeId):=
 match P.underlying t with
 |some (.struct fs)=>(fs[f]?).map fun g=>(g.offset,g.type)
 |_=>none
def Kc (P:Program)(t:TypeId)(x:PV)(i:Int)(K:PV->Option R):Option R:=
 match P.underlying t with
 |some (.array n e)=>A2 (FV P e) (A2 (decide (0<=i)&&decide (i<n)) (Tk x (i.toNat*Bc P e) K))
 |some (.slice e)=>A2 (FV P e) (
  match x with
  |.view id es off n=>A2 (Nat.beq es (Bc P e)) (A2 (decide (0<=i)&&decide (i<n)) (K (.ptr id (off+i.toNat*es))))
  |x=>F1 (Bc P e) x fun _ n c=>A2 (decide (0<=i)&&decide (i<n)) (K (.iptr c (i.toNat*Bc P e))))
 |_=>none
def Xc (P:Program)(rdf:Nat->Option (List PV)) (t:TypeId)(x:PV)(K:PV->Option R):Option R:=
 match x with
 |.ptr id off=>A2 (Ir P t) (C5 (rdf id) fun c=>Od (H7 P t) c off fun cs=>mkV (B9 P t) cs K)
 |.iptr c off=>A2 (Ir P t) (R7 (H7 P t) c off fun cs=>mkV (B9 P t) cs K)
 |_=>none
def OG:PV->PV
 |.lst _ es n c=>.lst false es n c
 |p=>p
def YW:PV->PV
 |.agg cs=>.agg (cs.map OG)
 |p=>OG p
def Y4 (nz:Bool)(P:Program)(rdf rdaf:Nat->Option (List PV)) (t:TypeId)(x:PV)(K:PV->Option R):Option R:=
 match x with
 |.ptr id off=>A2 (Ir P t) (
  match rdaf id with
  |some c=>R7 (H7 P t) c off fun cs=>mkV (B9 P t) cs fun v=>K (bif nz then v else YW v)
  |none=>C5 (rdf id) fun c=>Od (H7 P t) c off fun cs=>mkV (B9 P t) cs K)
 |.iptr c off=>A2 (Ir P t) (R7 (H7 P t) c off fun cs=>mkV (B9 P t) cs fun v=>K (bif nz then v else YW v))
 |_=>none
def Ca (cells new:List PV)(off:Nat):List PV:=cells.take off++new++cells.drop (off+new.length)
def okP:PV->Bool
 |.agg _=>true
 |.lst _ _ _ _=>true
 |.view _ _ _ _=>true
 |.sc (.int _ _)=>true
 |.sc (.bool _)=>true
 |.sc (.string _)=>true
 |.sc (.slice none 0 0)=>true
 |_=>false
def Sy (Gu:Nat->Option (Nat × Nat)):List (Nat × PV)->List PV->(List PV->Option R)->Option R
 |[],cells,K=>K cells
 |(i,p)::r,cells,K=>C5 (Gu i) fun q=>A2 (okP p&&Nat.beq (cellsOf p).length q.2&&Nat.ble (q.1+q.2) cells.length) (Ac (Ca cells (cellsOf p) q.1) fun cells=>Sy Gu r cells K)
def Rf (P:Program)(t:TypeId)(i:Nat):Option (Nat × Nat):=
 match P.underlying t with
 |some (.struct fs)=>(fs[i]?).map fun f=>(f.offset,Bc P f.type)
 |some (.array _ e)=>some (i*Bc P e,Bc P e)
 |some (.slice e)=>some (i*Bc P e,Bc P e)
 |_=>none
def P8 (P:Program)(t:TypeId):Bool:=
 match P.underlying t with
 |some (.struct fs)=>fs.toList.all fun f=>FV P f.type
 |some (.array _ e)=>FV P e
 |some (.slice e)=>FV P e
 |_=>false
def Pn (P:Program)(t:TypeId):Option Value:=(P.info? t).bind (·.zero)
def Gv (P:Program)(t:TypeId)(K:List PV->Option R):Option R:=
 C5 (Pn P t) fun v=>A2 (Nat.beq v.cells.toList.length (H7 P t).length&&Ir P t) (R7 (H7 P t) (v.cells.toList.map .sc) 0 K)
def S8 (P:Program)(t:TypeId):Bool:=
 match P.underlying t with
 |some (.array _ _)=>true
 |_=>false
def Ajf (P:Program)(t:TypeId)(cells:List PV):Bs:=bif S8 P t then .ar false cells else .st cells
def Rp (n:Nat)(l:List PV):List PV:=(List.replicate n l).flatten
def An3 (a b:PV)(K:PV->Option R):Option R:=Ds a fun k x=>Aj k b fun y=>Ac (if y<x then y else x) fun n=>K (.sc (.int k n))
def An4 (a b:PV)(K:PV->Option R):Option R:=Ds a fun k x=>Aj k b fun y=>Ac (if x<y then y else x) fun n=>K (.sc (.int k n))
def Af2 (P:Program)(t:TypeId)(x:PV)(K:Nat->Option R):Option R:=
 match P.underlying t with
 |some .string=>Ar x fun s=>K s.size
 |some (.array n _)=>K n
 |some (.slice e)=>
  match x with
  |.view _ es _ n=>A2 (Nat.beq es (Bc P e)) (K n)
  |x=>F1 (Bc P e) x fun _ n _=>K n
 |_=>none
end
abbrev Am:=FuncId->List PV->Option Ap
section
variable {R:Type}
def Jk (P:Program)(ts:List TypeId):Bool:=ts.any fun t=>(Zk P t).isSome||(H7 P t).any fun c=>match c with | .sl _=>true|_=>false
def Z4 (P:Program)(t:TypeId)(tm:Nat->PV)(x:Operand)(K:PV->Option R):Option R:=
 match x with
 |.const v=>cvK P t v K
 |x=>K (B3 tm x)
def PH (P:Program)(e:TypeId):Bool:=
 match P.info? e with
 |some i=>(match i.zero with|some z=>Nat.beq z.cells.size i.size|none=>false)
 |none=>false
def ZW (P:Program)(rdaf:Nat->Option (List PV)) (es:Nat)(t:TypeId)(x:PV)(K:Nat->List PV->Option R):Option R:=
 match P.underlying t with
 |some .string=>A2 (Nat.beq es 1) (Ar x fun b=>K b.size (P5 b))
 |some (.slice _)=>RO rdaf es x K
 |_=>none
abbrev ZJ (P:Program)(s:St)(es:Nat)(t:TypeId)(x:PV)(K:Nat->List PV->Option R):Option R:=ZW P (Jp s.hp) es t x K
def Zl (c:Call):Bool:=
 match c.args.toList with
 |.const (.slice none 0 0)::_=>true
 |_=>false
def Ul (P:Program)(rdaf:Nat->Option (List PV)) (d:Nat)(t tx:TypeId)(x:PV)(K:PV->List (Nat × Bs)->Option R):Option R:=
 match P.underlying t with
 |some (.slice e)=>A2 (PH P e) <|
  ZW P rdaf (Bc P e) tx x fun m new=>
   A2 (decide (new.length=m*Bc P e)&&decide (m*((P.info? e).map (·.bytes)).getD 0<=1099511627776)&&decide (m<=1099511627776)) (K (.view d (Bc P e) 0 m) [(d,.ar false new)])
 |_=>none
def Ji (k:Bool):List Operand->List PV->List PV
  |x::xs,p::ps=>
    (match x,p with
     |.const (.slice none 0 0),.lst z es 0 []=>.lst (k||z) es 0 []
     |_,p=>p)::Ji k xs ps
  |_,ps=>ps
def Af5 (P:Program)(t:TypeId)(x:PV)(K:Nat->Option R):Option R:=
 match P.underlying t with
 |some (.slice e)=>F1 (Bc P e) x fun z _ _=>A2 z (K 0)
 |_=>none
def HB (P:Program)(f:FuncId)(c:Call):List TypeId:=
 match P.funcs[f]? with
 |some fn=>fn.params.toList
 |none=>c.argTypes.toList
def HS (C:G1)(P:Program)(N:Nat)(call:Am)(tm:Nat->PV)(rdaf:Nat->Option (List PV)) (o:Oper)(c:Call)(f:FuncId)(K:PV->List Nat->List (Nat × Bs)->Option R):Option R:=
 HI P rdaf (HB P f c) (c.args.toList.map (B3 tm)) fun vs m=>
  Ah (call f (Ji (C.kz f) c.args.toList vs)) fun rv ro=>Ad ro (A2 (Nat.blt 0 N)<|BN P (C.shr f) N (o.dst.getD 0) (Nx P o.type) rv fun ws bs=>
   A2 (bif O3 P o.type then !Nat.beq ws.length 1 else Nat.beq ws.length 1)<|K (Nb ws (O3 P o.type)) (bif Jk P (Nx P o.type) then m else []) bs)
def HT (C:G1)(P:Program)(N:Nat)(call:Am)(tm:Nat->PV)(rdf rdaf:Nat->Option (List PV)) (o:Oper)(K:PV->List Nat->List (Nat × Bs)->Option R):Option R:=
  match o.op with
  |.move x=>Z4 P o.type tm x fun p=>K p [] []
  |.assign x=>Z4 P o.type tm x fun p=>K p [] []
  |.pick c a b=>Aq (B3 tm c) fun t=>Ba t (K (B3 tm a) [] []) (K (B3 tm b) [] [])
  |.alloc t=>C5 o.dst fun d=>Gv P t fun cs=>K (.ptr d 0) [] [(d,Ajf P t cs)]
  |.box t x=>C5 o.dst fun d=>A2 (Ir P t&&Nat.beq (cellsOf (B3 tm x)).length (H7 P t).length)
      (bif S8 P t then R7 (H7 P t) (cellsOf (B3 tm x)) 0 fun cs=>K (.ptr d 0) [] [(d,.ar false cs)]
       else Od (H7 P t) (cellsOf (B3 tm x)) 0 fun cs=>K (.ptr d 0) [] [(d,.st cs)])
  |.build t ps=>A2 (P8 P t&&B9 P t)<|Gv P t fun z=>Sy (Rf P t) (ps.toList.map fun q=>(q.1,B3 tm q.2)) z fun cs=>Od (H7 P t) cs 0 fun cs'=>K (.agg cs') [] []
  |.buildSlice t n ps=>C5 o.dst fun d=>
      match P.underlying t with
      |some (.slice e)=>A2 (P8 P t&&Nat.ble (n*Bc P e) 16777216) (Gv P e fun z=>Sy (Rf P t) (ps.toList.map fun q=>(q.1,B3 tm q.2)) (Rp n z) fun cs=>
          Ni rdaf (List.replicate n (H7 P e)).flatten cs fun cs' m=>K (.view d (Bc P e) 0 n) m [(d,.ar false (bif C.nz N then VG true cs cs' else cs'))])
      |_=>none
  |.load t a=>Y4 (C.nz N) P rdf rdaf t (B3 tm a) fun v=>K v [] []
  |.nilCheck x=>Tk (B3 tm x) 0 fun p=>K p [] []
  |.binOp op t x y _=>
      Ug P op t (B3 tm x) (B3 tm y) fun v=>K v [] []
  |.unOp op _ x=>unK op (B3 tm x) fun v=>K v [] []
  |.convert src dst x=>HZ P rdaf (o.dst.getD 0) src dst (B3 tm x) fun v b=>C5 o.dst fun _=>K v [] b
  |.makeSlice t l c=>C5 o.dst fun d=>
      match P.underlying t with
      |some (.slice e)=>Ds (B3 tm l) fun _ n=>Ds (B3 tm c) fun _ m=>
          A2 (decide (0<=n)&&decide (n<=m)&&decide (m*((P.info? e).map (·.bytes)).getD 0<=1099511627776)&&decide (m<=1099511627776))
            (Gv P e fun z=>K (.view d (Bc P e) 0 n.toNat) [] [(d,.ar false (Rp n.toNat z))])
      |_=>none
  |.slice t x lo hi mx=>
      match mx with
      |none=>AE P rdf t (B3 tm x) (lo.map (B3 tm)) (hi.map (B3 tm)) fun v=>K v [] []
      |some m=>C5 o.dst fun d=>Ua P d t (B3 tm x) (lo.map (B3 tm)) (hi.map (B3 tm)) (some (B3 tm m)) fun v nw=>K v [] nw
  |.fieldAddr t x f=>C5 (Px P t f) fun q=>A2 (Nat.ble 1 (Bc P q.2)) (Tk (B3 tm x) q.1 fun p=>K p [] [])
  |.field t x f=>C5 (Px P t f) fun q=>A2 (Ir P q.2)<|F7 (B3 tm x) fun cs=>Od (H7 P q.2) cs q.1 fun c=>mkV (B9 P q.2) c fun v=>K v [] []
  |.indexAddr t x i=>Ds (B3 tm i) fun _ n=>Kc P t (B3 tm x) n fun p=>K p [] []
  |.index t x i=>Ds (B3 tm i) fun _ n=>
      match P.underlying t with
      |some .string=>Ar (B3 tm x) fun s=>A2 (decide (0<=n)) (C5 (s.data.toList[n.toNat]?) fun b=>K (.sc (.int .u8 b.toNat)) [] [])
      |some (.array len e)=>F7 (B3 tm x) fun cs=>A2 (decide (0<=n)&&decide (n<len)&&Ir P e) (Od (H7 P e) cs (n.toNat*Bc P e) fun c=>mkV (B9 P e) c fun v=>K v [] [])
      |_=>none
  |.lookup t x k ok=>
      match P.underlying t with
      |some (.map kt vt)=>A2 (match P.underlying kt with|some .string=>true|_=>false) (
        match B3 tm x with
        |.sc (.map none)=>Ar (B3 tm k) fun _=>C5 (Pn P vt) fun z=>cvK P vt z fun v=>A2 (match v with | .tup _=>false|_=>true) (K (bif ok then .tup [v,.sc (.bool false)] else v) [] [])
        |_=>none)
      |_=>none
  |.extract x i=>
      match B3 tm x with
      |.tup vs=>C5 vs[i]? fun p=>K p [] []
      |_=>none
  |.call c=>
      match c.callee with
      |.builtin .len=>Aa c.args.toList fun x _=>Aa c.argTypes.toList fun t _=>Af2 P t (B3 tm x) fun n=>K (.sc (.int .i64 n)) [] []
      |.builtin .cap=>Aa c.args.toList fun x _=>Aa c.argTypes.toList fun t _=>Af5 P t (B3 tm x) fun n=>K (.sc (.int .i64 n)) [] []
      |.builtin .min=>Aa c.args.toList fun x r=>Aa r fun y r'=>Ad r' (An3 (B3 tm x) (B3 tm y) fun v=>K v [] [])
      |.builtin .max=>Aa c.args.toList fun x r=>Aa r fun y r'=>Ad r' (An4 (B3 tm x) (B3 tm y) fun v=>K v [] [])
      |.builtin .append=>A2 (Zl c) (C5 o.dst fun d=>Aa c.args.toList fun _ r=>Aa r fun x r'=>Ad r' (Aa c.argTypes.toList fun t u=>Aa u fun tx _=>Ul P rdaf d t tx (B3 tm x) fun v nw=>K v [] nw))
      |.value (.func f)=>HS C P N call tm rdaf o c f K
      |.value (.tmp t)=>fvK (tm t) fun f=>HS C P N call tm rdaf o c f K
      |_=>none
  |_=>none
def Rh (C:G1)(P:Program)(o:Op):Bool:=
 match o with
 |.store .. =>true
 |.call c=>
  match c.callee with
  |.builtin .append=> !Zl c
  |.builtin .copy=>true
  |.builtin _=>false
  |.value (.func f)=>((HB P f c).any fun t=>(Zk P t).isSome)||((HB P f c).zipIdx.any fun q=>C.mvd f q.2||C.lnd f q.2)
  |_=>false
 |_=>false
def Tm (b:Bs):Bs:=
 match b with
 |.ar _ c=>.ar true c
 |b=>b
def Ag (hp:Nat->Option Bs)(ids:List Nat):Nat->Option Bs:=fun i=>bif ids.any (Nat.beq i) then (hp i).map Tm else hp i
def At (hp:Nat->Option Bs):List (Nat × Bs)->Nat->Option Bs
 |[]=>hp
 |(i,b)::r=>At (Cs hp i (some b)) r
def Bw (hp:Nat->Option Bs):List (Nat × Bs)->Bool
 |[]=>true
 |(i,_)::r=>(hp i).isNone && !(r.any fun q=>Nat.beq q.1 i)&&Bw hp r
def Bp (tm:Nat->PV)(d:Option Tmp)(v:PV):Nat->PV:=
 match d with
 |some i=>Cs tm i v
 |none=>tm
def Gb (N:Nat)(d:Option Tmp):Bool:=
 match d with
 |some i=>Nat.blt i N
 |none=>true
def Z3 (N:Nat)(s:St)(d:Option Tmp)(v:PV)(fz:List Nat)(nw:List (Nat × Bs)) (K:St->Option R):Option R:=
 A2 (Gb N d&&Bw s.hp nw) (K ⟨Bp s.tm d v,At (Ag s.hp fz) nw⟩)
def AR (P:Program)(s:St)(t:TypeId)(a x:PV)(K:St->Option R):Option R:=
 match a with
 |.ptr id off=>
  match s.hp id with
  |some (.st c)=>A2 (Ir P t&&Nat.beq (cellsOf x).length (H7 P t).length&&decide (off+(H7 P t).length<=c.length)) (Od (H7 P t) (cellsOf x) 0 fun cs=>Ac (Ca c cs off) fun c=>K ⟨s.tm,Cs s.hp id (some (.st c))⟩)
  |some (.ar false c)=>A2 (Ir P t&&decide (off+(H7 P t).length<=c.length)) (Ni (Jp s.hp) (H7 P t) (cellsOf x) fun cs m=>A2 (!m.any (Nat.beq id)) (Ac (Ca c cs off) fun c=>K ⟨s.tm,Cs (Ag s.hp m) id (some (.ar false c))⟩))
  |_=>none
 |_=>none
def Y5 (P:Program)(t:TypeId):Bool:=
 match P.underlying t with
 |some (.int _)=>true
 |_=>false
def Tf (P:Program)(N:Nat)(s:St)(d:Nat)(e:TypeId)(b x:PV)(K:St->Option R):Option R:=
 Ds x fun _ n=>F1 (Bc P e) b fun z _ _=>
  A2 (z&&Nat.blt d N&&(s.hp d).isNone&&decide (0<=n)&&decide (n.toNat*((P.info? e).map (·.bytes)).getD 0<=1099511627776)&&decide (n<=1099511627776))
   (K ⟨Cs s.tm d (.view d (Bc P e) 0 n.toNat),Cs s.hp d (some (.ar false []))⟩)
def Ov (P:Program)(N:Nat)(s:St)(d:Nat)(t tx:TypeId)(b x:PV)(K:St->Option R):Option R:=
 match P.underlying t with
 |some (.slice e)=>A2 (PH P e) <|
  bif Y5 P tx then Tf P N s d e b x K else
  ZJ P s (Bc P e) tx x fun m new=>
  match b with
  |.view id es off n=>
   match s.hp id with
   |some (.ar false c)=>
    A2 (Nat.beq es (Bc P e)&&Nat.beq off 0&&Nat.blt d N&&(s.hp d).isNone&&decide (n*es<=c.length)&&decide (new.length=m*es)
     && decide ((n+m)*((P.info? e).map (·.bytes)).getD 0<=1099511627776)&&decide (n+m<=1099511627776))
     (Ac (n+m) fun n'=>Ac (c.take (n*es)++new) fun c=>K ⟨Cs s.tm d (.view d es 0 n'),Cs (Cs s.hp id (some .mv)) d (some (.ar false c))⟩)
   |_=>none
  |b=>F1 (Bc P e) b fun z _ _=>
    A2 (z&&Nat.blt d N&&(s.hp d).isNone&&decide (new.length=m*Bc P e)&&decide (m*((P.info? e).map (·.bytes)).getD 0<=1099511627776)&&decide (m<=1099511627776))
     (K ⟨Cs s.tm d (.view d (Bc P e) 0 m),Cs s.hp d (some (.ar false new))⟩)
 |_=>none
def LU (P:Program)(N:Nat)(s:St)(d:Option Tmp)(t tx:TypeId)(b x:PV)(K:St->Option R):Option R:=
 match P.underlying t with
 |some (.slice e)=>A2 (FV P e&&Gb N d) <|
  ZJ P s (Bc P e) tx x fun m new=>
  match b with
  |.view id es off n=>
   match s.hp id with
   |some (.ar false c)=>A2 (Nat.beq es (Bc P e)&&decide (off+n*es<=c.length)&&decide (new.length=m*es))
     (Ac (min m n) fun k=>Ac (Ca c (new.take (k*es)) off) fun c=>K ⟨Bp s.tm d (.sc (.int .i64 k)),Cs s.hp id (some (.ar false c))⟩)
   |_=>none
  |_=>none
 |_=>none
def Aeu (mv:Bool)(hp:Nat->Option Bs)(t:CT)(p:PV)(K:PV->List Nat->List Nat->Option R):Option R:=
 match t with
 |.sl es=>
  bif mv then
   match p with
   |.view id es' off n=>
    match hp id with
    |some (.ar false c)=>
     bif Nat.beq es' es&&Nat.beq off 0 then A2 (decide (n*es<=c.length)) (K (.own es n (c.take (n*es))) [] [id])
     else Oc (Jp hp) (.sl es) (.view id es' off n) fun c m=>K c m []
    |_=>Oc (Jp hp) (.sl es) (.view id es' off n) fun c m=>K c m []
   |p=>F1 es p fun z n c=>bif z then K (.own es 0 []) [] [] else K (.lst false es n c) [] []
  else Oc (Jp hp) (.sl es) p fun c m=>K c m []
 |t=>BG t p fun c=>K c [] []
def CC (mv:Bool)(hp:Nat->Option Bs):List CT->List PV->(List PV->List Nat->List Nat->Option R)->Option R
 |[],[],K=>K [] [] []
 |t::ts,p::ps,K=>Aeu mv hp t p fun c m x=>CC mv hp ts ps fun cs ms xs=>K (c::cs) (m++ms) (x++xs)
 |_,_,_=>none
inductive Gm where
 |var (id off:Nat) (cts:List CT) (ws:List PV)
 |row (id:Nat)
 |none
def Gm.ids:Gm->List Nat
 |.var id _ _ _=>[id]
 |.row id=>[id]
 |.none=>[]
def A3i (P:Program)(t:TypeId):Option TypeId:=
 match P.underlying t with
 |some (.slice e)=>some e
 |_=>none
def Ah3 (hp:Nat->Option Bs)(es:Nat)(p:PV)(K:PV->List Gm->Option R):Option R:=
 match p with
 |.view id es' off n=>
  match hp id with
  |some (.ar false c)=>A2 (Nat.beq es' es&&Nat.beq off 0) (K (.tup [.own es n c]) [.row id])
  |_=>none
 |p=>F1 es p fun z _ _=>A2 z (K (.tup [.own es 0 []]) [.none])
def AQ (C:G1)(P:Program)(f:FuncId)(hp:Nat->Option Bs)(i:Nat)(t:TypeId)(p:PV)(K:PV->List Nat->List Nat->List Gm->Option R):Option R:=
 match Zk P t with
 |some e=>
  match p with
  |.ptr id off=>
   match hp id with
   |some (.st c)=>A2 (Ir P e&&decide (off+(H7 P e).length<=c.length)) (CC (C.mvd f i) hp (H7 P e) ((c.drop off).take (H7 P e).length) fun cs m x=>K (.pbox cs) m x [.var id off (H7 P e) cs])
   |_=>none
  |_=>none
 |none=>
  bif C.lnd f i then C5 (A3i P t) fun e=>Ah3 hp (Bc P e) p fun v l=>K v [] [] l
  else bif B9 P t then F7 p fun ps=>CC (C.mvd f i) hp (H7 P t) ps fun cs m x=>K (.agg cs) m x []
  else CC (C.mvd f i) hp (H7 P t) [p] fun cs m x=>Aa cs fun c r=>Ad r (K c m x [])
def LT (C:G1)(P:Program)(f:FuncId)(hp:Nat->Option Bs):Nat->List TypeId->List PV->(List PV->List Nat->List Nat->List Gm->Option R)->Option R
 |_,[],[],K=>K [] [] [] []
 |i,t::ts,p::ps,K=>AQ C P f hp i t p fun v m x l=>LT C P f hp (i+1) ts ps fun vs ms xs ls=>K (v::vs) (m++ms) (x++xs) (l++ls)
 |_,_,_,_=>none
def Ts (hp:Nat->Option Bs)(ids:List Nat):Nat->Option Bs:=fun i=>bif ids.any (Nat.beq i) then (hp i).map (fun _=>Bs.mv) else hp i
def WU (N t:Nat):Nat:=N*(1000+t)
def RG (N:Nat)(hp:Nat->Option Bs):Nat->Nat->Nat
 |0,t=>t
 |k+1,t=>bif (hp (WU N t)).isNone then t else RG N hp k (t+1)
def Adt (N t:Nat)(ct:CT)(was p:PV)(K:Nat->PV->List (Nat × Bs)->Option R):Option R:=
 match ct with
 |.sl es=>
  match was with
  |.own _ _ _=>IU es p fun n c=>K (t+1) (.view (WU N t) es 0 n) [(WU N t,.ar false c)]
  |_=>F1 es p fun _ n c=>K t (.lst false es n c) []
 |ct=>BG ct p fun c=>K t c []
def LY (N:Nat):Nat->List CT->List PV->List PV->(Nat->List PV->List (Nat × Bs)->Option R)->Option R
 |t,[],[],ps,K=>Ad ps (K t [] [])
 |t,ct::cts,w::ws,ps,K=>Aa ps fun p ps=>Adt N t ct w p fun t' c b=>LY N t' cts ws ps fun t'' cs bs=>K t'' (c::cs) (b++bs)
 |_,_,_,_,_=>none
def Wy (N:Nat):Nat->List Gm->List (List PV)->(Nat->Option Bs)->((Nat->Option Bs)->List (Nat × Bs)->Option R)->Option R
 |_,[],ro,hp,K=>Ad ro (K hp [])
 |t,.var id off cts ws::l,ro,hp,K=>Aa ro fun cs ro=>LY N t cts ws cs fun t' cs' bs=>
   match hp id with
   |some (.st c)=>Ac (Ca c cs' off) fun c=>Wy N t' l ro (Cs hp id (some (.st c))) fun Cy bs'=>K Cy (bs++bs')
   |_=>none
 |t,.row id::l,ro,hp,K=>Aa ro fun cs ro=>Wy N t l ro (Cs hp id (some (.ar false cs))) K
 |t,.none::l,ro,hp,K=>Aa ro fun _ ro=>Wy N t l ro hp K
def D9:List Nat->Bool
 |[]=>true
 |a::r=> !(r.any (Nat.beq a))&&D9 r
def Z1 (C:G1)(P:Program)(N:Nat)(call:Am)(s:St)(o:Oper)(f:FuncId)(c:Call)(K:St->Option R):Option R:=
 LT C P f s.hp 0 (HB P f c) (c.args.toList.map (B3 s.tm)) fun vs m x l=>
  A2 (D9 (l.flatMap Gm.ids++x)&&m.all (fun i=> !((l.flatMap Gm.ids++x).any (Nat.beq i)))&&Nat.blt 0 N&&Gb N o.dst) <|
  Ah (call f (Ji (C.kz f) c.args.toList vs)) fun rv ro=>
   BN P (C.shr f) N (o.dst.getD N) (Nx P o.type) rv fun ws bs=>
    A2 (bif O3 P o.type then !Nat.beq ws.length 1 else Nat.beq ws.length 1) <|
    A63 (RG N s.hp 100 0) fun t0=>Wy N t0 l ro (Ts (Ag s.hp m) x) fun Cy bs'=>
     A2 (Bw Cy (bs++bs')) (K ⟨Bp s.tm o.dst (Nb ws (O3 P o.type)),At Cy (bs++bs')⟩)
def Uz (C:G1)(P:Program)(N:Nat)(call:Am)(s:St)(o:Oper)(K:St->Option R):Option R:=
 match o.op with
 |.store t a x=>A2 (o.dst.isNone) (AR P s t (B3 s.tm a) (B3 s.tm x) K)
 |.call c=>
  match c.callee with
  |.builtin .append=>C5 o.dst fun d=>Aa c.args.toList fun b r=>Aa r fun x r'=>Ad r' (Aa c.argTypes.toList fun t u=>Aa u fun tx _=>Ov P N s d t tx (B3 s.tm b) (B3 s.tm x) K)
  |.builtin .copy=>Aa c.args.toList fun b r=>Aa r fun x r'=>Ad r' (Aa c.argTypes.toList fun t u=>Aa u fun tx _=>LU P N s o.dst t tx (B3 s.tm b) (B3 s.tm x) K)
  |.value (.func f)=>Z1 C P N call s o f c K
  |_=>none
 |_=>none
def SP (C:G1)(P:Program)(N:Nat)(call:Am)(o:Oper)(s:St)(K:St->Option R):Option R:=
 bif Rh C P o.op then Uz C P N call s o K
 else HT C P N call s.tm (rd s.hp) (Jp s.hp) o fun v fz nw=>Z3 N s o.dst v fz nw K
def Dt (C:G1)(P:Program)(N:Nat)(call:Am)(ops:Array Oper)(o:Oper)(s:St)(K:St->Option R):Option R:=
 match o.guard with
 |none=>SP C P N call o s K
 |some (j,want)=>
  match (ops[j]?).bind (·.dst) with
  |none=>none
  |some d=>
   match s.tm d with
   |.sc (.bool b)=>
    Ba b (bif want then SP C P N call o ⟨Cs s.tm d (.sc (.bool true)),s.hp⟩ K else A2 (Gb N o.dst) (K ⟨Bp (Cs s.tm d (.sc (.bool true))) o.dst (.sc undef),s.hp⟩))
     (bif want then A2 (Gb N o.dst) (K ⟨Bp (Cs s.tm d (.sc (.bool false))) o.dst (.sc undef),s.hp⟩) else SP C P N call o ⟨Cs s.tm d (.sc (.bool false)),s.hp⟩ K)
   |.sc (.tuple _)=>A2 (Gb N o.dst) (K ⟨Bp s.tm o.dst (.sc undef),s.hp⟩)
   |_=>none
def Nf (C:G1)(P:Program)(N:Nat)(call:Am)(ops:Array Oper):List Oper->St->(St->Option R)->Option R
 |[],s,K=>K s
 |o::r,s,K=>Dt C P N call ops o s fun s'=>Nf C P N call ops r s' K
noncomputable def KE (x y:Option R):Option R:=open Classical in if x=y then x else none
noncomputable def XQ (ops:Array Oper)(o:Oper)(s:St)(F:St->Option R):Option R:=
 match o.guard with
 |none=>F s
 |some (j,_)=>
  match (ops[j]?).bind (·.dst) with
  |none=>F s
  |some d=>
   match s.tm d with
   |.ub=>KE (F ⟨Cs s.tm d (.sc (.bool true)),s.hp⟩) (F ⟨Cs s.tm d (.sc (.bool false)),s.hp⟩)
   |_=>F s
noncomputable def PS (C:G1)(P:Program)(N:Nat)(call:Am)(ops:Array Oper):List Oper->St->(St->Option R)->Option R
 |[],s,K=>K s
 |o::r,s,K=>XQ ops o s fun s1=>Dt C P N call ops o s1 fun s'=>PS C P N call ops r s' K
end
def Ahs (o:Oper):List Nat:=o.op.operands.toList.filterMap fun x=>match x with | .tmp t=>some t|_=>none
def looks (ops:Array Oper)(o:Oper):List Nat:=
 Ahs o++(match o.guard with|some (g,_)=>((ops[g]?).bind (·.dst)).toList|none=>[])
def Hp (P:Program)(o:Op):Bool:=
 match o with
 |.slice t .. =>match P.underlying t with|some (.array _ _)=>true|_=>false
 |.buildSlice t _ _=>match P.underlying t with|some (.slice e)=>Jk P [e]|_=>true
 |.convert _ dst _=>match P.underlying dst with|some .string=>true|_=>false
 |.alloc _ | .box .. | .makeSlice .. =>false
 |.move _ | .assign _ | .pick .. | .build .. | .binOp .. | .unOp .. | .fieldAddr .. | .field .. | .index .. | .indexAddr .. | .extract .. | .nilCheck _=>false
 |.call c=>match c.callee with | .builtin .len=>false | .builtin .min=>false | .builtin .max=>false|_=>true
 |_=>true
def GD (C:G1)(P:Program)(ops:Array Oper)(x y:Oper):Bool:=
 (match x.dst with|some d=>(looks ops y).any (Nat.beq d)||(match y.dst with|some e=>Nat.beq d e|none=>false)|none=>false) ||
 (match y.dst with|some e=>(looks ops x).any (Nat.beq e)|none=>false) ||
 (Rh C P x.op&&Hp P y.op)||(Rh C P y.op&&Hp P x.op)
def Ic (ops:List Oper):List Nat->List Nat
 |acc=>match ops with
  |[]=>acc
  |o::r=>Ic r (acc++[o.after.toList.foldl (fun s e=>bif Region.binds .any e then s ||| 2 ^ e.on ||| acc.getD e.on 0 else s) 0])
def EL (C:G1)(P:Program)(ops:Array Oper)(bs:List Nat):List Oper->Nat->Bool
 |[],_=>true
 |o::r,i=>(ops.toList.zipIdx.all fun q=> !Nat.blt q.2 i || !GD C P ops q.1 o||(bs.getD i 0).testBit q.2)&&EL C P ops bs r (i+1)
def NA (C:G1)(P:Program)(ops:Array Oper):Bool:=
 ops.toList.zipIdx.all (fun q=>q.1.after.toList.all fun e=> !Region.binds .any e||Nat.blt e.on q.2)&&EL C P ops (Ic ops.toList []) ops.toList 0
def As:PV->List Nat
 |.view id _ _ _=>[id]
 |.ptr id _=>[id]
 |_=>[]
def Cf:PV->List Nat
 |.agg cs=>cs.flatMap As
 |p=>As p
def Bx:PV->List Nat
 |.tup ps=>ps.flatMap Cf
 |p=>Cf p
def Su (P:Program)(o:Op):Bool:=
 match o with
 |.load .. =>true
 |.convert _ dst _=>(match P.underlying dst with|some .string=>true|_=>false)
 |_=>false
def M9 (o:Op):Bool:=
 match o with
 |.call c=>(match c.callee with | .builtin .append=> !Zl c|_=>false)
 |_=>false
def Ak1 (ops:Array Oper)(x y:Oper):Bool:=
 (match x.dst with|some d=>(looks ops y).any (Nat.beq d)||(match y.dst with|some e=>Nat.beq d e|none=>false)|none=>false) ||
 (match y.dst with|some e=>(looks ops x).any (Nat.beq e)|none=>false)
def Rd (C:G1)(P:Program)(x y:Oper):Bool:=(Rh C P x.op&&Hp P y.op)||(Rh C P y.op&&Hp P x.op)
def Jw (C:G1)(P:Program)(x y:Oper):Bool:=(Rh C P x.op&&Su P y.op)||(Rh C P y.op&&Su P x.op)||(M9 x.op&&M9 y.op)
def Akj (C:G1)(P:Program)(ops:Array Oper)(x y:Oper):Bool:=Ak1 ops x y||(Rd C P x y && !Jw C P x y)
def Yr (C:G1)(P:Program)(ops:Array Oper)(bs:List Nat):List Oper->Nat->Bool
 |[],_=>true
 |o::r,i=>(ops.toList.zipIdx.all fun q=> !Nat.blt q.2 i || !Akj C P ops q.1 o||(bs.getD i 0).testBit q.2)&&Yr C P ops bs r (i+1)
def EU (C:G1)(P:Program)(ops:Array Oper):Bool:=
 ops.toList.zipIdx.all (fun q=>q.1.after.toList.all fun e=> !Region.binds .any e||Nat.blt e.on q.2)&&Yr C P ops (Ic ops.toList []) ops.toList 0
def Lx (C:G1)(P:Program)(s:St)(o:Oper):List Nat:=
 let l:=o.op.operands.toList.flatMap fun y=>Bx (B3 s.tm y)
 bif Rh C P o.op && !M9 o.op then l++l.flatMap (fun i=>match s.hp i with|some (.st c)=>c.flatMap As|_=>[])
 else bif Su P o.op||M9 o.op then l else []
def Adc (a b:List Nat):Bool:=a.all fun i=> !b.any (Nat.beq i)
def Ze (C:G1)(P:Program)(ops:Array Oper)(bs:List Nat)(i:Nat)(o:Oper):List Nat:=
 (ops.toList.zipIdx.filter fun q=>Jw C P q.1 o && !(Nat.blt q.2 i&&(bs.getD i 0).testBit q.2) && !(Nat.blt i q.2&&(bs.getD q.2 0).testBit i)).map (·.2)
def CQ (C:G1)(P:Program)(ops:Array Oper)(bs:List Nat):List (List Nat):=ops.toList.zipIdx.map fun q=>Ze C P ops bs q.2 q.1
def DL (C:G1)(P:Program)(sm:List (List Nat)) (s:St)(i:Nat)(o:Oper):List Nat:=
 match sm.getD i [] with
 |[]=>[]
 |_::_=>Lx C P s o
def KB (C:G1)(P:Program)(sm:List (List Nat)) (s:St)(i:Nat)(o:Oper)(q:Nat × Oper × List Nat):Bool:=
 !((sm.getD i []).any (Nat.beq q.1))||Adc q.2.2 (DL C P sm s i o)
def H3 {R:Type}(C:G1)(P:Program)(N:Nat)(call:Am)(ops:Array Oper)(sm:List (List Nat)):List (Nat × Oper × List Nat)->List Nat->St->(St->Option R)->Option R
 |_,[],s,K=>K s
 |dn,i::l,s,K=>C5 ops[i]? fun o=>A2 (dn.all (KB C P sm s i o)&&(DL C P sm s i o).all (fun k=>(s.hp k).isSome)) (Dt C P N call ops o s fun s'=>H3 C P N call ops sm ((i,o,DL C P sm s i o)::dn) l s' K)
def Akb (m i:Nat):Nat:=m ||| 2 ^ i
def Bac (m i:Nat):Nat:=bif m.testBit i then m ^^^ 2 ^ i else m
def Ac4 (ops:Array Oper):List Oper->Nat->Nat
 |[],m=>m
 |o::r,m=>
  let m1:=Ac4 ops r m
  let m2:=match o.dst with|some d=>Bac m1 d|none=>m1
  (looks ops o).foldl Akb m2
def N8:Code->Nat->(Nat->Nat)->Nat->Nat
 |.skip,ln,_,_=>ln
 |.region _ ops _,ln,_,_=>Ac4 ops ops.toList ln
 |.seq a b,ln,lx,lr=>N8 a (N8 b ln lx lr) lx lr
 |.cond c a b,ln,lx,lr=>let m:=N8 a ln lx lr ||| N8 b ln lx lr;match c with | .tmp d=>Akb m d|_=>m
 |.block id c,ln,lx,lr=>N8 c ln (fun j=>bif Nat.beq j id then ln else lx j) lr
 |.loop c,_,lx,lr=>N8 c (N8 c 0 lx lr) lx lr
 |.exit id,_,lx,_=>lx id
 |.ret,_,_,lr=>lr
 |_,_,_,_=>0
def TT (ops:List Oper):List Nat:=(ops.filterMap fun o=>o.guard.map (·.1)).eraseDups
def Ng:Code->Nat
 |.region _ _ _=>1
 |.seq a b=>Ng a+Ng b
 |.cond _ a b=>Ng a+Ng b
 |.block _ c=>Ng c
 |.loop c=>Ng c
 |_=>0
def AL:Code->Nat
 |.skip=>1
 |.region _ ops _=>2 ^ min 6 (TT ops.toList).length
 |.seq a b=>bif (Nat.ble 7 (AL a)&&Nat.ble 6 (Ng b))||(Nat.ble 5 (AL a)&&Nat.ble 9 (Ng b)) then AL b else min 1000 (AL a*AL b)
 |.cond _ a b=>AL a+AL b
 |.block _ c=>AL c
 |.loop _=>1
 |.exit _=>1
 |_=>0
def Ar5 (P:Program)(o:Oper):Bool:=
 match o.op with
 |.load t _=>S8 P t&&Nat.ble 8 (Bc P t)
 |.store t _ _=>S8 P t&&Nat.ble 8 (Bc P t)
 |_=>false
def RK (P:Program):Code->Bool
 |.region _ ops _=>ops.toList.any (Ar5 P)
 |.seq a _=>RK P a
 |_=>false
def Ac6 (P:Program):Code->Bool
 |.region _ ops _=>ops.toList.any (Ar5 P)
 |.seq _ b=>Ac6 P b
 |_=>false
def A5u:Code->Nat
 |.seq a b=>match b with
  |.ret=>(match a with | .region _ ops _=>(TT ops.toList).length|_=>0)
  |_=>A5u b
 |_=>0
def Alg (x y:Code):Bool:=(Nat.beq (AL x) 1&&Nat.beq (A5u y) 11)||(Nat.beq (AL x) 4&&Nat.beq (Ng x) 7&&(Nat.beq (Ng y) 3||Nat.beq (Ng y) 1))||(Nat.beq (AL x) 9&&Nat.beq (Ng x) 5&&Nat.beq (Ng y) 5)
def EC (a b:Code):Bool:=Alg a b||(match b with | .seq x y=>Alg x y|_=>false)
def Ai8 (P:Program)(a b:Code):Bool:=(Nat.ble 7 (AL a)&&Nat.ble 6 (Ng b))||(Nat.ble 5 (AL a)&&Nat.ble 9 (Ng b))||EC a b||RK P b||Ac6 P a
def Lu (m:Nat):Nat->List Nat
 |0=>[]
 |n+1=>Lu m n++(bif m.testBit n then [n] else [])
def lk (l:List (Nat × PV)) (i:Nat):PV:=
 match l with
 |[]=>.top
 |(j,p)::r=>bif Nat.beq i j then p else lk r i
def Iw (l:List (Nat × Bs)) (i:Nat):Option Bs:=
 match l with
 |[]=>none
 |(j,b)::r=>bif Nat.beq i j then some b else Iw r i
def Vd (l:List (Nat × Nat)) (i:Nat):Option Nat:=
 match l with
 |[]=>none
 |(j,b)::r=>bif Nat.beq i j then some b else Vd r i
def DX (N:Nat)(s:St)(i:Nat):St:=
 match s.tm i with
 |.lst true es 0 []=>
  bif (s.hp i).isNone then ⟨Cs s.tm i (.view i es 0 0),Cs s.hp i (some (.ar false []))⟩
  else bif (s.hp (i+N*3000)).isNone then ⟨Cs s.tm i (.view (i+N*3000) es 0 0),Cs s.hp (i+N*3000) (some (.ar false []))⟩
  else s
 |_=>s
def NE (N:Nat)(id:Nat)(s:St)(j:Nat):St:=
 match s.hp id with
 |some (.st c)=>
  match c[j]? with
  |some (.lst true es 0 [])=>bif (s.hp (id+N*(j+1))).isNone then ⟨s.tm,Cs (Cs s.hp id (some (.st (c.set j (.view (id+N*(j+1)) es 0 0))))) (id+N*(j+1)) (some (.ar false []))⟩ else s
  |_=>s
 |_=>s
def OR (N:Nat)(s:St)(i:Nat):St:=
 match s.tm i with
 |.ptr id _=>
  match s.hp id with
  |some (.st c)=>(List.range c.length).foldl (NE N id) s
  |_=>s
 |_=>s
def KV (m:List (Nat × Nat)) (old new:Nat):List (Nat × Nat):=
 match Vd m old with
 |some _=>m
 |none=>m++[(old,new)]
def Qw (N new:Nat):List PV->Nat->List (Nat × Nat)->List (Nat × Nat)
 |[],_,m=>m
 |.view id _ _ _::r,j,m=>Qw N new r (j+1) (KV m id (new+N*(j+1)))
 |_::r,j,m=>Qw N new r (j+1) m
def EI (N:Nat)(s:St)(m:List (Nat × Nat)) (i:Nat):List (Nat × Nat):=
 match s.tm i with
 |.view id _ _ _=>KV m id i
 |.ptr id _=>
  match Vd m id with
  |some _=>m
  |none=>
   match s.hp id with
   |some (.st c)=>Qw N i c 0 (KV m id i)
   |_=>KV m id i
 |.agg c=>Qw N i c 0 m
 |_=>m
def XC (m:List (Nat × Nat)):PV->PV
 |.view id es off n=>match Vd m id with|some j=>.view j es off n|none=>.top
 |.ptr id off=>match Vd m id with|some j=>.ptr j off|none=>.top
 |.sc v=>.sc v
 |.lst z es n c=>.lst z es n c
 |.iptr c off=>.iptr c off
 |_=>.top
def Aey (m:List (Nat × Nat)):PV->PV
 |.agg c=>.agg (c.map (XC m))
 |p=>XC m p
def Am9 (m:List (Nat × Nat)):Bs->Bs
 |.st c=>.st (c.map (XC m))
 |b=>b
def Do (N i:Nat):Nat:=i+N*2000
def TA (N:Nat)(hp:Nat->Option Bs):Nat->List (Nat × Nat)
 |0=>[]
 |i+1=>bif (hp (Do N i)).isSome then TA N hp i++[(Do N i,Do N i)] else TA N hp i
def To (N:Nat)(hp:Nat->Option Bs):Nat->List (Nat × Nat)->List (Nat × Nat)
 |0,m=>m
 |i+1,m=>
  match hp (Do N i) with
  |some (.st c)=>Qw N (Do N i) c 0 (To N hp i m)
  |_=>To N hp i m
def A8k (N:Nat)(hp:Nat->Option Bs)(k:Nat):List (Nat × Nat):=To N hp k (TA N hp k)
def L4 (m:List (Nat × Nat)) (hp:Nat->Option Bs):List (Nat × Nat)->List (Nat × Bs)
 |[]=>[]
 |(old,new)::r=>match hp old with
  |some b=>(new,Am9 m b)::L4 m hp r
  |none=>L4 m hp r
section
variable {R:Type}
def Acx (N:Nat)(ls:List Nat)(q:Bool)(s:St)(K:St->Option R):Option R:=
 let s2:=bif q then s else ls.foldl (OR N) (ls.foldl (DX N) s)
 let m:=ls.foldl (EI N s2) (A8k N s2.hp 8)
 A2 (D9 (m.map (·.1))&&D9 (m.map (·.2))) (K ⟨lk (ls.map fun i=>(i,Aey m (s2.tm i))),Iw (L4 m s2.hp m)⟩)
def Zj (N L:Nat)(s:St)(K:St->Option R):Option R:=Acx N (Lu L N) false s K
def Acm (N L:Nat)(s:St)(K:St->Option R):Option R:=Acx N (Lu L N) true s K
def Ahv (F:(St->Option R)->St->Option R) (nm:St->(St->Option R)->Option R):Nat->St->Option R
 |0,_=>none
 |n+1,s=>F (fun s'=>nm s' (Ahv F nm n)) s
def IM (n:Nat)(F:St->Option R)(s:St):Option R:=
 match n with
 |0=>none
 |_+1=>F s
noncomputable def Ajl (s:St)(c:Operand)(kt kf:St->Option R):Option R:=
 match c with
 |.tmp d=>
  match s.tm d with
  |.sc (.bool b)=>Ba b (kt ⟨Cs s.tm d (.sc (.bool true)),s.hp⟩) (kf ⟨Cs s.tm d (.sc (.bool false)),s.hp⟩)
  |.ub=>KE (kt s) (kf s)
  |_=>none
 |.const (.bool true)=>kt s
 |.const (.bool false)=>kf s
 |_=>none
noncomputable def Pk (C:G1)(P:Program)(fu N:Nat)(call:Am):Code->Nat->(Nat->Nat)->Nat->(St->Option R)->(Nat->St->Option R)->(St->Option R)->St->Option R
 |.skip,_,_,_,kn,_,_,s=>kn s
 |.region _ ops draw,_,_,_,kn,_,_,s=>SW (draw && !NA C P ops) (A2 (EU C P ops) (Asp (CQ C P ops (Ic ops.toList [])) fun sm=>H3 C P N call ops sm [] (List.range ops.size) s kn)) (SW draw (Nf C P N call ops ops.toList s kn) (PS C P N call ops ops.toList s kn))
 |.seq a b,ln,lx,lr,kn,kx,kr,s=>Pk C P fu N call a (N8 b ln lx lr) lx lr (fun s'=>SW (Ai8 P a b) (SW (EC a b) (Acm N (N8 b ln lx lr) s' (IM fu fun s''=>Pk C P fu N call b ln lx lr kn kx kr s'')) (Zj N (N8 b ln lx lr) s' (IM fu fun s''=>Pk C P fu N call b ln lx lr kn kx kr s''))) (Pk C P fu N call b ln lx lr kn kx kr s')) kx kr s
 |.cond c a b,ln,lx,lr,kn,kx,kr,s=>Ajl s c (Pk C P fu N call a ln lx lr kn kx kr) (Pk C P fu N call b ln lx lr kn kx kr)
 |.block id c,ln,lx,lr,kn,kx,kr,s=>Pk C P fu N call c ln (fun j=>bif Nat.beq j id then ln else lx j) lr kn (fun j s'=>bif Nat.beq j id then kn s' else kx j s') kr s
 |.loop c,ln,lx,lr,_,kx,kr,s=>
  Zj N (N8 (.loop c) ln lx lr) s (Ahv (fun k s'=>Pk C P fu N call c (N8 (.loop c) ln lx lr) lx lr k kx kr s') (Zj N (N8 (.loop c) ln lx lr)) fu)
 |.exit id,_,_,_,_,kx,_,s=>kx id s
 |.ret,_,_,_,_,_,kr,s=>kr s
 |_,_,_,_,_,_,_,_=>none
def Ahf (id:Nat)(t:CT)(p:PV)(K:PV->List (Nat × Bs)->Option R):Option R:=
 match t with
 |.sl es=>
  match p with
  |.own es' n c=>bif Nat.beq es' es then K (.view id es 0 n) [(id,.ar false c)] else none
  |p=>F1 es p fun z n c=>K (.lst z es n c) []
 |t=>BG t p fun c=>K c []
def CU (N:Nat):Nat->List CT->List PV->(List PV->List (Nat × Bs)->Option R)->Option R
 |_,[],ps,K=>Ad ps (K [] [])
 |id,t::ts,ps,K=>Aa ps fun p ps=>Ahf id t p fun c b=>CU N (id+N) ts ps fun cs bs=>K (c::cs) (b++bs)
def inK (P:Program)(N i:Nat)(t:TypeId)(p:PV)(K:PV->List (Nat × Bs)->Option R):Option R:=
 match Zk P t with
 |some e=>Sn p fun ps=>A2 (Nat.blt i 8) (CU N (Do N i+N) (H7 P e) ps fun cs bs=>K (.ptr (Do N i) 0) ((Do N i,.st cs)::bs))
 |none=>
  match p with
  |.tup ps=>C5 (A3i P t) fun e=>A2 (Nat.blt i 8) (Aa ps fun q r=>Ad r (IU (Bc P e) q fun n c=>K (.view (Do N i) (Bc P e) 0 n) [(Do N i,.ar false c)]))
  |p=>
   bif B9 P t then F7 p fun ps=>CU N (i+N) (H7 P t) ps fun cs bs=>K (.agg cs) bs
   else CU N (i+N) (H7 P t) [p] fun cs bs=>Aa cs fun c r=>Ad r (K c bs)
def Ah1 (P:Program)(N:Nat):Nat->List TypeId->List PV->(List (Nat × PV)->List (Nat × Bs)->Option R)->Option R
 |_,[],ps,K=>Ad ps (K [] [])
 |i,t::ts,ps,K=>Aa ps fun p ps=>inK P N i t p fun v bs=>Ah1 P N (i+1) ts ps fun vs bs'=>K ((i,v)::vs) (bs++bs')
def Asc (hp:Nat->Option Bs)(t:CT)(p:PV)(K:PV->List Nat->List Nat->Option R):Option R:=
  match t with
  |.sl es=>
    match p with
    |.view id es' off n=>bif Nat.beq es' es&&Nat.beq off 0 then
        (match hp id with
         |some (.ar false c)=>A2 (decide (n*es<=c.length)) (K (.own es n (c.take (n*es))) [id] [])
         |_=>none) else none
    |p=>F1 es p fun z _ _=>A2 z (K (.own es 0 []) [] [])
  |t=>BG t p fun c=>K c [] []
def Acr (shr:Bool)(hp:Nat->Option Bs)(t:CT)(p:PV)(K:PV->List Nat->List Nat->Option R):Option R:=
 bif shr then Oc (Jp hp) t p fun c m=>K c [] m else Asc hp t p K
def AD (shr:Bool)(hp:Nat->Option Bs):List CT->List PV->(List PV->List Nat->List Nat->Option R)->Option R
 |[],[],K=>K [] [] []
 |t::ts,p::ps,K=>Acr shr hp t p fun c m z=>AD shr hp ts ps fun cs ms zs=>K (c::cs) (m++ms) (z++zs)
 |_,_,_=>none
def Alh (P:Program)(shr:Bool)(hp:Nat->Option Bs)(t:TypeId)(p:PV)(K:PV->List Nat->List Nat->Option R):Option R:=
 match Zk P t with
 |some e=>
  match p with
  |.ptr id off=>
   match hp id with
   |some (.st c)=>A2 (Nat.beq off 0) (AD shr hp (H7 P e) c fun cs m z=>K (.pbox cs) (id::m) z)
   |_=>none
  |_=>none
 |none=>
  bif B9 P t then F7 p fun ps=>AD shr hp (H7 P t) ps fun cs m z=>K (.agg cs) m z
  else AD shr hp (H7 P t) [p] fun cs m z=>Aa cs fun c r=>Ad r (K c m z)
def Ah6 (P:Program)(s:St)(r:ResultVar)(K:PV->Option R):Option R:=
 match r with
 |.tmp t=>K (s.tm t)
 |.cell a t=>Y4 false P (rd s.hp) (Jp s.hp) t (s.tm a) K
def NM (P:Program)(shr:Bool)(s:St):List ResultVar->List TypeId->(List PV->List Nat->List Nat->Option R)->Option R
 |[],[],K=>K [] [] []
 |r::rs,t::ts,K=>Ah6 P s r fun p=>Alh P shr s.hp t p fun v m z=>NM P shr s rs ts fun vs ms zs=>K (v::vs) (m++ms) (z++zs)
 |_,_,_=>none
def EH (hp:Nat->Option Bs):List CT->List PV->List PV->(List PV->List Nat->List Nat->Option R)->Option R
 |[],[],[],K=>K [] [] []
 |t::ts,w::ws,p::ps,K=>Acr (match w with | .own _ _ _=>false|_=>true) hp t p fun c m z=>EH hp ts ws ps fun cs ms zs=>K (c::cs) (m++ms) (z++zs)
 |_,_,_,_=>none
def Zs (P:Program)(N:Nat)(hp:Nat->Option Bs):Nat->List TypeId->List PV->(List (List PV)->List Nat->List Nat->List Nat->Option R)->Option R
 |_,[],ps,K=>Ad ps (K [] [] [] [])
 |i,t::ts,ps,K=>Aa ps fun p ps=>
  match p with
  |.pbox ws=>C5 (Zk P t) fun e=>
    match hp (Do N i) with
    |some (.st c)=>EH hp (H7 P e) ws c fun cs m z=>Zs P N hp (i+1) ts ps fun r m' z' q=>K (cs::r) (m++m') (z++z') (Do N i::q)
    |_=>none
  |.tup _=>
    match hp (Do N i) with
    |some (.ar false c)=>Zs P N hp (i+1) ts ps fun r m' z' q=>K (c::r) m' z' (Do N i::q)
    |_=>none
  |_=>Zs P N hp (i+1) ts ps K
def Abn (rs:List ResultVar):Nat:=rs.foldl (fun m r=>match r with | .tmp t=>Akb m t | .cell a _=>Akb m a) 0
end
def HG (P:Program):Nat->List TypeId->Nat->Nat
 |_,[],m=>m
 |i,t::ts,m=>HG P (i+1) ts (match P.underlying t with|some (.pointer _)=>Akb m i|_=>m)
def Aed (C:G1)(P:Program)(f:FuncId)(fn:Func)(args:List PV)(s:St):Option Ap:=
 NM P (C.shr f) s fn.results.toList fn.resultTypes.toList fun vs m z=>Zs P fn.ntmps s.hp 0 fn.params.toList args fun os m' z' q=>
  A2 (D9 ((m++m')++q)&&(z++z').all (fun i=> !(((m++m')++q).any (Nat.beq i)))) (some ⟨vs,os⟩)
noncomputable def Avh (C:G1)(P:Program)(fu:Nat)(call:Am)(f:FuncId)(fn:Func)(c:Code)(args:List PV):Option Ap:=
  Ah1 P fn.ntmps 0 fn.params.toList args fun tms bs=>A2 (Nat.ble args.length fn.ntmps&&Bw (fun _=>none) bs)
    (let lr:=HG P 0 fn.params.toList (Abn fn.results.toList)
     Pk C P fu fn.ntmps call c lr (fun _=>0) lr (Aed C P f fn args) (fun _ _=>none) (Aed C P f fn args) ⟨lk tms,Iw bs⟩)
noncomputable def Ae (C:G1)(P:Program)(fu:Nat):Nat->FuncId->List PV->Option Ap
 |0,_,_=>none
 |d+1,f,args=>
  match C.ext f with
  |some g=>g args
  |none=>
   match P.funcs[f]? with
   |none=>none
   |some fn=>match fn.body with
    |none=>none
    |some c=>Avh C.core P fu (Ae C P fu d) f fn c args
inductive Dir where
 |l
 |r
 |i (m:Nat)
section
variable {R:Type}
noncomputable def Ws (C:G1)(P:Program)(fu N:Nat)(call:Am):List Dir->Code->Nat->(Nat->Nat)->Nat->(St->Option R)->(Nat->St->Option R)->(St->Option R)->Nat->St->Option R
 |[],.seq _ b,ln,lx,lr,kn,kx,kr,n,s=>IM n (fun s''=>Pk C P fu N call b ln lx lr kn kx kr s'') s
 |[],.loop c,ln,lx,lr,_,kx,kr,n,s=>Ahv (fun k s'=>Pk C P fu N call c (N8 (.loop c) ln lx lr) lx lr k kx kr s') (Zj N (N8 (.loop c) ln lx lr)) n s
 |.l::p,.seq a b,ln,lx,lr,kn,kx,kr,n,s=>Ws C P fu N call p a (N8 b ln lx lr) lx lr (fun s'=>SW (Ai8 P a b) (SW (EC a b) (Acm N (N8 b ln lx lr) s' (IM fu fun s''=>Pk C P fu N call b ln lx lr kn kx kr s'')) (Zj N (N8 b ln lx lr) s' (IM fu fun s''=>Pk C P fu N call b ln lx lr kn kx kr s''))) (Pk C P fu N call b ln lx lr kn kx kr s')) kx kr n s
 |.r::p,.seq _ b,ln,lx,lr,kn,kx,kr,n,s=>Ws C P fu N call p b ln lx lr kn kx kr n s
 |.l::p,.cond _ a _,ln,lx,lr,kn,kx,kr,n,s=>Ws C P fu N call p a ln lx lr kn kx kr n s
 |.r::p,.cond _ _ b,ln,lx,lr,kn,kx,kr,n,s=>Ws C P fu N call p b ln lx lr kn kx kr n s
 |.l::p,.block id c,ln,lx,lr,kn,kx,kr,n,s=>Ws C P fu N call p c ln (fun j=>bif Nat.beq j id then ln else lx j) lr kn (fun j s'=>bif Nat.beq j id then kn s' else kx j s') kr n s
 |.i m::p,.loop c,ln,lx,lr,_,kx,kr,n,s=>
  Ws C P fu N call p c (N8 (.loop c) ln lx lr) lx lr
   (fun s'=>Zj N (N8 (.loop c) ln lx lr) s' (Ahv (fun k s'=>Pk C P fu N call c (N8 (.loop c) ln lx lr) lx lr k kx kr s') (Zj N (N8 (.loop c) ln lx lr)) m)) kx kr n s
 |_,_,_,_,_,_,_,_,_,_=>none
end
noncomputable def Fh (C:G1)(P:Program)(fu:Nat)(call:Am)(f:FuncId)(fn:Func)(c:Code)(args:List PV)(p:List Dir)(n:Nat)(s:St):Option Ap:=
 let lr:=HG P 0 fn.params.toList (Abn fn.results.toList)
 Ws C P fu fn.ntmps call p c lr (fun _=>0) lr (Aed C P f fn args) (fun _ _=>none) (Aed C P f fn args) n s
def Aqn:List Nat:=[
 1000000]
def Ayn:List Nat:=[
 13,
 6,
 1000000]
def Axw:List Nat:=[
 1000000]
def Aqs:List Nat:=[
 1000000]
def Axi:List Nat:=[
 1000000]
def Aa9 (args:List PV):Option Ap:=
 match args with
 |[.sc (.string s)]=>bif decide (s.size<=9223372036854775807) then some ⟨[.sc (.bool (Lib.validD s.data.toList))],[]⟩ else none
 |_=>none
def Yw:List Nat:=[
 86,
 80,
 65,
 83,
 81,
 101,
 115,
 116,
 114,
 97,
 74,
 53,
 52,
 1000000]
def Bbc:List Nat:=[
 1000000]
def CB:G1:=⟨fun f=>Ayn.any (Nat.beq f),fun f i=>Nat.beq i 0&&Axi.any (Nat.beq f),fun f i=>(Nat.beq i 0&&Axw.any (Nat.beq f))||(Nat.beq i 2&&Aqs.any (Nat.beq f)),fun f=>Aqn.any (Nat.beq f),fun _=>none,fun N=>Bbc.any (Nat.beq N)⟩
def CX (xs:FuncId->Option (List PV->Option Ap)):G1:={ CB with ext:=fun f=>bif Yw.any (Nat.beq f) then none else xs f }
def D2 (f:Func):Code:=match f.body with|some c=>c|none=>.skip
section
variable {R:Type} {r:Option R}
theorem A6 {k:IntKind}{p:PV}{K:Int->Option R}{n:Int}(h:p=.sc (.int k n)) (hk:K n=r):Aj k p K=r:=by
 subst h;unfold Aj;simp[hk]
theorem A7z {p:PV}{K:IntKind->Int->Option R}{k:IntKind}{n:Int}(h:p=.sc (.int k n)) (hk:K k n=r):Ds p K=r:=by
 subst h;exact hk
theorem Az {p:PV}{K:Bool->Option R}{b:Bool}(h:p=.sc (.bool b)) (hk:K b=r):Aq p K=r:=by
 subst h;exact hk
theorem A9 {p:PV}{K:ByteArray->Option R}{s:ByteArray}(h:p=.sc (.string s)) (hk:K s=r):Ar p K=r:=by
 subst h;exact hk
theorem Ais {es:Nat}{p:PV}{K:Bool->Nat->List PV->Option R}{z:Bool}{n:Nat}{c:List PV}(h:p=.lst z es n c)(hk:K z n c=r):F1 es p K=r:=by
 subst h;unfold F1;simp[Nat.beq_refl,hk]
theorem Alj {es:Nat}{p:PV}{K:Nat->List PV->Option R}{n:Nat}{c:List PV}(h:p=.own es n c)(hk:K n c=r):IU es p K=r:=by
 subst h;unfold IU;simp[Nat.beq_refl,hk]
theorem A4 {b:Bool}{K:Option R}(h:b=true)(hk:K=r):A2 b K=r:=by
 subst h;exact hk
theorem A7 {b:Bool}{x y:Option R}(h:b=true)(hx:x=r):Ba b x y=r:=by
 subst h;exact hx
theorem A8 {b:Bool}{x y:Option R}(h:b=false)(hx:y=r):Ba b x y=r:=by
 subst h;exact hx
theorem Ed {α:Type}{o:Option α}{K:α->Option R}{a:α}(h:o=some a)(hk:K a=r):C5 o K=r:=by
 subst h;exact hk
theorem Ax {α:Type}{l:List α}{K:α->List α->Option R}{a:α}{t:List α}(h:l=a::t)(hk:K a t=r):Aa l K=r:=by
 subst h;exact hk
theorem A5 {α:Type}{l:List α}{K:Option R}(h:l=[]) (hk:K=r):Ad l K=r:=by
 subst h;exact hk
theorem Lr {p:PV}{K:List PV->Option R}{c:List PV}(h:p=.agg c)(hk:K c=r):F7 p K=r:=by
 subst h;exact hk
theorem A5w {p:PV}{K:List PV->Option R}{c:List PV}(h:p=.pbox c)(hk:K c=r):Sn p K=r:=by
 subst h;exact hk
theorem Aw {o:Option Ap}{K:List PV->List (List PV)->Option R} {v:List PV}{q:List (List PV)} (h:o=some ⟨v,q⟩)(hk:K v q=r):Ah o K=r:=by
 subst h;exact hk
end
theorem Ael (a b:Int):(a==b)=decide (a=b):=by by_cases h:a=b<;>simp[h]
section
variable {R:Type}
theorem EF (v:List PV)(o:List (List PV)) (K:List PV->List (List PV)->Option R):Ah (some ⟨v,o⟩) K=K v o:=by exact id rfl
theorem QE {α:Type}(K:Option R):Ad ([]:List α) K=K:=by exact id rfl
theorem EA {α:Type}(a:α)(r:List α)(K:α->List α->Option R):Aa (a::r) K=K a r:=by exact id rfl
theorem EG (b:Bool)(K:Bool->Option R):Aq (.sc (.bool b)) K=K b:=by exact id rfl
theorem PK (s:ByteArray)(K:ByteArray->Option R):Ar (.sc (.string s)) K=K s:=by exact id rfl
theorem HK (k:IntKind)(n:Int)(K:Int->Option R):Aj k (.sc (.int k n)) K=K n:=by unfold Aj;simp
theorem Ahx (k:IntKind)(n:Int)(K:IntKind->Int->Option R):Ds (.sc (.int k n)) K=K k n:=by exact id rfl
theorem Ast (z:Bool)(es n:Nat)(c:List PV)(K:Bool->Nat->List PV->Option R):F1 es (.lst z es n c) K=K z n c:=by unfold F1;simp
theorem Ary (es n:Nat)(c:List PV)(K:Nat->List PV->Option R):IU es (.own es n c) K=K n c:=by unfold IU;simp
theorem Ag4 (c:List PV)(K:List PV->Option R):F7 (.agg c) K=K c:=by exact id rfl
theorem Ab9 (c:List PV)(K:List PV->Option R):Sn (.pbox c) K=K c:=by exact id rfl
theorem Ak6 {α:Type}(a:α)(K:α->Option R):C5 (some a) K=K a:=by exact id rfl
theorem M7 {α:Type}(a:α)(K:α->Option R):Ac a K=K a:=by exact id rfl
theorem Ajt (K:Option R):A2 true K=K:=by exact id rfl
theorem NG (p:Prop) [Decidable p] (K:Option R)(h:p):A2 (decide p) K=K:=by simp[A2,h]
theorem Ac3 (b c:Bool)(K:Option R):A2 (b&&c) K=A2 b (A2 c K):=by cases b<;>rfl
theorem OI (x y:Option R):Ba true x y=x:=by exact id rfl
theorem OL (x y:Option R):Ba false x y=y:=by exact id rfl
theorem GI (p:Prop) [Decidable p] (x y:Option R)(h:p):Ba (decide p) x y=x:=by simp[Ba,h]
theorem GZ (p:Prop) [Decidable p] (x y:Option R)(h:¬p):Ba (decide p) x y=y:=by simp[Ba,h]
theorem Ayc (p:Prop) [Decidable p] (x y:Option R):Ba (decide p) x y=if p then x else y:=by by_cases h:p<;>simp[Ba,h]
theorem Acg (a b:Int)(x y:Option R):Ba (a==b) x y=if a=b then x else y:=by
 rw[Ael,Ayc]
theorem Acz (x:Option R):KE x x=x:=by unfold KE;simp
end
theorem Au {x:Int}(h1: -9223372036854775808<=x)(h2:x<=9223372036854775807):IntKind.wrap .i64 x=x:=by
 have:=IntWalk.i64_in x (by omega)
 exact this
theorem E6 {x:Int}(h1:0<=x)(h2:x<=18446744073709551615):IntKind.wrap .u64 x=x:=by
 simp only[IntKind.wrap,IntKind.signed,IntKind.bits];simp;omega
theorem Ol {x:Int}(h1:0<=x)(h2:x<=255):IntKind.wrap .u8 x=x:=by
 simp only[IntKind.wrap,IntKind.signed,IntKind.bits];simp;omega
theorem FX (x:Int):0<=IntKind.wrap .u64 x∧IntKind.wrap .u64 x<=18446744073709551615:=by
 simp only[IntKind.wrap,IntKind.signed,IntKind.bits];simp;omega
theorem Ff {α:Type}{l r:List α}{x:α}{i:Nat}(h:l.drop i=x::r):i<l.length∧l[i]?=some x∧l.drop (i+1)=r:=by
 have h1:i<l.length:=by
  rcases Nat.lt_or_ge i l.length with h1|h1
  ·exact h1
  ·rw[List.drop_of_length_le h1] at h;cases h
 rw[List.drop_eq_getElem_cons h1] at h;injection h with h2 h3;exact⟨h1,by rw[List.getElem?_eq_getElem h1,h2],h3⟩
theorem drop_nil {α:Type}{l:List α}{i:Nat}(h:l.drop i=[]):l.length<=i:=by
 have:=congrArg List.length h;simp at this;omega
section
variable {α:Type} {f:α->List PV} {k:Nat}
theorem Aii (hf:∀x,(f x).length=k):∀(l:List α),(l.flatMap f).length=l.length*k
 |[]=>by simp
 |x::l=>by simp[hf x,Aii hf l,Nat.succ_mul];omega
theorem Abu (hf:∀x,(f x).length=k):∀(l:List α)(i:Nat),(l.flatMap f).drop (i*k)=(l.drop i).flatMap f
 |l,0=>by simp
 |[],i+1=>by simp
 |x::l,i+1=>by
  rw[List.flatMap_cons,Nat.succ_mul,Nat.add_comm,←List.drop_drop,List.drop_append_of_le_length (by rw[hf x];omega)]
  rw[show (f x).drop k=[] from List.drop_of_length_le (by rw[hf x];omega),List.nil_append]
  exact Abu hf l i
theorem Ab8 (hf:∀x,(f x).length=k):∀(l:List α)(i:Nat),(l.flatMap f).take (i*k)=(l.take i).flatMap f
 |l,0=>by simp
 |[],i+1=>by simp
 |x::l,i+1=>by
  rw[List.flatMap_cons,Nat.succ_mul,Nat.add_comm,List.take_succ_cons,List.flatMap_cons,←Ab8 hf l i];rw[show k+i*k=(f x).length+i*k by rw[hf x],List.take_length_add_append]
theorem A4g (hf:∀x,(f x).length=k) {l:List α}{i:Nat}{x:α}(h:l[i]?=some x) {j:Nat}(hj:j<k):(l.flatMap f).getD (i*k+j) .top=(f x).getD j .top:=by
 have h1:((l.flatMap f).drop (i*k))[j]?=(l.flatMap f)[i*k+j]?:=List.getElem?_drop;rw[Abu hf] at h1
 have h2:i<l.length:=by
  rcases Nat.lt_or_ge i l.length with h1|h1
  ·exact h1
  ·rw[List.getElem?_eq_none h1] at h;cases h
 rw[List.drop_eq_getElem_cons h2,List.flatMap_cons] at h1;have h3:l[i]=x:=by rw[List.getElem?_eq_getElem h2] at h;injection h
 rw[h3,List.getElem?_append_left (by rw[hf x];exact hj)] at h1
 simp only[List.getD_eq_getElem?_getD,←h1]
theorem HC {c:List PV}{p:PV}{i:Nat}(h:i<c.length):Ca c [p] i=c.set i p:=by
 unfold Ca;rw[List.set_eq_take_append_cons_drop,if_pos h];simp
end
theorem As6 {α:Type}{l:List α}{i:Nat}{x:α}(h:l[i]?=some x):i<l.length:=by
 rcases Nat.lt_or_ge i l.length with h1|h1
 ·exact h1
 ·rw[List.getElem?_eq_none h1] at h;cases h
abbrev Auf (k:IntKind)(n:Int):List PV:=[.sc (.int k n)]
abbrev Bl (k:IntKind)(l:List Int):List PV:=l.flatMap (Auf k)
theorem HU (k:IntKind)(n:Int):(Auf k n).length=1:=rfl
theorem ati {k:IntKind}{l:List Int}{i:Nat}{n:Int}(h:l[i]?=some n):(Bl k l).getD i .top=.sc (.int k n):=by
 have:=A4g (HU k) h (j:=0) (by omega)
 simpa using this
theorem Ek (k:IntKind)(l:List Int):(Bl k l).length=l.length:=by rw[Aii (HU k)];omega
theorem Alv (k:IntKind)(l:List Int)(n:Int):Bl k l++[.sc (.int k n)]=Bl k (l++[n]):=by simp
theorem tki (k:IntKind)(l:List Int):List.take l.length (Bl k l)=Bl k l:=List.take_of_length_le (by rw[Ek];omega)
theorem B4:type_of% @EF∧type_of% @QE∧type_of% @EA∧type_of% @EG∧type_of% @PK∧type_of% @HK∧type_of% @Ahx∧type_of% @Ast∧type_of% @Ary∧type_of% @Ag4∧type_of% @Ab9∧type_of% @Ak6∧type_of% @M7∧type_of% @Ajt∧type_of% @NG∧type_of% @Ac3∧type_of% @OI∧type_of% @OL∧type_of% @GI∧type_of% @GZ∧type_of% @Acz∧type_of% @Bool.not_true∧type_of% @Bool.not_false∧type_of% @Bool.false_eq_true∧type_of% @if_true.{1}∧type_of% @if_false.{1}∧type_of% @Bool.true_and∧type_of% @Bool.and_true∧type_of% @Bool.false_and∧type_of% @Bool.and_false∧type_of% @decide_true∧type_of% @decide_false:=
 ⟨@EF,@QE,@EA,@EG,@PK,@HK,@Ahx,@Ast,@Ary,@Ag4,@Ab9,@Ak6,@M7,@Ajt,@NG,@Ac3,@OI,@OL,@GI,@GZ,@Acz,@Bool.not_true,@Bool.not_false,@Bool.false_eq_true,@if_true.{1},@if_false.{1},@Bool.true_and,@Bool.and_true,@Bool.false_and,@Bool.and_false,@decide_true,@decide_false⟩
theorem gT:type_of% @Bool.and_eq_true∧type_of% @decide_eq_true_eq∧type_of% @beq_iff_eq.{0}∧type_of% @bne_iff_ne.{0}∧type_of% @ne_eq.{1}∧type_of% @Bool.not_eq_true'∧type_of% @true_and∧type_of% @and_true:=
 ⟨@Bool.and_eq_true,@decide_eq_true_eq,@beq_iff_eq.{0},@bne_iff_ne.{0},@ne_eq.{1},@Bool.not_eq_true',@true_and,@and_true⟩
theorem gF:type_of% @decide_eq_false_iff_not∧type_of% @beq_eq_false_iff_ne.{0}∧type_of% @bne_eq_false_iff_eq.{0}∧type_of% @ne_eq.{1}∧type_of% @Bool.not_eq_false':=
 ⟨@decide_eq_false_iff_not,@beq_eq_false_iff_ne.{0},@bne_eq_false_iff_eq.{0},@ne_eq.{1},@Bool.not_eq_false'⟩
end
section
open Go.RowKit
def Bh {α β:Type}(R:α->β->Prop):List α->List β->Prop
 |[],[]=>True
 |a::zs,b::bs=>R a b∧Bh R zs bs
 |_,_=>False
section
variable {α β γ:Type} {R S:α->β->Prop}
theorem Bh.len:∀{zs:List α}{bs:List β},Bh R zs bs->zs.length=bs.length
 |[],[],_=>rfl
 |_::_,_::_,h=>by simp[Bh.len h.2]
 |[],_::_,h=>h.elim
 |_::_,[],h=>h.elim
theorem Bh.at_:∀{zs:List α}{bs:List β},Bh R zs bs->∀{i:Nat} {a b},zs[i]?=some a->bs[i]?=some b->R a b
 |[],[],_,i,a,b,h,_=>by simp at h
 |_::_,_::_,h,0,a,b,ha,hb=>by simp at ha hb;subst ha;subst hb;exact h.1
 |_::_,_::_,h,i+1,a,b,ha,hb=>by simp at ha hb;exact Bh.at_ h.2 ha hb
 |[],_::_,h,_,_,_,_,_=>h.elim
 |_::_,[],h,_,_,_,_,_=>h.elim
theorem Bh.of_at:∀{zs:List α}{bs:List β},zs.length=bs.length->(∀(i:Nat) a b,zs[i]?=some a->bs[i]?=some b->R a b)->Bh R zs bs
 |[],[],_,_=>trivial
 |a::zs,b::bs,hl,h=>⟨h 0 a b rfl rfl,Bh.of_at (by simpa using hl) fun i x y hx hy=>h (i+1) x y hx hy⟩
 |[],_::_,hl,_=>by simp at hl
 |_::_,[],hl,_=>by simp at hl
theorem Bh.mono (hRS:∀a b,R a b->S a b):∀{zs:List α}{bs:List β},Bh R zs bs->Bh S zs bs
 |[],[],_=>trivial
 |_::_,_::_,h=>⟨hRS _ _ h.1,Bh.mono hRS h.2⟩
 |[],_::_,h=>h.elim
 |_::_,[],h=>h.elim
theorem Bh.mono_mem:∀{zs:List α}{bs:List β},(∀a∈zs,∀b,R a b->S a b)->Bh R zs bs->Bh S zs bs
 |[],[],_,_=>trivial
 |a::_,_::_,hRS,h=>⟨hRS a (by simp) _ h.1,Bh.mono_mem (fun x hx=>hRS x (by simp[hx])) h.2⟩
 |[],_::_,_,h=>h.elim
 |_::_,[],_,h=>h.elim
theorem Bh.app:∀{zs:List α}{bs:List β}{as':List α}{bs':List β},Bh R zs bs->Bh R as' bs'->Bh R (zs++as') (bs++bs')
 |[],[],_,_,_,h'=>h'
 |_::_,_::_,_,_,h,h'=>⟨h.1,Bh.app h.2 h'⟩
 |[],_::_,_,_,h,_=>h.elim
 |_::_,[],_,_,h,_=>h.elim
theorem Bh.take:∀(n:Nat){zs:List α}{bs:List β},Bh R zs bs->Bh R (zs.take n) (bs.take n)
 |0,_,_,_=>by simp[Bh]
 |_+1,[],[],_=>trivial
 |n+1,_::_,_::_,h=>⟨h.1,Bh.take n h.2⟩
 |_+1,[],_::_,h=>h.elim
 |_+1,_::_,[],h=>h.elim
theorem Bh.drop:∀(n:Nat){zs:List α}{bs:List β},Bh R zs bs->Bh R (zs.drop n) (bs.drop n)
 |0,_,_,h=>h
 |_+1,[],[],_=>trivial
 |n+1,_::_,_::_,h=>Bh.drop n h.2
 |_+1,[],_::_,h=>h.elim
 |_+1,_::_,[],h=>h.elim
end
inductive Ay (w:World) (A:Nat->Prop):PV->Value->Prop where
 |sc (v:Value):Ay w A (.sc v) v
 |top (v:Value):Ay w A .top v
 |ub (b:Bool):Ay w A .ub (.bool b)
 |lnil (z:Bool) (es:Nat):Ay w A (.lst z es 0 []) (.slice none 0 0)
 |lemp (es:Nat) (a:Addr) (cap:Nat):Ay w A (.lst false es 0 []) (.slice (some a) 0 cap)
 |lst (es n:Nat) (cells:List PV) (a:Addr) (cap:Nat) (f:Nat->Value) (hs:a.spot=none) (hb:a.block<w.heap.size) (hA:¬A a.block) (hn:n<=cap)
   (hc:∀j c,cells[j]?=some c->w.cell? (a.add j)=some (f j)) (h1:∀j c,cells[j]?=some c->(f j).oneCell'=true) (hr:∀j c,cells[j]?=some c->Ay w A c (f j)):Ay w A (.lst false es n cells) (.slice (some a) n cap)
def bsz (w:World)(b:Nat):Nat:=
 match w.heap[b]? with
 |some (.cells c _ _)=>c.size
 |_=>0
def TY (w:World)(b:Nat):Bool:=w.frozen? ⟨b,bsz w b,none⟩
def Fit (w:World)(es b e:Nat):Prop:=e<=bsz w b∧(es=1∨TY w b=false)
def Hh (w w':World)(b:Nat):Prop:=bsz w b<=bsz w' b∧(TY w b=false->TY w' b=false)
theorem Hh.refl (w:World)(b:Nat):Hh w w b:=⟨Nat.le_refl _,id⟩
theorem Hh.same {w w':World}{b:Nat}(h:w'.heap[b]?=w.heap[b]?):Hh w w' b:=by
 have e:bsz w' b=bsz w b:=by unfold bsz;rw[h]
 refine⟨by rw[e];exact Nat.le_refl _,fun q=>?_⟩
 unfold TY at q ⊢;rw[e];unfold World.frozen? at q ⊢;simp only[h];exact q
theorem Hh.trans {w w' w'':World}{b:Nat}(h:Hh w w' b)(h':Hh w' w'' b):Hh w w'' b:=⟨Nat.le_trans h.1 h'.1,fun q=>h'.2 (h.2 q)⟩
theorem Fit.step {w w':World}{es b e:Nat}(h:Fit w es b e)(hb:Hh w w' b):Fit w' es b e:=⟨Nat.le_trans h.1 hb.1,h.2.imp id hb.2⟩
def WY (w:World)(A:Nat->Prop)(a:Addr)(cells:List PV):Prop:=∀j c,cells[j]?=some c->∃v,w.cell? (a.add j)=some v∧v.oneCell'=true∧Ay w A c v
def B2 (w:World)(A:Nat->Prop)(β:Nat->Option (Nat × Nat)) (p:PV)(v:Value):Prop:=
 match p with
 |.view id es off n=>(β id=none∧off=0∧n=0∧∃ad,v=.slice ad 0 0) ∨
   ∃b o x cap,β id=some (b,o)∧v=.slice (some ⟨b,x,none⟩) n cap∧(x=o+off∨(n=0∧off≠0))∧n<=cap∧Fit w es b (x+cap*es)∧b<w.heap.size
 |.ptr id off=>∃b o,β id=some (b,o)∧v=.pointer (some ⟨b,o+off,none⟩)
 |.iptr c off=>∃a:Addr,v=.pointer (some (a.add off))∧a.spot=none∧a.block<w.heap.size∧¬A a.block∧WY w A a c
 |p=>Ay w A p v
def Hy (w:World)(A:Nat->Prop)(β:Nat->Option (Nat × Nat)) (p:PV)(v:Value):Prop:=
 match p with
 |.agg cs=>∃vs,v=.agg ⟨vs⟩∧Bh (B2 w A β) cs vs
 |p=>B2 w A β p v
def El (w:World)(A:Nat->Prop)(β:Nat->Option (Nat × Nat)) (p:PV)(v:Value):Prop:=
 match p with
 |.tup ps=>∃vs,v=.tuple ⟨vs⟩∧Bh (Hy w A β) ps vs
 |p=>Hy w A β p v
structure Cc (A:Nat->Prop) (w w':World):Prop where
 size:w.heap.size<=w'.heap.size
 keep:∀b,b<w.heap.size->¬A b->w'.heap[b]?=w.heap[b]?
 bs:∀b,b<w.heap.size->Hh w w' b
theorem E1 (a:Addr)(j:Nat):(a.add j).block=a.block:=by unfold Addr.add;split<;>rfl
theorem add_add (a:Addr)(i j:Nat):(a.add i).add j=a.add (i+j):=by
 unfold Addr.add;by_cases hi:i=0<;>by_cases hj:j=0<;>simp[hi,hj,Nat.add_assoc]
theorem Er (b o j:Nat):(⟨b,o,none⟩:Addr).add j=⟨b,o+j,none⟩:=by
 unfold Addr.add;by_cases hj:j=0<;>simp[hj]
theorem Alc {a:Addr}(h:a.spot=none)(j:Nat):(a.add j).spot=none:=by unfold Addr.add;split<;>simp[h]
section
variable {w w':World} {A A':Nat->Prop} {β β':Nat->Option (Nat × Nat)}
theorem Cc.cell (h:Cc A w w'){a:Addr}(hb:a.block<w.heap.size)(hA:¬A a.block):w'.cell? a=w.cell? a:=
 World.cell?_of_block (h.keep a.block hb hA)
theorem Ay.step (h:Cc A w w')(hA:∀b,b<w.heap.size->A' b->A b){p:PV}{v:Value}(t:Ay w A p v):Ay w' A' p v:=by
 induction t with
 |sc v=>exact .sc v
 |top v=>exact .top v
 |ub b=>exact .ub b
 |lnil z es=>exact .lnil z es
 |lemp es a cap=>exact .lemp es a cap
 |lst es n cells a cap f hs hb hA1 hn hc h1 hr ih=>
  refine .lst es n cells a cap f hs (Nat.lt_of_lt_of_le hb h.size) (fun x=>hA1 (hA _ hb x)) hn (fun j c hj=>?_) h1 (fun j c hj=>ih j c hj)
  rw[h.cell (by rw[E1];exact hb) (by rw[E1];exact hA1)]
  exact hc j c hj
theorem WY.step (h:Cc A w w')(hA:∀b,b<w.heap.size->A' b->A b){a:Addr}(hb:a.block<w.heap.size)(hn:¬A a.block){cells:List PV}(t:WY w A a cells):WY w' A' a cells:=by
 intro j c hj;obtain⟨v,hv,h1,ht⟩:=t j c hj;exact⟨v,by rw[h.cell (by rw[E1];exact hb) (by rw[E1];exact hn)];exact hv,h1,ht.step h hA⟩
theorem B2.step (h:Cc A w w')(hA:∀b,b<w.heap.size->A' b->A b){p:PV}{v:Value}(hβ:∀id∈As p,β' id=β id)(t:B2 w A β p v):B2 w' A' β' p v:=by
 cases p with
 |view id es off n=>
  have e:=hβ id (by simp[As])
  rcases t with⟨h1,h2,h3,h4⟩|⟨b,o,x,cap,h1,h2,hx,h3,h4,h5⟩
  ·exact .inl ⟨by rw[e];exact h1,h2,h3,h4⟩
  ·exact .inr ⟨b,o,x,cap,by rw[e];exact h1,h2,hx,h3,h4.step (h.bs b h5),Nat.lt_of_lt_of_le h5 h.size⟩
 |ptr id off=>
  have e:=hβ id (by simp[As])
  obtain⟨b,o,h1,h2⟩:=t;exact⟨b,o,by rw[e];exact h1,h2⟩
 |iptr c off=>
  obtain⟨a,h1,h2,h3,h4,h5⟩:=t;exact⟨a,h1,h2,Nat.lt_of_lt_of_le h3 h.size,fun x=>h4 (hA _ h3 x),h5.step h hA h3 h4⟩
 |sc v=>exact Ay.step h hA t
 |lst z es n c=>exact Ay.step h hA t
 |own es n c=>exact Ay.step h hA t
 |pbox c=>exact Ay.step h hA t
 |agg c=>exact Ay.step h hA t
 |tup c=>exact Ay.step h hA t
 |top=>exact Ay.step h hA t
 |ub=>exact Ay.step h hA t
theorem Hy.step (h:Cc A w w')(hA:∀b,b<w.heap.size->A' b->A b){p:PV}{v:Value}(hβ:∀id∈Cf p,β' id=β id)(t:Hy w A β p v):Hy w' A' β' p v:=by
 cases p with
 |agg cs=>
  obtain⟨vs,rfl,h2⟩:=t;exact⟨vs,rfl,h2.mono_mem fun c hc v hv=>hv.step h hA fun id Bm=>hβ id (by simp only[Cf,List.mem_flatMap];exact⟨c,hc,Bm⟩)⟩
 |sc x=>exact B2.step (p:=.sc x) h hA hβ t
 |lst x y z u=>exact B2.step (p:=.lst x y z u) h hA hβ t
 |own x y z=>exact B2.step (p:=.own x y z) h hA hβ t
 |view x y z u=>exact B2.step (p:=.view x y z u) h hA hβ t
 |ptr x y=>exact B2.step (p:=.ptr x y) h hA hβ t
 |iptr x y=>exact B2.step (p:=.iptr x y) h hA hβ t
 |pbox x=>exact B2.step (p:=.pbox x) h hA hβ t
 |tup x=>exact B2.step (p:=.tup x) h hA hβ t
 |top=>exact B2.step (p:=.top) h hA hβ t
 |ub=>exact B2.step (p:=.ub) h hA hβ t
theorem El.step (h:Cc A w w')(hA:∀b,b<w.heap.size->A' b->A b){p:PV}{v:Value}(hβ:∀id∈Bx p,β' id=β id)(t:El w A β p v):El w' A' β' p v:=by
 cases p with
 |tup cs=>
  obtain⟨vs,rfl,h2⟩:=t;exact⟨vs,rfl,h2.mono_mem fun c hc v hv=>hv.step h hA fun id Bm=>hβ id (by simp only[Bx,List.mem_flatMap];exact⟨c,hc,Bm⟩)⟩
 |sc x=>exact Hy.step (p:=.sc x) h hA hβ t
 |lst x y z u=>exact Hy.step (p:=.lst x y z u) h hA hβ t
 |own x y z=>exact Hy.step (p:=.own x y z) h hA hβ t
 |view x y z u=>exact Hy.step (p:=.view x y z u) h hA hβ t
 |ptr x y=>exact Hy.step (p:=.ptr x y) h hA hβ t
 |iptr x y=>exact Hy.step (p:=.iptr x y) h hA hβ t
 |pbox x=>exact Hy.step (p:=.pbox x) h hA hβ t
 |top=>exact Hy.step (p:=.top) h hA hβ t
 |ub=>exact Hy.step (p:=.ub) h hA hβ t
 |agg x=>exact Hy.step (p:=.agg x) h hA hβ t
theorem Cc.refl (A:Nat->Prop)(w:World):Cc A w w:=⟨Nat.le_refl _,fun _ _ _=>rfl,fun _ _=>Hh.refl _ _⟩
theorem WY.weak (hA:∀b,b<w.heap.size->A' b->A b){a:Addr}{cells:List PV}(t:WY w A a cells):WY w A' a cells:=by
 intro j c hj;obtain⟨v,hv,h1,ht⟩:=t j c hj;exact⟨v,hv,h1,ht.step (Cc.refl A w) hA⟩
theorem Cc.trans {w'':World}(h:Cc A w w')(h':Cc A' w' w'')(hA:∀b,b<w.heap.size->A' b->A b):Cc A w w'':=
  ⟨Nat.le_trans h.size h'.size,fun b hb hn=>(h'.keep b (Nat.lt_of_lt_of_le hb h.size) (fun x=>hn (hA b hb x))).trans (h.keep b hb hn),
   fun b hb=>(h.bs b hb).trans (h'.bs b (Nat.lt_of_lt_of_le hb h.size))⟩
theorem Cc.weaken (h:Cc A w w')(hA:∀b,b<w.heap.size->A b->A' b):Cc A' w w':=⟨h.size,fun b hb hn=>h.keep b hb (fun x=>hn (hA b hb x)),h.bs⟩
end
section
variable {R:Type} {r:R}
theorem En {k:IntKind}{p:PV}{K:Int->Option R}(h:Aj k p K=some r):∃n,p=.sc (.int k n)∧K n=some r:=by
 unfold Aj at h;split at h
 ·split at h
  ·rename_i hk;subst hk;exact⟨_,rfl,h⟩
  ·cases h
 ·cases h
theorem Dv {p:PV}{K:Bool->Option R}(h:Aq p K=some r):∃b,p=.sc (.bool b)∧K b=some r:=by
 unfold Aq at h;split at h
 ·exact⟨_,rfl,h⟩
 ·cases h
theorem Dq {p:PV}{K:ByteArray->Option R}(h:Ar p K=some r):∃b,p=.sc (.string b)∧K b=some r:=by
 unfold Ar at h;split at h
 ·exact⟨_,rfl,h⟩
 ·cases h
theorem Dn {p:PV}{K:IntKind->Int->Option R}(h:Ds p K=some r):∃k n,p=.sc (.int k n)∧K k n=some r:=by
 unfold Ds at h;split at h
 ·exact⟨_,_,rfl,h⟩
 ·cases h
theorem Al {b:Bool}{K:Option R}(h:A2 b K=some r):b=true∧K=some r:=by
 unfold A2 at h;cases b
 ·cases h
 ·exact⟨rfl,h⟩
theorem Ce {α:Type}{o:Option α}{K:α->Option R}(h:C5 o K=some r):∃a,o=some a∧K a=some r:=by
 unfold C5 at h;split at h
 ·exact⟨_,rfl,h⟩
 ·cases h
theorem Bb {α:Type}{l:List α}{K:α->List α->Option R}(h:Aa l K=some r):∃a t,l=a::t∧K a t=some r:=by
 unfold Aa at h;split at h
 ·exact⟨_,_,rfl,h⟩
 ·cases h
theorem Dr {α:Type}{l:List α}{K:Option R}(h:Ad l K=some r):l=[]∧K=some r:=by
 unfold Ad at h;split at h
 ·exact⟨rfl,h⟩
 ·cases h
theorem G2 {p:PV}{K:List PV->Option R}(h:F7 p K=some r):∃c,p=.agg c∧K c=some r:=by
 unfold F7 at h;split at h
 ·exact⟨_,rfl,h⟩
 ·cases h
theorem LJ {p:PV}{K:List PV->Option R}(h:Sn p K=some r):∃c,p=.pbox c∧K c=some r:=by
 unfold Sn at h;split at h
 ·exact⟨_,rfl,h⟩
 ·cases h
theorem Ac5 {p:PV}{K:Value->Option R}(h:fnK p K=some r):∃v,p=.sc v∧v.oneCell'=true∧K v=some r:=by
 unfold fnK at h;split at h
 ·exact⟨_,rfl,rfl,h⟩
 ·exact⟨_,rfl,rfl,h⟩
 ·cases h
theorem Ao9 {p:PV}{K:FuncId->Option R}(h:fvK p K=some r):∃f,p=.sc (.func (.func f) #[] #[])∧K f=some r:=by
 unfold fvK at h;split at h
 ·rename_i f a b;cases hb:(a.isEmpty&&b.isEmpty)<;>rw[hb] at h
  ·cases h
  ·simp only[Bool.and_eq_true,Array.isEmpty_iff] at hb;rw[hb.1,hb.2];exact⟨f,rfl,h⟩
 ·cases h
theorem KS {o:Option Ap}{K:List PV->List (List PV)->Option R} (h:Ah o K=some r):∃v x,o=some ⟨v,x⟩∧K v x=some r:=by
 unfold Ah at h;split at h
 ·exact⟨_,_,rfl,h⟩
 ·cases h
theorem Mf {b:Bool}{x y:Option R}(h:Ba b x y=some r):(b=true∧x=some r)∨(b=false∧y=some r):=by
 unfold Ba at h;cases b
 ·exact .inr ⟨rfl,h⟩
 ·exact .inl ⟨rfl,h⟩
theorem Fk {es:Nat}{p:PV}{K:Bool->Nat->List PV->Option R}(h:F1 es p K=some r):
  ∃z n c,K z n c=some r∧(p=.lst z es n c∨(p=.sc (.slice none 0 0)∧z=true∧n=0∧c=[])):=by
 unfold F1 at h;split at h
 ·rename_i z es' n c;cases hb:Nat.beq es' es
  ·rw[hb] at h;cases h
  ·rw[hb] at h;have:=Nat.eq_of_beq_eq_true hb;subst this;exact⟨z,n,c,h,.inl rfl⟩
 ·exact⟨true,0,[],h,.inr ⟨rfl,rfl,rfl,rfl⟩⟩
 ·cases h
def Vr:PV->Prop
 |.sc _=>True
 |.lst _ _ _ _=>True
 |_=>False
def JM:PV->Prop
 |.sc _=>True
 |.lst _ _ _ _=>True
 |.view _ _ _ _=>True
 |_=>False
theorem Rl {c:PV}(h:Vr c):JM c:=by
 cases c<;>first|trivial|exact h.elim
theorem Hs {c:PV}(h:Vr c):As c=[]:=by
 cases c<;>first|rfl|exact h.elim
variable {w:World} {A:Nat->Prop} {β:Nat->Option (Nat × Nat)}
theorem Ks {c:PV}{v:Value}(h:Vr c):B2 w A β c v↔Ay w A c v:=by
 cases c<;>first|exact Iff.rfl|exact h.elim
theorem Zm {c:PV}{v:Value}(h:∀cs,c ≠ .agg cs):Hy w A β c v↔B2 w A β c v:=by
 cases c<;>first|exact Iff.rfl|exact absurd rfl (h _)
theorem Ok {c:PV}{v:Value}(h:∀cs,c ≠ .tup cs):El w A β c v↔Hy w A β c v:=by
 cases c<;>first|exact Iff.rfl|exact absurd rfl (h _)
theorem Ym {c:PV}(h:Vr c)(cs:List PV):c ≠ .agg cs:=by rintro rfl;exact h
theorem Acp {c:PV}(h:Vr c)(cs:List PV):c ≠ .tup cs:=by rintro rfl;exact h
theorem Ay.val {v u:Value}(h:Ay w A (.sc v) u):u=v:=by cases h;rfl
theorem Wz {es n:Nat}{z:Bool}{c:List PV}{p:PV}{v:Value}(h:p=.lst z es n c∨(p=.sc (.slice none 0 0)∧z=true∧n=0∧c=[])) (hv:B2 w A β p v):Ay w A (.lst z es n c) v:=by
 rcases h with rfl|⟨rfl,rfl,rfl,rfl⟩
 ·exact hv
 ·have:=Ay.val (w:=w) (A:=A) hv;subst this;exact .lnil true es
theorem Mp {t:CT}{p:PV}{K:PV->Option R}(h:BG t p K=some r):
  ∃c,K c=some r∧Vr c∧Vr p∧∀(w:World) (A:Nat->Prop) (β:Nat->Option (Nat × Nat)) (v:Value),B2 w A β p v->Ay w A c v∧v.oneCell'=true:=by
 cases t with
 |int k=>obtain⟨n,rfl,h2⟩:=En h;exact⟨_,h2,trivial,trivial,fun w A β v hv=>⟨hv,by have:=Ay.val (w:=w) (A:=A) hv;subst this;rfl⟩⟩
 |bool=>obtain⟨n,rfl,h⟩:=Dv h;exact⟨_,h,trivial,trivial,fun w A β v hv=>⟨hv,by have:=Ay.val (w:=w) (A:=A) hv;subst this;rfl⟩⟩
 |str=>obtain⟨n,rfl,h⟩:=Dq h;exact⟨_,h,trivial,trivial,fun w A β v hv=>⟨hv,by have:=Ay.val (w:=w) (A:=A) hv;subst this;rfl⟩⟩
 |sl es=>
  obtain⟨z,n,c,h,hp⟩:=Fk h;refine⟨_,h,trivial,?_,fun w A β v hv=>⟨Wz hp hv,?_⟩⟩
  ·rcases hp with rfl|⟨rfl,_⟩<;>trivial
  ·have ht:=Wz hp hv;cases ht<;>rfl
 |any=>
  obtain⟨u,rfl,h1,h2⟩:=Ac5 (show fnK p (fun v=>K (.sc v))=some r from h)
  exact⟨_,h2,trivial,trivial,fun w A β v hv=>⟨hv,by have:=Ay.val (w:=w) (A:=A) hv;subst this;exact h1⟩⟩
theorem Aom {t:CT}{p:PV}{K:PV->Option R}(h:fcK t p K=some r):
  ∃c,K c=some r∧(Vr c∨c=p)∧JM p∧p ≠ .top∧(∀cs,c ≠ .agg cs)∧(∀cs,c ≠ .tup cs)∧(∀id,id∈As c->id∈As p)∧∀(w:World) (A:Nat->Prop) (β:Nat->Option (Nat × Nat)) (v:Value),B2 w A β p v->B2 w A β c v∧v.oneCell'=true:=by
 have tree:∀t',BG t' p K=some r->∃c,K c=some r∧(Vr c∨c=p)∧JM p∧p ≠ .top∧(∀cs,c ≠ .agg cs)∧(∀cs,c ≠ .tup cs)∧(∀id,id∈As c->id∈As p)∧∀(w:World) (A:Nat->Prop) (β:Nat->Option (Nat × Nat)) (v:Value),B2 w A β p v->B2 w A β c v∧v.oneCell'=true:=by
  intro t' h;obtain⟨c,h,hc,hp,hv⟩:=Mp h;exact⟨c,h,.inl hc,Rl hp,by rintro rfl;exact hp,Ym hc,Acp hc,by rw[Hs hc];simp,fun w A β v h=>⟨(Ks hc).2 (hv w A β v h).1,(hv w A β v h).2⟩⟩
 cases t with
 |sl es=>
  unfold fcK fsK at h;dsimp only at h;split at h
  ·rename_i id es' off n;cases hb:Nat.beq es' es
   ·rw[hb] at h;cases h
   ·rw[hb] at h;have:=Nat.eq_of_beq_eq_true hb;subst this;exact⟨_,h,.inr rfl,trivial,by simp,by simp,by simp,fun _ h=>h,fun _ _ _ _ h=>⟨h,by rcases h with⟨_,_,_,_,rfl⟩|⟨_,_,_,_,_,rfl,_⟩<;>rfl⟩⟩
  ·exact tree (.sl es) h
 |int k=>exact tree (.int k) h
 |bool=>exact tree (.bool) h
 |str=>exact tree (.str) h
 |any=>exact tree (.any) h
theorem BX {cells:List PV}{i:Nat}{p:PV}(h:cells.getD i .top=p)(hp:p ≠ .top):cells[i]?=some p:=by
 rw[List.getD_eq_getElem?_getD] at h;cases hc:cells[i]? with
 |none=>rw[hc] at h;exact absurd h.symm hp
 |some q=>rw[hc] at h;simp at h;rw[h]
theorem S7:∀{ts:List CT}{cells:List PV}{off:Nat}{K:List PV->Option R},R7 ts cells off K=some r ->
  ∃cs,K cs=some r∧cs.length=ts.length∧∀j c,cs[j]?=some c->Vr c∧∃p,cells[off+j]?=some p∧Vr p ∧
   ∀(w:World) (A:Nat->Prop) (β:Nat->Option (Nat × Nat)) (v:Value),B2 w A β p v->Ay w A c v∧v.oneCell'=true
 |[],_,_,_,h=>⟨[],h,rfl,fun j c hj=>by simp at hj⟩
 |t::ts,cells,off,K,h=>by
  unfold R7 at h;obtain⟨c,h,hc,hp,hv⟩:=Mp h;obtain⟨cs,h,hl,EN⟩:=S7 h;refine⟨c::cs,h,by simp[hl],fun j c' hj=>?_⟩
  cases j with
  |zero=>
   simp at hj;subst hj;refine⟨hc,cells.getD off .top,BX rfl ?_,hp,hv⟩;intro e;rw[e] at hp;exact hp
  |succ j=>
   simp at hj;have:=EN j c' hj
   rwa [Nat.add_right_comm,Nat.add_assoc] at this
theorem Tj:∀{ts:List CT}{cells:List PV}{off:Nat}{K:List PV->Option R},Od ts cells off K=some r ->
  ∃cs,K cs=some r∧cs.length=ts.length∧(∀c∈cs,(∀x,c ≠ .agg x)∧(∀x,c ≠ .tup x))∧∀j c,cs[j]?=some c->∃p,cells[off+j]?=some p∧JM p∧(∀id,id∈As c->id∈As p) ∧
   ∀(w:World) (A:Nat->Prop) (β:Nat->Option (Nat × Nat)) (v:Value),B2 w A β p v->B2 w A β c v∧v.oneCell'=true
 |[],_,_,_,h=>⟨[],h,rfl,by simp,fun j c hj=>by simp at hj⟩
 |t::ts,cells,off,K,h=>by
  unfold Od at h;obtain⟨c,h,hc,hf,hp,ha,ht,hr,hv⟩:=Aom h;obtain⟨cs,h,hl,Zw,EN⟩:=Tj h;refine⟨c::cs,h,by simp[hl],?_,fun j c' hj=>?_⟩
  ·intro x hx;rcases List.mem_cons.1 hx with rfl|hx
   ·exact⟨ha,ht⟩
   ·exact Zw x hx
  ·cases j with
   |zero=>
    simp at hj;subst hj;exact⟨cells.getD off .top,BX rfl hp,hf,hr,hv⟩
   |succ j=>
    simp at hj;have:=EN j c' hj
    rwa [Nat.add_right_comm,Nat.add_assoc] at this
theorem QC {agg:Bool}{cells:List PV}{K:PV->Option R}(h:mkV agg cells K=some r):
  (agg=true∧K (.agg cells)=some r)∨(agg=false∧∃c,cells=[c]∧K c=some r):=by
 unfold mkV at h;cases agg
 ·obtain⟨c,t,rfl,h⟩:=Bb h;obtain⟨rfl,h⟩:=Dr h;exact .inr ⟨rfl,c,rfl,h⟩
 ·exact .inl ⟨rfl,h⟩
end
open Go.RowKit
def Dd (b:Option Bs):Prop:=
 match b with
 |some (.st _)=>True
 |some (.ar false _)=>True
 |_=>False
abbrev Bt:=Nat->Option (Nat × Nat)
def NZ (hp:Nat->Option Bs)(β:Bt)(b:Nat):Prop:=∃id o,Dd (hp id)∧β id=some (b,o)
def Db (hp:Nat->Option Bs)(β:Bt)(Y:Nat->Prop)(b:Nat):Prop:=NZ hp β b∨Y b
def Q4 (w:World)(A:Nat->Prop)(β:Bt)(id:Nat)(bx:Bs):Prop:=
 match bx with
 |.st cells=>∃b o,β id=some (b,o)∧(∀j c,cells[j]?=some c->∃v,w.cell? ⟨b,o+j,none⟩=some v∧B2 w A β c v)∧∀j,j<cells.length->w.frozen? ⟨b,o+j,none⟩=false
 |.ar fz cells=>(β id=none∧cells=[])∨∃b o,β id=some (b,o)∧WY w A ⟨b,o,none⟩ cells∧(fz=false->∀j,o<=j->j<bsz w b->w.frozen? ⟨b,j,none⟩=false)∧(fz=true->¬A b)
 |.mv=>True
structure H0 where
 X:Nat->Prop
 L:Nat->Nat->Prop
 pn:Nat->Prop
 pt:Nat->Option (Nat × Nat)
 p8:∀i,pn i->i<8
def BR (bx:Bs)(o j:Nat):Prop:=
 match bx with
 |.st c=>o<=j∧j<o+c.length
 |.ar _ _=>o<=j
 |.mv=>False
structure Fr (X0:H0) (w0 w:World):Prop where
 os:w.os=w0.os
 tape:w.tape=w0.tape
 output:w.output=w0.output
 step:Cc X0.X w0 w
 rng:∀b j,b<w0.heap.size->¬X0.L b j->w.cell? ⟨b,j,none⟩=w0.cell? ⟨b,j,none⟩∧w.frozen? ⟨b,j,none⟩=w0.frozen? ⟨b,j,none⟩
structure Cw (N:Nat) (w0:World) (X0:H0) (Y:Nat->Prop) (β:Bt) (s:St) (a:Act) (w:World):Prop where
 dfr:a.defers=[]
 tsz:a.tmps.size=N
 tmo:∀i,N<=i->s.tm i=.top
 tms:∀i,i<N->El w (Db s.hp β Y) β (s.tm i) (a.tmps.getD i undef)
 box:∀id b,s.hp id=some b->Q4 w (Db s.hp β Y) β id b
 inj:∀id id' b o o',Dd (s.hp id)->Dd (s.hp id')->β id=some (b,o)->β id'=some (b,o')->id=id'
 blt:∀id b o,s.hp id≠none->β id=some (b,o)->b<w.heap.size
 wfT:∀i,i<N->∀id∈Bx (s.tm i),s.hp id≠none
 wfB:∀id cells,s.hp id=some (.st cells)->∀c∈cells,∀id'∈As c,s.hp id'≠none
 ownd:∀b,NZ s.hp β b->X0.X b∨w0.heap.size<=b
 rngB:∀id bx b o,s.hp id=some bx->Dd (some bx)->β id=some (b,o)->b<w0.heap.size->∀j,BR bx o j->X0.L b j
 pin:∀i,X0.pn i->s.hp (Do N i)≠none∧β (Do N i)=X0.pt i
 stp:∀id c b o,s.hp id=some (.st c)->β id=some (b,o)->b<w0.heap.size->∃i,id=Do N i∧X0.pn i
 Yx:∀b,Y b->¬NZ s.hp β b
 Ylt:∀b,Y b->b<w0.heap.size
 fr:Fr X0 w0 w
theorem Cz {b:Option Bs}(h:Dd b):b≠none:=by rintro rfl;exact h
theorem An {α:Type}(f:Nat->α)(i:Nat)(v:α):Cs f i v i=v:=by simp[Cs,Nat.beq_refl]
theorem Ak {α:Type}(f:Nat->α){i j:Nat}(v:α)(h:j≠i):Cs f i v j=f j:=by
 have:Nat.beq j i=false:=by
  cases hb:Nat.beq j i
  ·rfl
  ·exact absurd (Nat.eq_of_beq_eq_true hb) h
 simp[Cs,this]
theorem Za {α:Type}(f:Nat->α){i:Nat}{v:α}(h:f i=v):Cs f i v=f:=by
 funext j
 by_cases e:j=i
 ·subst e;rw[An];exact h.symm
 ·exact Ak f v e
theorem WE {α:Type}(f:Nat->α){i j:Nat}(u v:α)(h:i≠j):Cs (Cs f i u) j v=Cs (Cs f j v) i u:=by
 funext k
 by_cases e:k=j
 ·subst e;rw[An,Ak _ _ (Ne.symm h),An]
 ·rw[Ak _ _ e];by_cases e':k=i
  ·subst e';rw[An,An]
  ·rw[Ak _ _ e',Ak _ _ e',Ak _ _ e]
theorem JC {a:Act}{d:Nat}{v:Value}(h:d<a.tmps.size):(a.put (some d) v).tmps.getD d undef=v:=by
 simp[Act.put,h]
theorem HA {a:Act}{d i:Nat}{v:Value}(h:i≠d):(a.put (some d) v).tmps.getD i undef=a.tmps.getD i undef:=by
 have h':d≠i:=fun e=>h e.symm
 simp[Act.put,Array.getElem?_setIfInBounds_ne h']
section
variable {N:Nat} {w0:World} {X0:H0} {Y:Nat->Prop} {β β':Bt} {s:St} {a:Act} {w w':World}
theorem Ya (d:Option Tmp)(v:Value):(a.put d v).tmps.size=a.tmps.size:=by cases d<;>simp[Act.put]
theorem Ro (d:Option Tmp)(v:Value):(a.put d v).defers=a.defers:=by cases d<;>rfl
theorem P7 {d:Option Tmp}(h:Gb N d=true){i:Nat}(e:d=some i):i<N:=by
 subst e;exact Nat.lt_of_succ_le (Nat.le_of_ble_eq_true h)
theorem Oz {Q:Nat->PV->Value->Prop}{tm:Nat->PV}{d:Option Tmp}{v:PV}{val:Value}(hN:a.tmps.size=N)(hd:Gb N d=true)
  (h:∀i,i<N->Q i (tm i) (a.tmps.getD i undef)) (hv:∀i,Q i v val):∀i,i<N->Q i (Bp tm d v i) ((a.put d val).tmps.getD i undef):=by
 intro i hi;cases d with
 |none=>exact h i hi
 |some d=>
  have Cb:=P7 hd rfl;by_cases e:i=d
  ·subst e;show Q i (Cs tm i v i) _;rw[An,JC (by omega)]
   exact hv i
  ·show Q i (Cs tm d v i) _;rw[Ak _ _ e,HA e];exact h i hi
theorem NT {tm:Nat->PV}{d:Option Tmp}{v:PV}(hd:Gb N d=true)(h:∀i,N<=i->tm i=.top):∀i,N<=i->Bp tm d v i=.top:=by
 intro i hi;cases d with
 |none=>exact h i hi
 |some d=>
  have:=P7 hd rfl;show Cs tm d v i=_;rw[Ak _ _ (by omega)]
  exact h i hi
theorem Cw.put (h:Cw N w0 X0 Y β s a w){d:Option Tmp}{v:PV}{val:Value}(hd:Gb N d=true)(hv:El w (Db s.hp β Y) β v val) (hr:∀id∈Bx v,s.hp id≠none):
  Cw N w0 X0 Y β ⟨Bp s.tm d v,s.hp⟩ (a.put d val) w where
 dfr:=by rw[Ro];exact h.dfr
 tsz:=by rw[Ya];exact h.tsz
 tmo:=NT hd h.tmo
 tms:=Oz (Q:=fun _ p u=>El w (Db s.hp β Y) β p u) h.tsz hd h.tms (fun _=>hv)
 box:=h.box
 inj:=h.inj
 blt:=h.blt
 wfT:=by
  have:=Oz (Q:=fun _ p _=>∀id∈Bx p,s.hp id≠none) (val:=val) h.tsz hd h.wfT (fun _=>hr)
  exact this
 wfB:=h.wfB
 ownd:=h.ownd
 rngB:=h.rngB
 pin:=h.pin
 stp:=h.stp
 Yx:=h.Yx
 Ylt:=h.Ylt
 fr:=h.fr
theorem B0 (hp:Nat->Option Bs)(ids:List Nat)(i:Nat):Ag hp ids i=if i∈ids then (hp i).map Tm else hp i:=by
 unfold Ag;by_cases hi:i∈ids
 ·have:ids.any (Nat.beq i)=true:=List.any_eq_true.2 ⟨i,hi,Nat.beq_refl i⟩;rw[this,if_pos hi];rfl
 ·have:ids.any (Nat.beq i)=false:=by
   cases hb:ids.any (Nat.beq i)
   ·rfl
   ·obtain⟨j,hj,e⟩:=List.any_eq_true.1 hb;exact absurd (Nat.eq_of_beq_eq_true e ▸ hj) hi
  rw[this,if_neg hi];rfl
theorem D7 {hp:Nat->Option Bs}{ids:List Nat}{i:Nat}:Ag hp ids i=none↔hp i=none:=by
 rw[B0];split<;>simp
theorem Oi {hp:Nat->Option Bs}{ids:List Nat}{i:Nat}(h:Dd (Ag hp ids i)):Dd (hp i):=by
 rw[B0] at h;split at h
 ·cases hb:hp i with
  |none=>rw[hb] at h;exact h
  |some b=>cases b with
   |st c=>trivial
   |ar fz c=>rw[hb] at h;exact h.elim
   |mv=>rw[hb] at h;exact h
 ·exact h
theorem Ij {hp:Nat->Option Bs}{ids:List Nat}{i:Nat}{bx:Bs}(h:Ag hp ids i=some bx)(hl:Dd (some bx)):hp i=some bx:=by
 rw[B0] at h;split at h
 ·cases hb:hp i with
  |none=>rw[hb] at h;cases h
  |some b=>
   rw[hb] at h;cases b with
   |st c=>exact h
   |ar fz c=>simp only[Option.map_some,Tm,Option.some.injEq] at h;subst h;exact hl.elim
   |mv=>simp only[Option.map_some,Tm,Option.some.injEq] at h;subst h;exact hl.elim
 ·exact h
theorem Pt {hp:Nat->Option Bs}{ids:List Nat}{b:Nat}(h:NZ (Ag hp ids) β b):NZ hp β b:=by
 obtain⟨id,o,hl,hb⟩:=h;exact⟨id,o,Oi hl,hb⟩
theorem Q4.step' {A A':Nat->Prop}{id:Nat}{bx:Bs}(hA:∀b,A' b->A b)(h:Q4 w A β id bx):Q4 w A' β id bx:=by
 have hs:=Cc.refl A w;cases bx with
 |st c=>
  obtain⟨b,o,h1,h2,h3⟩:=h;exact⟨b,o,h1,fun j c hj=>let ⟨v,hv,hc⟩:=h2 j c hj;⟨v,hv,hc.step hs (fun b _=>hA b) (fun _ _=>rfl)⟩,h3⟩
 |ar fz c=>
  rcases h with h|⟨b,o,h1,h2,h3,h4⟩
  ·exact .inl h
  ·exact .inr ⟨b,o,h1,h2.weak (fun b _=>hA b),h3,fun e x=>h4 e (hA b x)⟩
 |mv=>trivial
theorem Cw.freeze (h:Cw N w0 X0 Y β s a w){fz:List Nat}(AB:∀id∈fz,∃f c,s.hp id=some (.ar f c)):Cw N w0 X0 Y β ⟨s.tm,Ag s.hp fz⟩ a w:=by
 have hA:∀b,Db (Ag s.hp fz) β Y b->Db s.hp β Y b:=fun b hb=>hb.imp Pt id
 refine⟨h.dfr,h.tsz,h.tmo,fun i hi=>(h.tms i hi).step (Cc.refl _ _) (fun b _=>hA b) (fun _ _=>rfl),fun id b hb=>?_,fun id id' b o o' h1 h2=>h.inj id id' b o o' (Oi h1) (Oi h2),
  fun id b o hn=>h.blt id b o (fun e=>hn (D7.2 e)),fun i hi id Bm e=>h.wfT i hi id Bm (D7.1 e),fun id cells hc c TV id' Bm e=>?_,fun b hb=>h.ownd b (Pt hb),
  fun id bx b o hb hl=>h.rngB id bx b o (Ij hb hl) hl,fun i hi=>⟨fun e=>(h.pin i hi).1 (D7.1 e),(h.pin i hi).2⟩,fun id c b o hc=>h.stp id c b o (Ij hc trivial),fun b hb x=>h.Yx b hb (Pt x),h.Ylt,h.fr⟩
 ·simp only at hb;rw[B0] at hb;split at hb
  ·rename_i hm;obtain⟨f,c,hc⟩:=AB id hm;rw[hc] at hb;simp only[Option.map_some,Tm,Option.some.injEq] at hb;subst hb;have Lj:=h.box id _ hc;rcases Lj with Lj|⟨b,o,h1,h2,h3,h4⟩
   ·exact .inl Lj
   ·refine .inr ⟨b,o,h1,h2.weak (fun b _=>hA b),(fun e=>by cases e),fun _ hb=>?_⟩
    rcases hb with⟨id',o',hl,hb⟩|hY
    ·have hl0:=Oi hl;cases f with
     |true=>exact h4 rfl (.inl ⟨id',o',hl0,hb⟩)
     |false=>
      have e:=h.inj id' id b o' o hl0 (by rw[hc];trivial) hb h1
      subst e;simp only at hl;rw[B0,if_pos hm,hc] at hl;exact hl
    ·cases f with
     |true=>exact h4 rfl (.inr hY)
     |false=>exact h.Yx b hY ⟨id,o,by rw[hc];trivial,h1⟩
  ·exact (h.box id b hb).step' hA
 ·simp only at hc;rw[B0] at hc;refine h.wfB id cells ?_ c TV id' Bm (D7.1 e);split at hc
  ·rename_i hm;obtain⟨f,c,Q6⟩:=AB id hm;rw[Q6] at hc;cases hc
  ·exact hc
theorem Bn:∀{nw:List (Nat × Bs)} {hp:Nat->Option Bs},Bw hp nw=true ->
  (∀id bx,(id,bx)∈nw->hp id=none)∧(∀id bx bx',(id,bx)∈nw->(id,bx')∈nw->bx=bx')
 |[],_,_=>⟨by simp,by simp⟩
 |(i,b)::r,hp,h=>by
  simp only[Bw,Bool.and_eq_true,Option.isNone_iff_eq_none,Bool.not_eq_true'] at h;obtain⟨⟨h1,h2⟩,h3⟩:=h;obtain⟨h4,h5⟩:=Bn h3
  have E2:∀bx,(i,bx) ∉ r:=by
   intro bx hm;have:r.any (fun q=>Nat.beq q.1 i)=true:=List.any_eq_true.2 ⟨_,hm,Nat.beq_refl i⟩
   rw[this] at h2;cases h2
  refine⟨fun id bx hm=>?_,fun id bx bx' hm J1=>?_⟩
  ·rcases List.mem_cons.1 hm with e|hm
   ·cases e;exact h1
   ·exact h4 id bx hm
  ·rcases List.mem_cons.1 hm with e|hm
   ·cases e;rcases List.mem_cons.1 J1 with e|J1
    ·cases e;rfl
    ·exact absurd J1 (E2 _)
   ·rcases List.mem_cons.1 J1 with e|J1
    ·cases e;exact absurd hm (E2 _)
    ·exact h5 id bx bx' hm J1
theorem Ei:∀{nw:List (Nat × Bs)} {hp:Nat->Option Bs},(∀id bx bx',(id,bx)∈nw->(id,bx')∈nw->bx=bx') ->
  (∀id bx,(id,bx)∈nw->At hp nw id=some bx)∧(∀id,(∀bx,(id,bx) ∉ nw)->At hp nw id=hp id)
 |[],_,_=>⟨by simp,fun _ _=>rfl⟩
 |(i,b)::r,hp,h=>by
  obtain⟨h1,h2⟩:=Ei (nw:=r) (hp:=Cs hp i (some b)) (fun id bx bx' hm J1=>h id bx bx' (by simp[hm]) (by simp[J1]))
  refine⟨fun id bx hm=>?_,fun id hn=>?_⟩
  ·by_cases hr:∃bx',(id,bx')∈r
   ·obtain⟨bx',hr⟩:=hr;have:=h id bx bx' hm (by simp[hr])
    subst this;exact h1 id bx hr
   ·rcases List.mem_cons.1 hm with e|hm
    ·cases e;show At (Cs hp i (some b)) r i=_;rw[h2 i (fun bx' hb=>hr ⟨bx',hb⟩),An]
    ·exact absurd ⟨bx,hm⟩ hr
  ·show At (Cs hp i (some b)) r id=_;rw[h2 id (fun bx hb=>hn bx (by simp[hb])),Ak]
   rintro rfl
   exact hn b (by simp)
structure LZ (Y:Nat->Prop) (β:Bt) (s:St) (w:World) (v:PV) (nw:List (Nat × Bs)) (val:Value) (w':World) (β':Bt):Prop where
 os:w'.os=w.os
 tape:w'.tape=w.tape
 output:w'.output=w.output
 ext:Cc (fun _=>False) w w'
 old:∀id,s.hp id≠none->β' id=β id
 nlive:∀id bx,(id,bx)∈nw->Dd (some bx)
 nbox:∀id bx,(id,bx)∈nw->Q4 w' (Db (At s.hp nw) β' Y) β' id bx
 nblk:∀id bx b o,(id,bx)∈nw->β' id=some (b,o)->w.heap.size<=b∧b<w'.heap.size
 ninj:∀id bx id' bx' b o o',(id,bx)∈nw->(id',bx')∈nw->β' id=some (b,o)->β' id'=some (b,o')->id=id'
 nwf:∀id cells,(id,.st cells)∈nw->∀c∈cells,∀id'∈As c,s.hp id'≠none∨∃bx,(id',bx)∈nw
 val:El w' (Db (At s.hp nw) β' Y) β' v val
 vwf:∀id∈Bx v,s.hp id≠none∨∃bx,(id,bx)∈nw
theorem Cw.stepR (h:Cw N w0 X0 Y β s a w){d:Option Tmp}{v:PV}{nw:List (Nat × Bs)} {val:Value}(hd:Gb N d=true)(Pc:Bw s.hp nw=true)
  (st:LZ Y β s w v nw val w' β'):Cw N w0 X0 Y β' ⟨Bp s.tm d v,At s.hp nw⟩ (a.put d val) w':=by
 obtain⟨ha1,Kl⟩:=Bn Pc;obtain⟨hg1,hg2⟩:=Ei (hp:=s.hp) Kl
 have G6:∀id,(∃bx,(id,bx)∈nw)∨At s.hp nw id=s.hp id:=fun id=>by
  by_cases hx:∃bx,(id,bx)∈nw
  ·exact .inl hx
  ·exact .inr (hg2 id fun bx hb=>hx ⟨bx,hb⟩)
 have A4n:∀id,s.hp id≠none->At s.hp nw id=s.hp id:=fun id hn=>by
  rcases G6 id with⟨bx,hx⟩|e
  ·exact absurd (ha1 id bx hx) hn
  ·exact e
 have N7:∀id,(s.hp id≠none∨∃bx,(id,bx)∈nw)->At s.hp nw id≠none:=by
  rintro id (hn|⟨bx,hx⟩)
  ·rw[A4n id hn];exact hn
  ·rw[hg1 id bx hx];simp
 have Ass:∀b,b<w.heap.size->NZ (At s.hp nw) β' b->NZ s.hp β b:=by
  rintro b hb ⟨id,o,hl,hβ⟩
  rcases G6 id with⟨bx,hx⟩|e
  ·have:=(st.nblk id bx b o hx hβ).1;omega
  ·rw[e] at hl;exact⟨id,o,hl,by rw[←st.old id (Cz hl)];exact hβ⟩
 have Ac1:∀b,b<w.heap.size->Db (At s.hp nw) β' Y b->Db s.hp β Y b:=fun b hb hA=>hA.imp (Ass b hb) id
 have Acw:Cc (Db s.hp β Y) w w':=st.ext.weaken (fun _ _ x=>x.elim)
 refine⟨by rw[Ro];exact h.dfr,by rw[Ya];exact h.tsz,NT hd h.tmo,?_,?_,?_,?_,?_,?_,?_,?_,?_,?_,?_,h.Ylt,?_⟩
 ·refine Oz (Q:=fun _ p u=>El w' (Db (At s.hp nw) β' Y) β' p u) h.tsz hd (fun i hi=>?_) (fun _=>st.val)
  exact (h.tms i hi).step Acw Ac1 fun id Bm=>st.old id (h.wfT i hi id Bm)
 ·intro id b hb;simp only at hb;rcases G6 id with⟨bx,hx⟩|e
  ·rw[hg1 id bx hx] at hb;cases hb;exact st.nbox id _ hx
  ·rw[e] at hb;have hβ:=st.old id (by rw[hb];simp)
   have Lj:=h.box id b hb;have Cb:=h.blt id;have E2:s.hp id≠none:=by rw[hb];simp
   cases b with
   |st c=>
    obtain⟨b,o,h1,h2,h3⟩:=Lj;have H5:=Cb b o E2 h1;have Qt:=st.ext.keep b H5 (fun x=>x)
    refine⟨b,o,by rw[hβ];exact h1,fun j c hj=>?_,fun j hj=>?_⟩
    ·obtain⟨v,hv,hc⟩:=h2 j c hj;refine⟨v,by rw[World.cell?_of_block (w:=w) Qt];exact hv,hc.step Acw Ac1 fun id' Bm=>st.old id' ?_⟩
     exact h.wfB id _ hb c (List.mem_of_getElem? hj) id' Bm
    ·rw[World.frozen?_of_block (w:=w) Qt];exact h3 j hj
   |ar fz c=>
    rcases Lj with⟨h1,h2⟩|⟨b,o,h1,h2,h3,h4⟩
    ·exact .inl ⟨by rw[hβ];exact h1,h2⟩
    ·have H5:=Cb b o E2 h1;have Qt:=st.ext.keep b H5 (fun x=>x)
     have KC:bsz w' b=bsz w b:=by unfold bsz;rw[Qt]
     refine .inr ⟨b,o,by rw[hβ];exact h1,fun j c hj=>?_,fun e j hj Sd=>?_,fun e x=>h4 e (Ac1 b H5 x)⟩
     ·obtain⟨v,hv,h5,hc⟩:=h2 j c hj;exact⟨v,by rw[World.cell?_of_block (w:=w) (by rw[E1];exact Qt)];exact hv,h5,hc.step Acw Ac1⟩
     ·rw[World.frozen?_of_block (w:=w) Qt];exact h3 e j hj (by rw[←KC];exact Sd)
   |mv=>trivial
 ·intro id id' b o o' hl Ke hb H5;simp only at hl Ke;rcases G6 id with⟨bx,hx⟩|e
  ·rcases G6 id' with⟨bx',Tg⟩|e'
   ·exact st.ninj id bx id' bx' b o o' hx Tg hb H5
   ·rw[e'] at Ke;have h1:=(st.nblk id bx b o hx hb).1;have h2:=h.blt id' b o' (Cz Ke) (by rw[←st.old id' (Cz Ke)];exact H5)
    omega
  ·rw[e] at hl;rcases G6 id' with⟨bx',Tg⟩|e'
   ·have h1:=(st.nblk id' bx' b o' Tg H5).1;have h2:=h.blt id b o (Cz hl) (by rw[←st.old id (Cz hl)];exact hb)
    omega
   ·rw[e'] at Ke;exact h.inj id id' b o o' hl Ke (by rw[←st.old id (Cz hl)];exact hb) (by rw[←st.old id' (Cz Ke)];exact H5)
 ·intro id b o hn hb;simp only at hn;rcases G6 id with⟨bx,hx⟩|e
  ·exact (st.nblk id bx b o hx hb).2
  ·rw[e] at hn;exact Nat.lt_of_lt_of_le (h.blt id b o hn (by rw[←st.old id hn];exact hb)) st.ext.size
 ·have:=Oz (Q:=fun _ p _=>∀id∈Bx p,At s.hp nw id≠none) (val:=val) (d:=d) (v:=v) h.tsz hd (fun i hi id Bm=>N7 id (.inl (h.wfT i hi id Bm))) (fun _ id Bm=>N7 id (st.vwf id Bm))
  exact this
 ·intro id cells hc c TV id' Bm;simp only at hc;rcases G6 id with⟨bx,hx⟩|e
  ·rw[hg1 id bx hx] at hc;cases hc;exact N7 id' (st.nwf id _ hx c TV id' Bm)
  ·rw[e] at hc;exact N7 id' (.inl (h.wfB id cells hc c TV id' Bm))
 ·rintro b ⟨id,o,hl,hb⟩
  simp only at hl;rcases G6 id with⟨bx,hx⟩|e
  ·exact .inr (Nat.le_trans h.fr.step.size (st.nblk id bx b o hx hb).1)
  ·rw[e] at hl;exact h.ownd b ⟨id,o,hl,by rw[←st.old id (Cz hl)];exact hb⟩
 ·intro id bx b o hb hl hβ Cb;simp only at hb;rcases G6 id with⟨bx',hx⟩|e
  ·have:=(st.nblk id bx' b o hx hβ).1;have:=h.fr.step.size;omega
  ·rw[e] at hb;exact h.rngB id bx b o hb hl (by rw[←st.old id (by rw[hb];simp)];exact hβ) Cb
 ·intro i hi;obtain⟨h1,h2⟩:=h.pin i hi;exact⟨N7 _ (.inl h1),by rw[st.old _ h1];exact h2⟩
 ·intro id c b o hb hβ Cb;simp only at hb;rcases G6 id with⟨bx',hx⟩|e
  ·have:=(st.nblk id bx' b o hx hβ).1;have:=h.fr.step.size;omega
  ·rw[e] at hb;exact h.stp id c b o hb (by rw[←st.old id (by rw[hb];simp)];exact hβ) Cb
 ·rintro b hY hX
  have hb:b<w.heap.size:=Nat.lt_of_lt_of_le (h.Ylt b hY) h.fr.step.size;exact h.Yx b hY (Ass b hb hX)
 ·refine⟨st.os.trans h.fr.os,st.tape.trans h.fr.tape,st.output.trans h.fr.output,h.fr.step.trans st.ext (fun _ _ x=>x.elim),fun b j hb hL=>?_⟩
  have Qt:=st.ext.keep b (Nat.lt_of_lt_of_le hb h.fr.step.size) (fun x=>x)
  have hc:w'.cell? ⟨b,j,none⟩=w.cell? ⟨b,j,none⟩:=World.cell?_of_block (w:=w) Qt;have hf:w'.frozen? ⟨b,j,none⟩=w.frozen? ⟨b,j,none⟩:=World.frozen?_of_block (w:=w) Qt;rw[hc,hf];exact h.fr.rng b j hb hL
end
open Go.RowKit
section
variable {P:Program} {N:Nat} {w0:World} {X0:H0} {Y:Nat->Prop} {β β':Bt} {s:St} {a:Act} {w w':World} {o:Oper}
theorem TP (cs:List Value)(A:Nat->Prop):Bh (B2 w A β) (cs.map PV.sc) cs:=by
 induction cs with
 |nil=>trivial
 |cons v r ih=>exact⟨Ay.sc v,ih⟩
theorem Aam (cs:List Value):(cs.map PV.sc).flatMap As=[]:=by
 induction cs with
 |nil=>rfl
 |cons v r ih=>exact ih
theorem C4 (h:Cw N w0 X0 Y β s a w)(x:Operand):El w (Db s.hp β Y) β (B3 s.tm x) (a.eval x):=by
 cases x with
 |tmp t=>
  show El _ _ _ (s.tm t) (a.tmps.getD t undef);by_cases ht:t<N
  ·exact h.tms t ht
  ·rw[h.tmo t (Nat.le_of_not_lt ht)];exact Ay.top _
 |const v=>
  cases v with
  |agg cs=>exact⟨cs.toList,by simp[Act.eval],TP cs.toList _⟩
  |_=>exact Ay.sc _
 |func f=>exact Ay.sc _
 |global g=>exact Ay.sc _
theorem E9 (h:Cw N w0 X0 Y β s a w)(x:Operand):∀id∈Bx (B3 s.tm x),s.hp id≠none:=by
 cases x with
 |tmp t=>
  show ∀id∈Bx (s.tm t),_;by_cases ht:t<N
  ·exact h.wfT t ht
  ·rw[h.tmo t (Nat.le_of_not_lt ht)];intro id Bm;cases Bm
 |const v=>
  cases v with
  |agg cs=>
   intro id Bm;have:Bx (.agg (cs.toList.map .sc))=[]:=Aam cs.toList;simp only[B3] at Bm;rw[this] at Bm;cases Bm
  |_=>intro id Bm;cases Bm
 |func f=>intro id Bm;cases Bm
 |global g=>intro id Bm;cases Bm
theorem AF {A:Nat->Prop}{v u:Value}(h:El w A β (.sc v) u):u=v:=Ay.val h
theorem B8 (h:Cw N w0 X0 Y β s a w){x:Operand}{v:Value}(e:B3 s.tm x=.sc v):a.eval x=v:=by
 have:=C4 h x;rw[e] at this;exact AF this
def Eg (P:Program)(a:Act)(w:World)(o:Oper)(Y:Nat->Prop)(β:Bt)(s:St)(v:PV)(fz:List Nat)(nw:List (Nat × Bs)):Prop:=
 (∀id∈fz,∃f c,s.hp id=some (.ar f c))∧∃val w',(execOp a.eval o).run P w=.ok (.value val) w'∧(Bw s.hp nw=true->∃β',LZ Y β ⟨s.tm,Ag s.hp fz⟩ w v nw val w' β')
theorem Abc {v:PV}{val:Value}(hv:El w (Db s.hp β Y) β v val) (hr:∀id∈Bx v,s.hp id≠none):LZ Y β s w v [] val w β:=
 ⟨rfl,rfl,rfl,Cc.refl _ _,fun _ _=>rfl,by simp,by simp,by simp,by simp,by simp,hv,fun id Bm=>.inl (hr id Bm)⟩
theorem B6 {v:PV}{val:Value}(Cr:(execOp a.eval o).run P w=.ok (.value val) w) (hv:El w (Db s.hp β Y) β v val) (hr:∀id∈Bx v,s.hp id≠none):Eg P a w o Y β s v [] []:=
 ⟨by simp,val,w,Cr,fun _=>⟨β,Abc (s:=⟨s.tm,Ag s.hp []⟩) hv hr⟩⟩
theorem Cl {v:Value}(Cr:(execOp a.eval o).run P w=.ok (.value v) w):Eg P a w o Y β s (.sc v) [] []:=B6 Cr (Ay.sc v) (by intro id Bm;cases Bm)
structure Gf (w w':World) (c:Array Value) (e:TypeId):Prop where
 os:w'.os=w.os
 tape:w'.tape=w.tape
 output:w'.output=w.output
 old:∀b,b<w.heap.size->w'.heap[b]?=w.heap[b]?
 size:w'.heap.size=w.heap.size+1
 new:∃fz:Nat × Nat,w'.heap[w.heap.size]?=some (.cells c e fz)∧(fz.1=fz.2∨c.size<=fz.1)
theorem Gf.alloc (w:World)(c:Array Value)(e:TypeId):Gf w (w.alloc (.cells c e)) c e:=
 ⟨rfl,rfl,rfl,fun b hb=>Below.heap_alloc w _ b hb,by show (w.heap.push _).size=_;simp,(0,0),by show (w.heap.push _)[w.heap.size]?=_;simp,.inl rfl⟩
theorem Gf.drew {c:Array Value}{e:TypeId}(h:Gf w w' c e):Gf w w'.drew c e:=⟨h.os,h.tape,h.output,h.old,h.size,h.new⟩
section
variable {c:Array Value} {e:TypeId}
theorem Gf.step (h:Gf w w' c e):Cc (fun _=>False) w w':=
 ⟨by rw[h.size];omega,fun b hb _=>h.old b hb,fun b hb=>Hh.same (h.old b hb)⟩
theorem Gf.cell (h:Gf w w' c e)(j:Nat):w'.cell? ⟨w.heap.size,j,none⟩=c[j]?:=by
 obtain⟨fz,hn,_⟩:=h.new;simp[World.cell?,hn]
theorem Gf.frozen (h:Gf w w' c e){j:Nat}(hj:j<c.size):w'.frozen? ⟨w.heap.size,j,none⟩=false:=by
 obtain⟨fz,hn,hf⟩:=h.new;simp only[World.frozen?,hn];rcases hf with hf|hf<;>simp<;>omega
theorem Kg (w:World)(c:Array Value)(e:TypeId):TY (w.alloc (.cells c e)) w.heap.size=false:=by
 unfold TY World.frozen?;have:(w.alloc (.cells c e)).heap[w.heap.size]?=some (.cells c e (0,0)):=by show (w.heap.push _)[w.heap.size]?=_;simp
 simp only[this];simp
theorem Gf.bsz (h:Gf w w' c e):bsz w' w.heap.size=c.size:=by
 obtain⟨fz,hn,_⟩:=h.new;simp[Pv.bsz,hn]
end
theorem P9 {c:Array Value}{e:TypeId}{d:Nat}{bx:Bs}{v:PV}{val:Value}(hg:Gf w w' c e)(hd:s.hp d=none)(hl:Dd (some bx))
  (Lj:Q4 w' (Db (Cs s.hp d (some bx)) (Cs β d (some (w.heap.size,0))) Y) (Cs β d (some (w.heap.size,0))) d bx)
  (hcw:∀cells,bx=.st cells->∀x∈cells,∀id'∈As x,s.hp id'≠none)
  (hv:El w' (Db (Cs s.hp d (some bx)) (Cs β d (some (w.heap.size,0))) Y) (Cs β d (some (w.heap.size,0))) v val)
  (hvr:∀id∈Bx v,s.hp id≠none∨id=d):LZ Y β s w v [(d,bx)] val w' (Cs β d (some (w.heap.size,0))) where
 os:=hg.os
 tape:=hg.tape
 output:=hg.output
 ext:=hg.step
 old:=fun id hn=>Ak _ _ (by rintro rfl;exact hn hd)
 nlive:=by intro id b hm;simp at hm;obtain⟨rfl,rfl⟩:=hm;exact hl
 nbox:=by intro id b hm;simp at hm;obtain⟨rfl,rfl⟩:=hm;exact Lj
 nblk:=by
  intro id b x y hm hb;simp at hm;obtain⟨rfl,rfl⟩:=hm;rw[An] at hb;simp at hb;have:=hg.size;omega
 ninj:=by intro id b id' b' x y z hm J1 _ _;simp at hm J1;rw[hm.1,J1.1]
 nwf:=by intro id cells hm x hx id' Bm;simp at hm;exact .inl (hcw cells hm.2.symm x hx id' Bm)
 val:=hv
 vwf:=by
  intro id Bm;rcases hvr id Bm with h|rfl
  ·exact .inl h
  ·exact .inr ⟨bx,by simp⟩
theorem Ace {c:Array Value}{e:TypeId}(hg:Gf w w' c e){A A':Nat->Prop}(hA:∀b,b<w.heap.size->A' b->A b){cells:List PV}
  (h:∀(j:Nat) p,cells[j]?=some p->∃v,c[j]?=some v∧v.oneCell'=true∧Ay w A p v):WY w' A' ⟨w.heap.size,0,none⟩ cells:=by
 intro j p hj;obtain⟨v,hv,h1,ht⟩:=h j p hj;exact⟨v,by rw[Er,Nat.zero_add,hg.cell];exact hv,h1,ht.step (hg.step.weaken (fun _ _ x=>x.elim)) hA⟩
theorem Acy {d:Nat}{bx:Bs}(hwf:s.hp d=none):∀b,b<w.heap.size->Db (Cs s.hp d (some bx)) (Cs β d (some (w.heap.size,0))) Y b->Db s.hp β Y b:=by
 intro b hb hA;rcases hA with⟨id,o,hl,hβ⟩|hY
 ·by_cases e:id=d
  ·subst e;rw[An] at hβ;simp at hβ;omega
  ·rw[Ak _ _ e] at hl hβ;exact .inl ⟨id,o,hl,hβ⟩
 ·exact .inr hY
theorem Qo {c:Array Value}{e:TypeId}{d:Nat}{cells:List PV}{fz:List Nat}{v:PV}{val:Value}
  (AB:∀id∈fz,∃f c,s.hp id=some (.ar f c))
  (Cr:(execOp a.eval o).run P w=.ok (.value val) w') (hg:Gf w w' c e)
  (hc:∀(j:Nat) p,cells[j]?=some p->∃u,c[j]?=some u∧u.oneCell'=true∧Ay w (Db (Ag s.hp fz) β Y) p u)
  (hv:(v=.ptr d 0∧val=.pointer (some ⟨w.heap.size,0,none⟩))∨∃es n cap,v=.view d es 0 n∧val=.slice (some ⟨w.heap.size,0,none⟩) n cap∧n<=cap∧cap*es<=c.size∧(es=1∨TY w' w.heap.size=false)):
  Eg P a w o Y β s v fz [(d,.ar false cells)]:=by
 refine⟨AB,val,w',Cr,fun Pc=>⟨Cs β d (some (w.heap.size,0)),?_⟩⟩
 have hd:s.hp d=none:=(Bn Pc).1 d (.ar false cells) (by simp)
 have hd':Ag s.hp fz d=none:=D7.2 hd;refine P9 (s:=⟨s.tm,Ag s.hp fz⟩) hg hd' trivial ?_ (fun cells hx=>by cases hx) ?_ ?_
 ·refine .inr ⟨w.heap.size,0,An _ _ _,?_,fun _ j _ hj=>?_,(fun x=>by cases x)⟩
  ·exact Ace hg (Acy (s:=⟨s.tm,Ag s.hp fz⟩) hd') hc
  ·rw[hg.bsz] at hj;exact hg.frozen hj
 ·rcases hv with⟨rfl,rfl⟩|⟨es,n,cap,rfl,rfl,hn,Wx,Bcc⟩
  ·exact⟨w.heap.size,0,An _ _ _,rfl⟩
  ·exact .inr ⟨w.heap.size,0,0,cap,An _ _ _,rfl,.inl rfl,hn,⟨by rw[hg.bsz];omega,Bcc⟩,by rw[hg.size];omega⟩
 ·intro id Bm;rcases hv with⟨rfl,_⟩|⟨es,n,cap,rfl,_⟩<;>(simp[Bx,Cf,As] at Bm;exact .inr Bm)
theorem MJ {c:Array Value}{e:TypeId}{d:Nat}{cells:List PV}
  (Cr:(execOp a.eval o).run P w=.ok (.value (.pointer (some ⟨w.heap.size,0,none⟩))) w') (hg:Gf w w' c e)
  (hc:∀(j:Nat) p,cells[j]?=some p->∃u,c[j]?=some u∧B2 w (Db s.hp β Y) β p u) (hr:∀x∈cells,∀id∈As x,s.hp id≠none):
  Eg P a w o Y β s (.ptr d 0) [] [(d,.st cells)]:=by
 refine⟨by simp,_,w',Cr,fun Pc=>⟨Cs β d (some (w.heap.size,0)),?_⟩⟩
 have hd:s.hp d=none:=(Bn Pc).1 d (.st cells) (by simp)
 refine P9 (s:=⟨s.tm,Ag s.hp []⟩) hg hd trivial ?_ (fun cs hx x hxm id Bm=>?_) ?_ ?_
 ·refine⟨w.heap.size,0,An _ _ _,fun j p hj=>?_,fun j hj=>?_⟩
  ·obtain⟨u,hu,hp⟩:=hc j p hj;refine⟨u,by rw[Nat.zero_add,hg.cell];exact hu,hp.step (hg.step.weaken (fun _ _ x=>x.elim)) (Acy (s:=⟨s.tm,Ag s.hp []⟩) hd) fun id Bm=>Ak _ _ ?_⟩
   rintro rfl
   exact hr p (List.mem_of_getElem? hj) id Bm hd
  ·rw[Nat.zero_add];obtain⟨u,hu,_⟩:=hc j _ (List.getElem?_eq_getElem hj)
   exact hg.frozen (by
    rcases Nat.lt_or_ge j c.size with h|h
    ·exact h
    ·rw[Array.getElem?_eq_none h] at hu;cases hu)
 ·injection hx with hx;subst hx;exact hr x hxm id Bm
 ·exact⟨w.heap.size,0,An _ _ _,rfl⟩
 ·intro id Bm;simp[Bx,Cf,As] at Bm;exact .inr Bm
end
open Go.RowKit
section
variable {R:Type} {r:R} {P:Program} {N:Nat} {w0:World} {X0:H0} {Y:Nat->Prop} {β β':Bt} {s:St} {a:Act} {w w':World} {o:Oper}
theorem J5 {t:TypeId}{n:Nat}(h:(P.info? t).map (·.size)=some n) (w:World):(sizeOf t).run P w=.ok n w:=by
 cases hi:P.info? t with
 |none=>rw[hi] at h;cases h
 |some i=>rw[hi] at h;simp at h;simp[sizeOf,typeInfo,hi,h]
theorem Aj7 {t:TypeId}{n:Nat}(h:Bc P t=n)(hn:0<n):(P.info? t).map (·.size)=some n:=by
 unfold Bc at h;cases hi:(P.info? t).map (·.size) with
 |none=>rw[hi] at h;simp at h;omega
 |some i=>rw[hi] at h;simp at h;rw[h]
theorem Mv {t:TypeId}{d:TypeDesc}(h:P.underlying t=some d)(w:World):(isAgg t).run P w=.ok (B9 P t) w:=by
 unfold isAgg B9;rw[h];simp only[Sem.run_bind,run_underlying h,Result.andThen_ok];cases d<;>rfl
theorem Abw {t:TypeId}{v:Value}{K:PV->Option R}(h:cvK P t v K=some r):∃p,K p=some r∧Bx p=[]∧∀(w:World)(A:Nat->Prop)(β:Bt),El w A β p v:=by
 have sc:∀v:Value,K (.sc v)=some r->∃p,K p=some r∧Bx p=[]∧∀(w:World) (A:Nat->Prop) (β:Bt),El w A β p v:=fun v h=>⟨_,h,rfl,fun w A β=>Ay.sc v⟩
 unfold cvK at h;split at h
 ·rename_i cs;obtain⟨hl,h⟩:=Al h;obtain⟨xs,h,IX,hx⟩:=S7 h;have hl:=Nat.eq_of_beq_eq_true hl;refine⟨_,h,?_,fun w A β=>⟨cs.toList,by simp,?_⟩⟩
  ·show xs.flatMap As=[];rw[List.flatMap_eq_nil_iff];intro c hc;obtain⟨j,hj⟩:=List.mem_iff_getElem?.1 hc;exact Hs (hx j c hj).1
  ·refine Bh.of_at (by rw[IX,hl]) fun i c u hc hu=>?_
   obtain⟨hT,p,hp,_,AX⟩:=hx i c hc;refine (Ks hT).2 (AX w A β u ?_).1;rw[Nat.zero_add,List.getElem?_map,hu] at hp;simp at hp;subst hp;exact Ay.sc u
 ·split at h
  ·exact⟨_,h,rfl,fun w A β=>Ay.lnil true _⟩
  ·cases h
 ·exact sc _ h
theorem Yl (h:Cw N w0 X0 Y β s a w){x:Operand}(Cr:(execOp a.eval o).run P w=.ok (.value (a.eval x)) w) {K:PV->Option R}(hk:Z4 P o.type s.tm x K=some r):
  ∃v,K v=some r∧Eg P a w o Y β s v [] []:=by
 have dflt:K (B3 s.tm x)=some r->∃v,K v=some r∧Eg P a w o Y β s v [] []:=fun hk=>⟨_,hk,B6 Cr (C4 h x) (E9 h x)⟩
 cases x with
 |const v=>
  obtain⟨p,hk,hr,hv⟩:=Abw hk;exact⟨p,hk,B6 Cr (hv _ _ _) (by rw[hr];simp)⟩
 |tmp t=>exact dflt hk
 |func f=>exact dflt hk
 |global g=>exact dflt hk
theorem Afg {x:Operand}(ho:o.op=.move x):(execOp a.eval o).run P w=.ok (.value (a.eval x)) w:=by unfold execOp;rw[ho];rfl
theorem VN {x:Operand}(ho:o.op=.assign x):(execOp a.eval o).run P w=.ok (.value (a.eval x)) w:=by unfold execOp;rw[ho];rfl
theorem YZ (h:Cw N w0 X0 Y β s a w){c x y:Operand}(ho:o.op=.pick c x y){K:PV->Option R}(hk:(Aq (B3 s.tm c) fun t=>Ba t (K (B3 s.tm x)) (K (B3 s.tm y)))=some r):
  ∃v,K v=some r∧Eg P a w o Y β s v [] []:=by
 obtain⟨b,hb,hk⟩:=Dv hk;have hc:=B8 h hb;rcases Mf hk with⟨rfl,hk⟩|⟨rfl,hk⟩
 ·exact⟨_,hk,B6 (by unfold execOp;rw[ho];simp[asBool,hc]) (C4 h x) (E9 h x)⟩
 ·exact⟨_,hk,B6 (by unfold execOp;rw[ho];simp[asBool,hc]) (C4 h y) (E9 h y)⟩
theorem Oy {t:TypeId}{K:List PV->Option R}(h:Gv P t K=some r):∃(v:Value)(cs:List PV),K cs=some r∧Pn P t=some v∧cs.length=(H7 P t).length∧cs.length=v.cells.toList.length∧cs.length=Bc P t ∧
  ∀(j:Nat) c,cs[j]?=some c->Vr c∧∃u,v.cells.toList[j]?=some u∧u.oneCell'=true∧∀(w:World) (A:Nat->Prop),Ay w A c u:=by
 unfold Gv at h;obtain⟨v,hz,h⟩:=Ce h;obtain⟨hl,h⟩:=Al h;obtain⟨cs,h,I7,hc⟩:=S7 h;simp only[Bool.and_eq_true] at hl;have GT:=Nat.eq_of_beq_eq_true hl.1
 have Ru:(H7 P t).length=Bc P t:=by
  have:=hl.2;simp only[Ir,Bool.and_eq_true] at this;exact Nat.eq_of_beq_eq_true this.2
 refine⟨v,cs,h,hz,I7,by rw[I7,GT],by rw[I7,Ru],fun j c hj=>?_⟩
 obtain⟨hT,p,hp,_,AX⟩:=hc j c hj;rw[Nat.zero_add,List.getElem?_map] at hp;cases hu:v.cells.toList[j]? with
 |none=>rw[hu] at hp;cases hp
 |some u=>
  rw[hu] at hp;simp at hp;subst hp;exact⟨hT,u,rfl,(AX default (fun _=>False) (fun _=>none) u (Ay.sc u)).2,fun w A=>(AX w A (fun _=>none) u (Ay.sc u)).1⟩
theorem Vs {t:TypeId}{v:Value}(h:Pn P t=some v)(w:World):(zeroValue t).run P w=.ok v w:=by
 unfold Pn at h;cases hi:P.info? t with
 |none=>rw[hi] at h;cases h
 |some i=>rw[hi] at h;simp at h;simp[zeroValue,typeInfo,hi,h]
theorem UB {t:TypeId}(ho:o.op=.alloc t){d:Nat}{K:PV->List Nat->List (Nat × Bs)->Option R}
  (hk:(Gv P t fun cs=>K (.ptr d 0) [] [(d,Ajf P t cs)])=some r):∃v fz nw,K v fz nw=some r∧Eg P a w o Y β s v fz nw:=by
 obtain⟨z,cs,hk,hz,_,hl,_,hc⟩:=Oy hk
 have Cr:(execOp a.eval o).run P w=.ok (.value (.pointer (some ⟨w.heap.size,0,none⟩))) (w.alloc (.cells z.cells t)):=by
  unfold execOp;rw[ho];simp[Instr.alloc,Vs hz,newVar,newRow]
 have hg:=Gf.alloc w z.cells t;refine⟨_,_,_,hk,?_⟩;unfold Ajf;cases S8 P t
 ·refine MJ Cr hg (fun j p hj=>?_) fun x hx id Bm=>?_
  ·obtain⟨hT,u,hu,_,hv⟩:=hc j p hj;exact⟨u,by simpa using hu,(Ks hT).2 (hv _ _)⟩
  ·obtain⟨j,hj⟩:=List.mem_iff_getElem?.1 hx;rw[Hs (hc j x hj).1] at Bm;cases Bm
 ·refine Qo (by simp) Cr hg (fun j p hj=>?_) (.inl ⟨rfl,rfl⟩)
  obtain⟨hT,u,hu,h1,hv⟩:=hc j p hj;exact⟨u,by simpa using hu,h1,hv _ _⟩
end
open Go.RowKit
section
variable {R:Type} {r:R} {P:Program} {N:Nat} {w0:World} {X0:H0} {Y:Nat->Prop} {β β':Bt} {s:St} {a:Act} {w w':World} {o:Oper} {A:Nat->Prop}
theorem Qg {t:TypeId}(h:Ir P t=true):(∃d,P.underlying t=some d)∧(H7 P t).length=Bc P t∧(P.info? t).map (·.size)=some (Bc P t):=by
 simp only[Ir,Bool.and_eq_true] at h;refine⟨Option.isSome_iff_exists.1 h.1,Nat.eq_of_beq_eq_true h.2,?_⟩;unfold Bc;cases hi:P.info? t with
 |none=>unfold Program.underlying at h;rw[hi] at h;cases h.1
 |some i=>simp
theorem M0 {v:Value}(h:v.oneCell'=true):v.cells = #[v]:=by cases v<;>first|rfl|cases h
theorem Acu {p:PV}{v:Value}{ts:List CT}{K:List PV->Option R}(hv:El w A β p v)(hl:(cellsOf p).length=ts.length) (h:Od ts (cellsOf p) 0 K=some r):
  ∃cs,K cs=some r∧cs.length=ts.length∧Bh (B2 w A β) cs v.cells.toList∧(∀u∈v.cells.toList,u.oneCell'=true)∧(∀c∈cs,∀id∈As c,id∈Bx p)∧∀c∈cs,(∀x,c ≠ .agg x)∧(∀x,c ≠ .tup x):=by
 obtain⟨cs,h,I7,Zw,hc⟩:=Tj h;refine⟨cs,h,I7,?_⟩
 have single:(∀x,p ≠ .agg x)->cellsOf p=[p]:=by
  intro hp;cases p<;>first|rfl|exact absurd rfl (hp _)
 by_cases F0:∃x,p=.agg x
 ·obtain⟨x,rfl⟩:=F0;obtain⟨vs,rfl,h2⟩:=hv;have C6:cs.length=vs.length:=by rw[I7,←hl];exact h2.len
  have key:∀(i:Nat) c u,cs[i]?=some c->vs[i]?=some u->B2 w A β c u∧u.oneCell'=true:=by
   intro i c u Q6 hu;obtain⟨q,hq,_,_,hqv⟩:=hc i c Q6;rw[Nat.zero_add] at hq;exact hqv w A β u (h2.at_ hq hu)
  refine⟨Bh.of_at C6 fun i c u Q6 hu=>(key i c u Q6 hu).1,?_,?_,Zw⟩
  ·intro u hu;obtain⟨i,hi⟩:=List.mem_iff_getElem?.1 (show u∈vs from hu)
   have Cb:i<vs.length:=by
    rcases Nat.lt_or_ge i vs.length with h|h
    ·exact h
    ·rw[List.getElem?_eq_none h] at hi;cases hi
   exact (key i _ u (List.getElem?_eq_getElem (by omega)) hi).2
  ·intro c TV id Bm;obtain⟨i,hi⟩:=List.mem_iff_getElem?.1 TV;obtain⟨q,hq,_,hr,_⟩:=hc i c hi;rw[Nat.zero_add] at hq;show id∈x.flatMap As;exact List.mem_flatMap.2 ⟨q,List.mem_of_getElem? hq,hr id Bm⟩
 ·have hp:∀x,p ≠ .agg x:=fun x e=>F0 ⟨x,e⟩
  rw[single hp] at hl hc;have GT:cs.length=1:=by rw[I7,←hl];rfl
  match cs,GT with
  |[c],_=>
   obtain⟨q,hq,hf,hr,hqv⟩:=hc 0 c rfl;simp at hq;subst hq;have Qi:∀x,p ≠ .tup x:=by rintro x rfl;exact hf
   have N2:B2 w A β p v:=(Zm hp).1 ((Ok Qi).1 hv);obtain⟨h5,h6⟩:=hqv w A β v N2;rw[M0 h6];refine⟨⟨h5,trivial⟩,?_,?_,Zw⟩
   ·intro u hu;simp at hu;subst hu;exact h6
   ·intro c' Q6 id Bm;simp at Q6;subst Q6;have:=hr id Bm;cases p<;>first|exact this|exact absurd rfl (hp _)|exact absurd rfl (Qi _)
end
open Go.RowKit
section
variable {R:Type} {r:R} {P:Program} {N:Nat} {w0:World} {X0:H0} {Y:Nat->Prop} {β β':Bt} {s:St} {a:Act} {w w':World} {o:Oper} {A:Nat->Prop}
theorem Bh.get {α β':Type}{R':α->β'->Prop}{zs:List α}{bs:List β'}(h:Bh R' zs bs){i:Nat}{x:α}(hx:zs[i]?=some x):∃y,bs[i]?=some y∧R' x y:=by
 have Cb:i<zs.length:=by
  rcases Nat.lt_or_ge i zs.length with h|h
  ·exact h
  ·rw[List.getElem?_eq_none h] at hx;cases hx
 have hb:bs[i]?=some (bs[i]'(by rw[←h.len];exact Cb)):=List.getElem?_eq_getElem _
 exact⟨_,hb,h.at_ hx hb⟩
theorem Ang {p:PV}{v:Value}{ts:List CT}{K:List PV->Option R}(hv:El w A β p v)(hl:(cellsOf p).length=ts.length) (h:R7 ts (cellsOf p) 0 K=some r):
  ∃cs,K cs=some r∧cs.length=ts.length∧Bh (Ay w A) cs v.cells.toList∧∀u∈v.cells.toList,u.oneCell'=true:=by
 obtain⟨cs,h,I7,hc⟩:=S7 h;refine⟨cs,h,I7,?_⟩;by_cases F0:∃x,p=.agg x
 ·obtain⟨x,rfl⟩:=F0;obtain⟨vs,rfl,h2⟩:=hv;have C6:cs.length=vs.length:=by rw[I7,←hl];exact h2.len
  have key:∀(i:Nat) c u,cs[i]?=some c->vs[i]?=some u->Ay w A c u∧u.oneCell'=true:=by
   intro i c u Q6 hu;obtain⟨_,q,hq,_,hqv⟩:=hc i c Q6;rw[Nat.zero_add] at hq;exact hqv w A β u (h2.at_ hq hu)
  refine⟨Bh.of_at C6 fun i c u Q6 hu=>(key i c u Q6 hu).1,?_⟩
  intro u hu;obtain⟨i,hi⟩:=List.mem_iff_getElem?.1 (show u∈vs from hu)
  have Cb:i<vs.length:=by
   rcases Nat.lt_or_ge i vs.length with h|h
   ·exact h
   ·rw[List.getElem?_eq_none h] at hi;cases hi
  exact (key i _ u (List.getElem?_eq_getElem (by omega)) hi).2
 ·have hp:∀x,p ≠ .agg x:=fun x e=>F0 ⟨x,e⟩
  have single:cellsOf p=[p]:=by cases p<;>first|rfl|exact absurd rfl (hp _)
  rw[single] at hl hc;have GT:cs.length=1:=by rw[I7,←hl];rfl
  match cs,GT with
  |[c],_=>
   obtain⟨_,q,hq,hf,hqv⟩:=hc 0 c rfl;simp at hq;subst hq;have Qi:∀x,p ≠ .tup x:=by rintro x rfl;exact hf
   have N2:B2 w A β p v:=(Zm hp).1 ((Ok Qi).1 hv);obtain⟨h5,h6⟩:=hqv w A β v N2;rw[M0 h6];exact⟨⟨h5,trivial⟩,fun u hu=>by simp at hu;subst hu;exact h6⟩
theorem Adh (h:Cw N w0 X0 Y β s a w){t:TypeId}{x:Operand}(ho:o.op=.box t x){d:Nat}{K:PV->List Nat->List (Nat × Bs)->Option R}
    (hk:(A2 (Ir P t&&Nat.beq (cellsOf (B3 s.tm x)).length (H7 P t).length)
      (bif S8 P t then R7 (H7 P t) (cellsOf (B3 s.tm x)) 0 fun cs=>K (.ptr d 0) [] [(d,.ar false cs)]
       else Od (H7 P t) (cellsOf (B3 s.tm x)) 0 fun cs=>K (.ptr d 0) [] [(d,.st cs)]))=some r):∃v fz nw,K v fz nw=some r∧Eg P a w o Y β s v fz nw:=by
  obtain⟨hl,hk⟩:=Al hk
  simp only[Bool.and_eq_true] at hl
  have hl:=Nat.eq_of_beq_eq_true hl.2
  have Cr:(execOp a.eval o).run P w=.ok (.value (.pointer (some ⟨w.heap.size,0,none⟩))) (w.alloc (.cells (a.eval x).cells t)):=by
    unfold execOp
    rw[ho]
    simp[Instr.box,newVar,newRow]
  have hg:=Gf.alloc w (a.eval x).cells t
  cases ha:S8 P t
  · rw[ha] at hk
    obtain⟨cs,hk,_,h2,_,hr,_⟩:=Acu (C4 h x) hl hk
    refine⟨_,_,_,hk,MJ Cr hg (fun j p hj=>?_) fun c hc id Bm=>E9 h x id (hr c hc id Bm)⟩
    obtain⟨u,hu,hp⟩:=h2.get hj
    exact⟨u,by simpa using hu,hp⟩
  · rw[ha] at hk
    obtain⟨cs,hk,_,h2,h1⟩:=Ang (C4 h x) hl hk
    refine⟨_,_,_,hk,Qo (by simp) Cr hg (fun j p hj=>?_) (.inl ⟨rfl,rfl⟩)⟩
    obtain⟨u,hu,hp⟩:=h2.get hj
    exact⟨u,by simpa using hu,h1 u (List.mem_of_getElem? hu),hp⟩
theorem Abf {c:PV}(h1:∀x,c ≠ .agg x)(h2:∀x,c ≠ .tup x):Bx c=As c:=by
 cases c<;>first|rfl|exact absurd rfl (h1 _)|exact absurd rfl (h2 _)
theorem Xs {t:TypeId}{ad:Addr}{cs:List PV}{p:PV}(hok:Ir P t=true)(C6:cs.length=(H7 P t).length)
  (Zw:∀c∈cs,(∀x,c ≠ .agg x)∧(∀x,c ≠ .tup x))
  (hc:∀(j:Nat) c,cs[j]?=some c->∃v,w.cell? (ad.add j)=some v∧B2 w A β c v)
  (hp:(B9 P t=true∧p=.agg cs)∨(B9 P t=false∧cs=[p])):∃val,(loadVar t ad).run P w=.ok val w∧El w A β p val:=by
 obtain⟨⟨d,hd⟩,hl,hi⟩:=Qg hok;rcases hp with⟨F0,rfl⟩|⟨F0,rfl⟩
 ·have hf:∀j,j<Bc P t->w.cell? (ad.add j)=some ((w.cell? (ad.add j)).getD undef):=by
   intro j hj;obtain⟨v,hv,_⟩:=hc j _ (List.getElem?_eq_getElem (by omega))
   rw[hv];rfl
  refine⟨_,?_,(List.range (Bc P t)).map (fun j=>(w.cell? (ad.add j)).getD undef),rfl,?_⟩
  ·simp only[loadVar,Sem.run_bind,Mv hd,F0,Result.andThen_ok,if_true,J5 hi,run_loadCells w ad (Bc P t) _ hf];simp
  ·refine Bh.of_at (by simp;omega) fun i c u Q6 hu=>?_
   obtain⟨v,hv,CZ⟩:=hc i c Q6
   have Cb:i<Bc P t:=by
    rcases Nat.lt_or_ge i cs.length with h|h
    ·omega
    ·rw[List.getElem?_eq_none h] at Q6;cases Q6
   rw[List.getElem?_map,List.getElem?_range Cb] at hu;simp[hv] at hu;subst hu;exact CZ
 ·obtain⟨v,hv,CZ⟩:=hc 0 p rfl;have hn:=Zw p (by simp)
  have h0:ad.add 0=ad:=by simp[Addr.add]
  rw[h0] at hv;refine⟨v,?_,(Ok hn.2).2 ((Zm hn.1).2 CZ)⟩;simp only[loadVar,Sem.run_bind,Mv hd,F0,Result.andThen_ok];simp[hv]
theorem Ahu {hp:Nat->Option Bs}{id:Nat}{c:List PV}(h:rd hp id=some c):hp id=some (.st c)∨∃f,hp id=some (.ar f c):=by
 unfold rd at h;split at h
 ·rename_i e;simp at h;subst h;exact .inl e
 ·rename_i f _ e;simp at h;subst h;exact .inr ⟨_,e⟩
 ·cases h
theorem PW {hp:Nat->Option Bs}{id:Nat}{c:List PV}(h:Jp hp id=some c):∃f,hp id=some (.ar f c):=by
 unfold Jp at h;split at h
 ·rename_i e;simp at h;subst h;exact⟨_,e⟩
 ·cases h
theorem GA (h:Cw N w0 X0 Y β s a w){id:Nat}{c:List PV}(hr:rd s.hp id=some c){b ob:Nat}(hβ:β id=some (b,ob)) {j:Nat}{p:PV}(hj:c[j]?=some p):
  ∃v,w.cell? ⟨b,ob+j,none⟩=some v∧B2 w (Db s.hp β Y) β p v:=by
 rcases Ahu hr with hb|⟨f,hb⟩
 ·obtain⟨b',o',h1,h2,_⟩:=h.box id _ hb;rw[hβ] at h1;simp at h1;obtain⟨rfl,rfl⟩:=h1;exact h2 j p hj
 ·rcases h.box id _ hb with⟨h1,_⟩|⟨b',o',h1,h2,_⟩
  ·rw[hβ] at h1;cases h1
  ·rw[hβ] at h1;simp at h1;obtain⟨rfl,rfl⟩:=h1
   obtain⟨v,hv,_,ht⟩:=h2 j p hj;rw[Er] at hv;refine⟨v,hv,?_⟩;cases ht with
   |sc=>exact Ay.sc _
   |top=>exact Ay.top _
   |ub=>exact Ay.ub _
   |lnil=>exact Ay.lnil _ _
   |lemp=>exact Ay.lemp _ _ _
   |lst es n cells a cap f hs hb hA hn hc h1 hr=>exact Ay.lst es n cells a cap f hs hb hA hn hc h1 hr
theorem J8:∀{ts:List CT}{cells:List PV}{off:Nat}{K:List PV->Option R},R7 ts cells off K=some r->Od ts cells off K=some r
 |[],_,_,_,h=>h
 |.int k::ts,cells,off,K,h=>by
  obtain⟨n,hp,h⟩:=En (show Aj k (cells.getD off .top) _=some r from h)
  show Aj k _ _=_;rw[hp];simp only[Aj,if_true];exact J8 h
 |.bool::ts,cells,off,K,h=>by
  obtain⟨n,hp,h⟩:=Dv (show Aq (cells.getD off .top) _=some r from h)
  show Aq _ _=_;rw[hp];exact J8 h
 |.str::ts,cells,off,K,h=>by
  obtain⟨n,hp,h⟩:=Dq (show Ar (cells.getD off .top) _=some r from h)
  show Ar _ _=_;rw[hp];exact J8 h
 |.sl es::ts,cells,off,K,h=>by
  obtain⟨z,n,c,h,hp⟩:=Fk (show F1 es (cells.getD off .top) _=some r from h)
  change fcK (.sl es) (cells.getD off .top) (fun c=>Od ts cells (off+1) fun r=>K (c::r))=some r
  unfold fcK;dsimp only;unfold fsK;rcases hp with hp|⟨hp,rfl,rfl,rfl⟩
  ·rw[hp];simp only[F1,Nat.beq_refl,cond_true];exact J8 h
  ·rw[hp];exact J8 h
 |.any::ts,cells,off,K,h=>by
  have hK:∀v,R7 ts cells (off+1) (fun r=>K (.sc v::r))=some r->Od ts cells (off+1) (fun r=>K (.sc v::r))=some r:=fun v h=>J8 h
  have h:fnK (cells.getD off .top) (fun v=>R7 ts cells (off+1) fun r=>K (.sc v::r))=some r:=h
  show fnK (cells.getD off .top) (fun v=>Od ts cells (off+1) fun r=>K (.sc v::r))=some r
  unfold fnK at h ⊢;split at h
  ·rename_i e;exact hK _ h
  ·exact hK _ h
  ·cases h
theorem Ay.unz {w:World}{A:Nat->Prop}{z:Bool}{es n:Nat}{c:List PV}{u:Value}(h:Ay w A (.lst z es n c) u):Ay w A (.lst false es n c) u:=by
 cases h with
 |lnil z es=>exact .lnil false es
 |lemp es a cap=>exact .lemp es a cap
 |lst es n c a cap f h1 h2 h3 h4 h5 h6 h7=>exact .lst es n c a cap f h1 h2 h3 h4 h5 h6 h7
theorem Afx {w:World}{A:Nat->Prop}{β:Bt}{p:PV}{u:Value}(h:B2 w A β p u):B2 w A β (OG p) u:=by
 cases p with
 |lst z es n c=>exact Ay.unz h
 |_=>exact h
theorem XP (p:PV):As (OG p)=As p:=by cases p<;>rfl
theorem MK {w:World}{A:Nat->Prop}{β:Bt}:∀{cs:List PV}{vs:List Value},Bh (B2 w A β) cs vs->Bh (B2 w A β) (cs.map OG) vs
 |[],[],_=>trivial
 |_::_,_::_,h=>⟨Afx h.1,MK h.2⟩
 |[],_::_,h=>h.elim
 |_::_,[],h=>h.elim
theorem Aeb {w:World}{A:Nat->Prop}{β:Bt}{p:PV}{u:Value}(h:El w A β p u):El w A β (YW p) u:=by
 cases p with
 |agg cs=>
  obtain⟨vs,h1,h2⟩:=(show Hy w A β (.agg cs) u from h)
  exact⟨vs,h1,MK h2⟩
 |lst z es n c=>exact Ay.unz (show Ay w A (.lst z es n c) u from h)
 |_=>exact h
theorem Adw (p:PV):Bx (YW p)=Bx p:=by
 cases p with
 |agg cs=>
  show (cs.map OG).flatMap As=cs.flatMap As
  induction cs with
  |nil=>rfl
  |cons a l ih=>rw[List.map_cons,List.flatMap_cons,List.flatMap_cons,ih,XP]
 |_=>rfl
theorem Anw {nz:Bool}{hp:Nat->Option Bs}{t:TypeId}{x:PV}{K:PV->Option R}(h:Y4 nz P (rd hp) (Jp hp) t x K=some r):
  Xc P (rd hp) t x K=some r∨Xc P (rd hp) t x (fun v=>K (YW v))=some r:=by
 have h':Xc P (rd hp) t x K=some r∨Xc P (rd hp) t x (fun v=>K (bif nz then v else YW v))=some r:=by
  unfold Y4 at h;unfold Xc;split at h
  ·rename_i id off;obtain⟨hb,h⟩:=Al h;rw[hb];show C5 _ _=_∨C5 _ _=_;split at h
   ·rename_i c hc;obtain⟨f,Lj⟩:=PW hc;have:rd hp id=some c:=by unfold rd;rw[Lj]
    rw[this];exact .inr (J8 h)
   ·exact .inl h
  ·exact .inr h
  ·cases h
 cases nz
 ·exact h'
 ·exact .inl (h'.elim id id)
theorem MQ (h:Cw N w0 X0 Y β s a w){t:TypeId}{x:PV}{u:Value}(hx:El w (Db s.hp β Y) β x u) {K:PV->Option R}(hk:Xc P (rd s.hp) t x K=some r):
  ∃v ad val,K v=some r∧u=.pointer (some ad)∧(loadVar t ad).run P w=.ok val w∧El w (Db s.hp β Y) β v val∧∀i∈Bx v,s.hp i≠none:=by
 unfold Xc at hk;split at hk
 ·rename_i id off;obtain⟨hok,hk⟩:=Al hk;obtain⟨c,hr,hk⟩:=Ce hk;obtain⟨cs,hk,hl,Zw,hc⟩:=Tj hk;obtain⟨b,ob,hβ,De⟩:=hx
  have C3:∀(j:Nat) q,cs[j]?=some q->∃v,w.cell? ((⟨b,ob+off,none⟩:Addr).add j)=some v∧B2 w (Db s.hp β Y) β q v:=by
   intro j q hq;obtain⟨p,hp,_,_,AX⟩:=hc j q hq;obtain⟨v,hv,CZ⟩:=GA h hr hβ hp;exact⟨v,by rw[Er,Nat.add_assoc];exact hv,(AX _ _ _ _ CZ).1⟩
  have Vv:∀q∈cs,∀i∈As q,s.hp i≠none:=by
   intro q hq i hi;obtain⟨j,hj⟩:=List.mem_iff_getElem?.1 hq;obtain⟨p,hp,_,hpr,_⟩:=hc j q hj;rcases Ahu hr with hb|⟨f,hb⟩
   ·exact h.wfB id c hb p (List.mem_of_getElem? hp) i (hpr i hi)
   ·obtain⟨v,hv,CZ⟩:=GA h hr hβ hp;exfalso;have Cy:=hpr i hi;rcases h.box id _ hb with⟨_,rfl⟩|⟨b',o',h1,h2,_⟩
    ·simp at hp
    ·obtain⟨v',_,_,ht⟩:=h2 _ p hp;cases ht<;>cases Cy
  rcases QC hk with⟨F0,Ep⟩|⟨F0,q,rfl,Ep⟩
  ·obtain⟨val,Xu,hv⟩:=Xs hok hl Zw C3 (.inl ⟨F0,rfl⟩);refine⟨_,_,val,Ep,De,Xu,hv,fun i hi=>?_⟩
   obtain⟨q,hq,hi⟩:=List.mem_flatMap.1 (show i∈cs.flatMap As from hi)
   exact Vv q hq i hi
  ·obtain⟨val,Xu,hv⟩:=Xs hok hl Zw C3 (.inr ⟨F0,rfl⟩);refine⟨_,_,val,Ep,De,Xu,hv,fun i hi=>Vv q (by simp) i ?_⟩
   have hn:=Zw q (by simp)
   rw[Abf hn.1 hn.2] at hi;exact hi
 ·rename_i c off;obtain⟨hok,hk⟩:=Al hk;obtain⟨cs,hk,hl,hc⟩:=S7 hk;obtain⟨ad,De,hs,hb,hA,hrd⟩:=hx
  have Zw:∀q∈cs,(∀x,q ≠ .agg x)∧(∀x,q ≠ .tup x):=by
   intro q hq;obtain⟨j,hj⟩:=List.mem_iff_getElem?.1 hq;exact⟨Ym (hc j q hj).1,Acp (hc j q hj).1⟩
  have C3:∀(j:Nat) q,cs[j]?=some q->∃v,w.cell? ((ad.add off).add j)=some v∧B2 w (Db s.hp β Y) β q v:=by
   intro j q hq;obtain⟨hT,p,hp,GL,AX⟩:=hc j q hq;obtain⟨v,hv,_,ht⟩:=hrd (off+j) p hp;exact⟨v,by rw[add_add];exact hv,(Ks hT).2 (AX w (Db s.hp β Y) β v ((Ks GL).2 ht)).1⟩
  have Vv:∀q∈cs,As q=[]:=by
   intro q hq;obtain⟨j,hj⟩:=List.mem_iff_getElem?.1 hq;exact Hs (hc j q hj).1
  rcases QC hk with⟨F0,Ep⟩|⟨F0,q,rfl,Ep⟩
  ·obtain⟨val,Xu,hv⟩:=Xs hok hl Zw C3 (.inl ⟨F0,rfl⟩);refine⟨_,_,val,Ep,De,Xu,hv,fun i hi=>?_⟩
   obtain⟨q,hq,hi⟩:=List.mem_flatMap.1 (show i∈cs.flatMap As from hi)
   rw[Vv q hq] at hi;cases hi
  ·obtain⟨val,Xu,hv⟩:=Xs hok hl Zw C3 (.inr ⟨F0,rfl⟩);refine⟨_,_,val,Ep,De,Xu,hv,fun i hi=>?_⟩
   have hn:=Zw q (by simp)
   rw[Abf hn.1 hn.2,Vv q (by simp)] at hi
   cases hi
 ·cases hk
theorem SB (h:Cw N w0 X0 Y β s a w){t:TypeId}{x:PV}{u:Value}(hx:El w (Db s.hp β Y) β x u) {nz:Bool}{K:PV->Option R}(hk:Y4 nz P (rd s.hp) (Jp s.hp) t x K=some r):
  ∃v ad val,K v=some r∧u=.pointer (some ad)∧(loadVar t ad).run P w=.ok val w∧El w (Db s.hp β Y) β v val∧∀i∈Bx v,s.hp i≠none:=by
 rcases Anw hk with hk|hk
 ·exact MQ h hx hk
 ·obtain⟨v,ad,val,h1,h2,h3,h4,h5⟩:=MQ h hx hk;exact⟨YW v,ad,val,h1,h2,h3,Aeb h4,by rw[Adw];exact h5⟩
theorem Aat (h:Cw N w0 X0 Y β s a w){t:TypeId}{x:Operand}(ho:o.op=.load t x){nz:Bool}{K:PV->Option R}(hk:Y4 nz P (rd s.hp) (Jp s.hp) t (B3 s.tm x) K=some r):
  ∃v,K v=some r∧Eg P a w o Y β s v [] []:=by
 obtain⟨v,ad,val,Ea,De,hl,hv,hr⟩:=SB h (C4 h x) hk;refine⟨v,Ea,B6 ?_ hv hr⟩;unfold execOp;rw[ho];simp[Instr.loadAt,Instr.sureAddr,De,hl]
theorem Ad3 {x:PV}{d:Nat}{K:PV->Option R}(h:Tk x d K=some r):(∃id off,x=.ptr id off∧K (.ptr id (off+d))=some r)∨∃c off,x=.iptr c off∧K (.iptr c (off+d))=some r:=by
 unfold Tk at h;split at h
 ·exact .inl ⟨_,_,rfl,h⟩
 ·exact .inr ⟨_,_,rfl,h⟩
 ·cases h
theorem Vy (h:Cw N w0 X0 Y β s a w){x:Operand}{d:Nat}{K:PV->Option R}(hk:Tk (B3 s.tm x) d K=some r)
  (Cr:∀ad:Addr,a.eval x=.pointer (some ad)->(execOp a.eval o).run P w=.ok (.value (.pointer (some (ad.add d)))) w):∃v,K v=some r∧Eg P a w o Y β s v [] []:=by
 have hx:=C4 h x;have IR:=E9 h x;rcases Ad3 hk with⟨id,off,e,hk⟩|⟨c,off,e,hk⟩
 ·rw[e] at hx IR;obtain⟨b,ob,hβ,De⟩:=hx;refine⟨_,hk,B6 (Cr _ De) ⟨b,ob,hβ,by rw[Er,Nat.add_assoc]⟩ IR⟩
 ·rw[e] at hx;obtain⟨ad,De,h1,h2,h3,h4⟩:=hx;exact⟨_,hk,B6 (Cr _ De) ⟨ad,by rw[add_add],h1,h2,h3,h4⟩ (by intro i hi;cases hi)⟩
theorem GJ (h:Cw N w0 X0 Y β s a w){x:Operand}(ho:o.op=.nilCheck x){K:PV->Option R}(hk:Tk (B3 s.tm x) 0 K=some r):∃v,K v=some r∧Eg P a w o Y β s v [] []:=by
 refine Vy h hk fun ad De=>?_
 unfold execOp;rw[ho];simp[De,Addr.add]
theorem Yz {t:TypeId}{f:Nat}{q:Nat × TypeId}(h:Px P t f=some q):∃fs g,P.underlying t=some (.struct fs)∧fs[f]?=some g∧q=(g.offset,g.type):=by
 unfold Px at h;split at h
 ·rename_i fs e;cases hg:fs[f]? with
  |none=>rw[hg] at h;cases h
  |some g=>rw[hg] at h;simp at h;exact⟨fs,g,e,hg,h.symm⟩
 ·cases h
theorem DV (h:Cw N w0 X0 Y β s a w){t:TypeId}{x:Operand}{f:Nat}(ho:o.op=.fieldAddr t x f){K:PV->Option R}
  (hk:(C5 (Px P t f) fun q=>A2 (Nat.ble 1 (Bc P q.2)) (Tk (B3 s.tm x) q.1 K))=some r):∃v,K v=some r∧Eg P a w o Y β s v [] []:=by
 obtain⟨q,hq,hk⟩:=Ce hk;obtain⟨hs,hk⟩:=Al hk;obtain⟨fs,g,hu,hg,rfl⟩:=Yz hq;have hs:1<=Bc P g.type:=Nat.le_of_ble_eq_true hs;have My:=Aj7 (P:=P) (t:=g.type) rfl (by omega)
 refine Vy h hk fun ad De=>?_
 unfold execOp;rw[ho];have E2:¬Bc P g.type=0:=by omega
 simp[Instr.fieldAt,run_underlying hu,hg,Instr.sureAddr,De,fieldPlace,J5 My,E2]
end
open Go.RowKit
section
variable {R:Type} {r:R} {P:Program} {N:Nat} {w0:World} {X0:H0} {Y:Nat->Prop} {β β':Bt} {s:St} {a:Act} {w w':World} {o:Oper} {A:Nat->Prop}
theorem EX (h:Cw N w0 X0 Y β s a w){t:TypeId}{cs:List PV}{vs:List Value}{off:Nat}{K:PV->Option R}{x:Operand}(hx:B3 s.tm x=.agg cs)(hv:Bh (B2 w (Db s.hp β Y) β) cs vs)
  (hk:A2 (Ir P t) (Od (H7 P t) cs off fun c=>mkV (B9 P t) c K)=some r)
  (Cr:∀val,(part t ⟨vs⟩ off).run P w=.ok val w->(execOp a.eval o).run P w=.ok (.value val) w):∃v,K v=some r∧Eg P a w o Y β s v [] []:=by
 obtain⟨hok,hk⟩:=Al hk;obtain⟨⟨d,hd⟩,hl,hi⟩:=Qg hok;obtain⟨qs,hk,hql,Zw,hq⟩:=Tj hk;have IR:=E9 h x;rw[hx] at IR
 have C3:∀(j:Nat) q,qs[j]?=some q->∃v,vs[off+j]?=some v∧B2 w (Db s.hp β Y) β q v:=by
  intro j q hj;obtain⟨p,hp,_,_,AX⟩:=hq j q hj;obtain⟨v,N2,hc⟩:=hv.get hp;exact⟨v,N2,(AX _ _ _ _ hc).1⟩
 have Vv:∀q∈qs,∀i∈As q,s.hp i≠none:=by
  intro q hqm i hi;obtain⟨j,hj⟩:=List.mem_iff_getElem?.1 hqm;obtain⟨p,hp,_,hpr,_⟩:=hq j q hj;exact IR i (List.mem_flatMap.2 ⟨p,List.mem_of_getElem? hp,hpr i hi⟩)
 rcases QC hk with⟨F0,Ep⟩|⟨F0,q,rfl,Ep⟩
 ·have CJ:Bc P t=0∨off+Bc P t<=vs.length:=by
   rcases Nat.eq_zero_or_pos (Bc P t) with h0|h0
   ·exact .inl h0
   ·obtain⟨v,N2,_⟩:=C3 (Bc P t-1) _ (List.getElem?_eq_getElem (by omega))
    have:off+(Bc P t-1)<vs.length:=by
     rcases Nat.lt_or_ge (off+(Bc P t-1)) vs.length with h|h
     ·exact h
     ·rw[List.getElem?_eq_none h] at N2;cases N2
    exact .inr (by omega)
  refine⟨_,Ep,B6 (Cr (.agg ⟨(vs.drop off).take (Bc P t)⟩) ?_) ⟨(vs.drop off).take (Bc P t),rfl,?_⟩ fun i hi=>?_⟩
  ·simp only[part,Sem.run_bind,Mv hd,F0,Result.andThen_ok,if_true,J5 hi];simp[List.extract_eq_take_drop]
  ·refine Bh.of_at ?_ fun i c u hc hu=>?_
   ·simp only[List.length_take,List.length_drop];omega
   ·obtain⟨v,N2,CZ⟩:=C3 i c hc
    have Cb:i<Bc P t:=by
     rcases Nat.lt_or_ge i qs.length with h|h
     ·omega
     ·rw[List.getElem?_eq_none h] at hc;cases hc
    rw[List.getElem?_take_of_lt Cb,List.getElem?_drop,N2] at hu;cases hu;exact CZ
  ·obtain⟨q,hqm,hi⟩:=List.mem_flatMap.1 (show i∈qs.flatMap As from hi)
   exact Vv q hqm i hi
 ·obtain⟨v,N2,CZ⟩:=C3 0 q rfl;have hn:=Zw q (by simp)
  refine⟨_,Ep,B6 (Cr v ?_) ((Ok hn.2).2 ((Zm hn.1).2 CZ)) fun i hi=>?_⟩
  ·simp only[part,Sem.run_bind,Mv hd,F0,Result.andThen_ok];rw[Nat.add_zero] at N2;simp[N2]
  ·rw[Abf hn.1 hn.2] at hi;exact Vv q (by simp) i hi
theorem VS (h:Cw N w0 X0 Y β s a w){t:TypeId}{x:Operand}{f:Nat}(ho:o.op=.field t x f){K:PV->Option R}
  (hk:(C5 (Px P t f) fun q=>A2 (Ir P q.2)<|F7 (B3 s.tm x) fun cs=>Od (H7 P q.2) cs q.1 fun c=>mkV (B9 P q.2) c K)=some r):∃v,K v=some r∧Eg P a w o Y β s v [] []:=by
 obtain⟨q,hq,hk⟩:=Ce hk;obtain⟨hok,hk⟩:=Al hk;obtain⟨cs,hx,hk⟩:=G2 hk;obtain⟨fs,g,hu,hg,rfl⟩:=Yz hq;have hxv:=C4 h x;rw[hx] at hxv;obtain⟨vs,De,hv⟩:=hxv;refine EX (t:=g.type) (off:=g.offset) h hx hv (by rw[show Ir P g.type=true from hok];exact hk) fun val hp=>?_
 unfold execOp;rw[ho];simp[Instr.field,run_underlying hu,hg,asAgg,De,hp]
theorem JP (h:Cw N w0 X0 Y β s a w){x:Operand}{i:Nat}(ho:o.op=.extract x i){K:PV->Option R}
  (hk:(match B3 s.tm x with | .tup vs=>C5 vs[i]? K|_=>none)=some r):∃v,K v=some r∧Eg P a w o Y β s v [] []:=by
 have hx:=C4 h x;have IR:=E9 h x;split at hk
 ·rename_i ps e;rw[e] at hx IR;obtain⟨p,hp,hk⟩:=Ce hk;obtain⟨vs,De,hv⟩:=hx;obtain⟨v,N2,AX⟩:=hv.get hp
  have Ark:∀y,p ≠ .tup y:=by
   rintro y rfl
   have Bbf:Ay _ _ (.tup y) v:=AX;cases Bbf
  refine⟨p,hk,B6 (val:=v) ?_ ((Ok Ark).2 AX) fun id Bm=>IR id ?_⟩
  ·unfold execOp;rw[ho];simp[Instr.extract,De,N2]
  ·refine List.mem_flatMap.2 ⟨p,List.mem_of_getElem? hp,?_⟩;cases p<;>first|exact Bm|exact absurd rfl (Ark _)
 ·cases hk
theorem Gh {es:Nat}{p:PV}{z:Bool}{n:Nat}{c:List PV}{v:Value}(hp:p=.lst z es n c∨(p=.sc (.slice none 0 0)∧z=true∧n=0∧c=[])) (hv:El w A β p v):
  (v=.slice none 0 0∧n=0∧c=[])∨(∃ad cap,v=.slice (some ad) n cap∧z=false∧n<=cap∧ad.spot=none∧ad.block<w.heap.size∧¬A ad.block∧WY w A ad c)∨∃ad cap,v=.slice (some ad) 0 cap∧z=false∧n=0∧c=[]:=by
 have N2:B2 w A β p v:=by rcases hp with rfl|⟨rfl,_⟩<;>exact hv
 have ht:=Wz hp N2;cases ht with
 |lnil=>exact .inl ⟨rfl,rfl,rfl⟩
 |lst _ _ _ ad cap f hs hb hA hn hc h1 hr=>exact .inr (.inl ⟨ad,cap,rfl,rfl,hn,hs,hb,hA,fun j q hj=>⟨f j,hc j q hj,h1 j q hj,hr j q hj⟩⟩)
 |lemp _ ad cap=>exact .inr (.inr ⟨ad,cap,rfl,rfl,rfl,rfl⟩)
theorem DQ (h:Cw N w0 X0 Y β s a w){t:TypeId}{x i:Operand}(ho:o.op=.indexAddr t x i){K:PV->Option R}
  (hk:(Ds (B3 s.tm i) fun _ n=>Kc P t (B3 s.tm x) n K)=some r):∃v,K v=some r∧Eg P a w o Y β s v [] []:=by
 obtain⟨ik,n,hi,hk⟩:=Dn hk;have hai:=B8 h hi;have hx:=C4 h x;have IR:=E9 h x;unfold Kc at hk;split at hk
 ·rename_i len e hu;obtain⟨hz,hk⟩:=Al hk;obtain⟨hb,hk⟩:=Al hk;simp only[Bool.and_eq_true,decide_eq_true_eq] at hb;obtain⟨inf,Pg⟩:=Option.isSome_iff_exists.1 hz;refine Vy h hk fun ad De=>?_
  unfold execOp;rw[ho];simp[Instr.indexAt,asIntOf,hai,De,run_underlying hu,Instr.sureAddr,hb.1,hb.2,sizeOf,typeInfo,Pg,Bc]
 ·rename_i e hu;obtain⟨hz,hk⟩:=Al hk;obtain⟨inf,Pg⟩:=Option.isSome_iff_exists.1 hz;have My:Bc P e=inf.size:=by simp[Bc,Pg]
  split at hk
  ·rename_i id es off n' e';rw[e'] at hx IR;obtain⟨Vf,hk⟩:=Al hk;have Vf:=Nat.eq_of_beq_eq_true Vf;subst Vf;obtain⟨hb,hk⟩:=Al hk;simp only[Bool.and_eq_true,decide_eq_true_eq] at hb;rcases hx with⟨_,_,rfl,_⟩|⟨b,ob,y,cap,hβ,De,hy,_⟩
   ·omega
   ·have hy:y=ob+off:=by rcases hy with hy|⟨rfl,_⟩<;>omega
    subst hy;refine⟨_,hk,B6 (val:=.pointer (some ⟨b,ob+(off+n.toNat*Bc P e),none⟩)) ?_ ⟨b,ob,hβ,rfl⟩ IR⟩;unfold execOp;rw[ho];simp[Instr.indexAt,asIntOf,hai,De,run_underlying hu,hb.1,hb.2,sizeOf,typeInfo,Pg,My,Er,Nat.add_assoc]
  ·obtain⟨z,n',c,hk,hp⟩:=Fk hk;obtain⟨hb,hk⟩:=Al hk;simp only[Bool.and_eq_true,decide_eq_true_eq] at hb;rcases Gh hp hx with⟨_,rfl,_⟩|⟨ad,cap,De,_,_,h1,h2,h3,h4⟩|⟨_,_,_,_,rfl,_⟩
   ·omega
   rotate_left
   ·omega
   ·refine⟨_,hk,B6 (val:=.pointer (some (ad.add (n.toNat*Bc P e)))) ?_ ⟨ad,rfl,h1,h2,h3,h4⟩ (by intro i hi;cases hi)⟩
    unfold execOp;rw[ho];simp[Instr.indexAt,asIntOf,hai,De,run_underlying hu,hb.1,hb.2,sizeOf,typeInfo,Pg,My]
 ·cases hk
theorem SE (h:Cw N w0 X0 Y β s a w){t:TypeId}{x i:Operand}(ho:o.op=.index t x i){K:PV->Option R}
  (hk:(Ds (B3 s.tm i) fun _ n=>
   match P.underlying t with
   |some .string=>Ar (B3 s.tm x) fun s=>A2 (decide (0<=n)) (C5 (s.data.toList[n.toNat]?) fun b=>K (.sc (.int .u8 b.toNat)))
   |some (.array len e)=>F7 (B3 s.tm x) fun cs=>A2 (decide (0<=n)&&decide (n<len)&&Ir P e) (Od (H7 P e) cs (n.toNat*Bc P e) fun c=>mkV (B9 P e) c K)
   |_=>none)=some r):∃v,K v=some r∧Eg P a w o Y β s v [] []:=by
 obtain⟨ik,n,hi,hk⟩:=Dn hk;have hai:=B8 h hi;split at hk
 ·rename_i hu;obtain⟨sb,hx,hk⟩:=Dq hk;have De:=B8 h hx;obtain⟨h0,hk⟩:=Al hk;obtain⟨b,hb,hk⟩:=Ce hk;have h0:=of_decide_eq_true h0;refine⟨_,hk,Cl ?_⟩
  have Cb:n.toNat<sb.size:=by
   rcases Nat.lt_or_ge n.toNat sb.data.toList.length with h|h
   ·simpa using h
   ·rw[List.getElem?_eq_none h] at hb;cases hb
  have H5:sb[n.toNat]=b:=by
   have:sb.data.toList[n.toNat]?=some sb[n.toNat]:=by
    rw[List.getElem?_eq_getElem (by simpa using Cb)]
    rfl
   rw[hb] at this;injection this with this;exact this.symm
  unfold execOp;rw[ho];simp[Instr.index,asIntOf,hai,De,run_underlying hu,h0,Cb,H5]
 ·rename_i len e hu;obtain⟨cs,hx,hk⟩:=G2 hk;obtain⟨hb,hk⟩:=Al hk;simp only[Bool.and_eq_true,decide_eq_true_eq] at hb;have hxv:=C4 h x;rw[hx] at hxv;obtain⟨vs,De,hv⟩:=hxv;obtain⟨_,_,My⟩:=Qg hb.2;refine EX (t:=e) (off:=n.toNat*Bc P e) h hx hv (by rw[hb.2];exact hk) fun val hp=>?_
  unfold execOp;rw[ho];simp[Instr.index,asIntOf,hai,De,run_underlying hu,hb.1.1,hb.1.2,J5 My,hp]
 ·cases hk
end
open Go.RowKit
section
variable {R:Type} {r:R} {P:Program} {N:Nat} {w0:World} {X0:H0} {Y:Nat->Prop} {β β':Bt} {s:St} {a:Act} {w w':World} {o:Oper} {A:Nat->Prop}
theorem D5 (h:Cw N w0 X0 Y β s a w){x:Option Operand}{dflt:Nat}{K:Nat->Option R}(hk:Gr (x.map (B3 s.tm)) dflt K=some r):
  ∃l,K l=some r∧((x=none∧l=dflt)∨∃y k,x=some y∧a.eval y=.int k (l:Int)):=by
 cases x with
 |none=>exact⟨dflt,hk,.inl ⟨rfl,rfl⟩⟩
 |some y=>
  obtain⟨k,i,hi,hk⟩:=Dn (show Ds (B3 s.tm y) _=some r from hk)
  obtain⟨h0,hk⟩:=Al hk;have h0:=of_decide_eq_true h0;exact⟨i.toNat,hk,.inr ⟨y,k,rfl,by rw[B8 h hi,Int.toNat_of_nonneg h0]⟩⟩
theorem Id {lo hi:Option Operand}{isS:Bool}{len cap l u:Nat}(hl:(lo=none∧l=0)∨∃y k,lo=some y∧a.eval y=.int k (l:Int))
  (hu:(hi=none∧u=len)∨∃y k,hi=some y∧a.eval y=.int k (u:Int)) (h1:l<=u)(h2:u<=cap):
  (Instr.sliceBounds isS len cap (lo.map a.eval) (hi.map a.eval) none).run P w=.ok (l,u,cap) w:=by
 rcases hl with⟨rfl,rfl⟩|⟨y,k,rfl,hy⟩<;>rcases hu with⟨rfl,rfl⟩|⟨y',k',rfl,hy'⟩
 ·simp[Instr.sliceBounds]
 ·simp[Instr.sliceBounds,Instr.sliceBound,asIntOf,hy',h2]
 ·simp[Instr.sliceBounds,Instr.sliceBound,asIntOf,hy,h1]
 ·simp[Instr.sliceBounds,Instr.sliceBound,asIntOf,hy,hy',h1,h2]
theorem Cv {e:TypeId}(h:(P.info? e).isSome=true) (w:World):(sizeOf e).run P w=.ok (Bc P e) w:=by
 obtain⟨i,hi⟩:=Option.isSome_iff_exists.1 h;exact J5 (by simp[Bc,hi]) w
theorem GG {b j:Nat}{v:Value}(h:w.cell? ⟨b,j,none⟩=some v):j<bsz w b:=by
 unfold World.cell? at h;unfold bsz;split at h
 ·rename_i c e fz hb;simp only at hb;rw[hb];simp only[Option.isSome_none,Bool.false_eq_true,if_false] at h;rcases Nat.lt_or_ge j c.size with Cb|hge
  ·exact Cb
  ·rw[Array.getElem?_eq_none hge] at h;cases h
 ·cases h
theorem RN (h:Cw N w0 X0 Y β s a w){t:TypeId}{x:Operand}{lo hi:Option Operand}(ho:o.op=.slice t x lo hi none){K:PV->Option R}
  (hk:AE P (rd s.hp) t (B3 s.tm x) (lo.map (B3 s.tm)) (hi.map (B3 s.tm)) K=some r):∃v,K v=some r∧Eg P a w o Y β s v [] []:=by
 have hx:=C4 h x;have IR:=E9 h x;unfold AE at hk;split at hk
 ·rename_i hu;obtain⟨sb,IY,hk⟩:=Dq hk;have De:=B8 h IY;obtain⟨l,hk,hl⟩:=D5 h hk;obtain⟨u,hk,I3⟩:=D5 h hk;obtain⟨hb,hk⟩:=Al hk;simp only[Bool.and_eq_true,decide_eq_true_eq] at hb;refine⟨_,hk,Cl ?_⟩;unfold execOp;rw[ho];simp[Instr.sliceAt,Instr.slice,run_underlying hu,De,Id hl I3 hb.1 hb.2]
 ·rename_i e hu;obtain⟨Pg,hk⟩:=Al hk;split at hk
  ·rename_i id es off n e';rw[e'] at hx IR;obtain⟨Vf,hk⟩:=Al hk;have Vf:=Nat.eq_of_beq_eq_true Vf;subst Vf;obtain⟨l,hk,hl⟩:=D5 h hk;obtain⟨u,hk,I3⟩:=D5 h hk;obtain⟨hb,hk⟩:=Al hk;simp only[Bool.and_eq_true,decide_eq_true_eq] at hb;rcases hx with⟨hβ,rfl,rfl,ad,De⟩|⟨b,ob,y,cap,hβ,De,hy,hn,Wx,Cb⟩
   ·have hu0:u=0:=by omega
    have hl0:l=0:=by omega
    subst hu0 hl0;refine⟨_,hk,B6 (val:=.slice ad 0 0) ?_ (.inl ⟨hβ,by simp,rfl,ad,rfl⟩) IR⟩
    unfold execOp;rw[ho];cases ad<;>simp[Instr.sliceAt,Instr.slice,run_underlying hu,De,Id hl I3 (Nat.le_refl 0) (Nat.le_refl 0),Cv Pg]
   ·have Cr:(execOp a.eval o).run P w=.ok (.value (.slice (some (if cap=l then ⟨b,y,none⟩ else ⟨b,y+l*Bc P e,none⟩)) (u-l) (cap-l))) w:=by
     unfold execOp;rw[ho];have RD:=Id (P:=P) (w:=w) (isS:=true) hl I3 hb.1 (Nat.le_trans hb.2 hn);simp[Instr.sliceAt,Instr.slice,run_underlying hu,De,RD,Cv Pg,Er];split<;>rfl
    refine⟨_,hk,B6 Cr (.inr ?_) IR⟩;by_cases hc:cap=l
    ·rw[if_pos hc];refine⟨b,ob,y,cap-l,hβ,rfl,?_,by omega,⟨by rw[hc,Nat.sub_self];have:=Wx.1;omega,Wx.2⟩,Cb⟩
     by_cases h0:l*Bc P e=0
     ·rw[h0,Nat.add_zero];rcases hy with hy|⟨Zo,Pj⟩
      ·exact .inl hy
      ·exact .inr ⟨by omega,Pj⟩
     ·exact .inr ⟨by omega,by omega⟩
    ·rw[if_neg hc];refine⟨b,ob,y+l*Bc P e,cap-l,hβ,rfl,?_,by omega,?_,Cb⟩
     ·rcases hy with hy|⟨Zo,Pj⟩
      ·exact .inl (by omega)
      ·exact .inr ⟨by omega,by omega⟩
     ·have:l*Bc P e+(cap-l)*Bc P e=cap*Bc P e:=by
       rw[←Nat.add_mul]
       congr 1
       omega
      have:=Wx.1;exact⟨by omega,Wx.2⟩
  ·obtain⟨z,n,c,hk,hp⟩:=Fk hk;obtain⟨l,hk,hl⟩:=D5 h hk;obtain⟨u,hk,I3⟩:=D5 h hk;obtain⟨hb,hk⟩:=Al hk;simp only[Bool.and_eq_true,decide_eq_true_eq] at hb;rcases Gh hp hx with⟨De,rfl,rfl⟩|⟨ad,cap,De,rfl,hn,h1,h2,h3,h4⟩|⟨ad,cap,De,rfl,rfl,rfl⟩
   rotate_right
   ·have hu0:u=0:=by omega
    have hl0:l=0:=by omega
    subst hu0 hl0;refine⟨_,hk,B6 (val:=.slice (some (if cap=0 then ad else ad.add (0*Bc P e))) (0-0) (cap-0)) ?_ ?_ (by intro i hi;cases hi)⟩
    ·unfold execOp;rw[ho];have RD:=Id (P:=P) (w:=w) (isS:=true) hl I3 (Nat.le_refl 0) (Nat.zero_le cap);simp[Instr.sliceAt,Instr.slice,run_underlying hu,De,RD,Cv Pg];split<;>rfl
    ·have:((([]:List PV).drop (0*Bc P e)).take ((0-0)*Bc P e))=[]:=by simp
     rw[this];exact Ay.lemp _ _ _
   ·have hu0:u=0:=by omega
    have hl0:l=0:=by omega
    subst hu0 hl0;refine⟨_,hk,B6 (val:=.slice none 0 0) ?_ ?_ (by intro i hi;cases hi)⟩
    ·unfold execOp;rw[ho];simp[Instr.sliceAt,Instr.slice,run_underlying hu,De,Id hl I3 (Nat.le_refl 0) (Nat.le_refl 0),Cv Pg]
    ·have:((([]:List PV).drop (0*Bc P e)).take ((0-0)*Bc P e))=[]:=by simp
     rw[this];exact Ay.lnil z _
   ·have Cr:(execOp a.eval o).run P w=.ok (.value (.slice (some (if cap=l then ad else ad.add (l*Bc P e))) (u-l) (cap-l))) w:=by
     unfold execOp;rw[ho];have RD:=Id (P:=P) (w:=w) (isS:=true) hl I3 hb.1 (Nat.le_trans hb.2 hn);simp[Instr.sliceAt,Instr.slice,run_underlying hu,De,RD,Cv Pg];split<;>rfl
    refine⟨_,hk,B6 Cr ?_ (by intro i hi;cases hi)⟩
    by_cases hc:cap=l
    ·rw[if_pos hc];have:u-l=0:=by omega
     rw[this];simp only[Nat.zero_mul,List.take_zero];exact Ay.lst _ _ [] ad _ (fun _=>undef) h1 h2 h3 (by omega) (by simp) (by simp) (by simp)
    ·rw[if_neg hc]
     have C3:∀(j:Nat) q,((c.drop (l*Bc P e)).take ((u-l)*Bc P e))[j]?=some q->c[l*Bc P e+j]?=some q:=by
      intro j q hq;rw[List.getElem?_take] at hq;split at hq
      ·rw[List.getElem?_drop] at hq;exact hq
      ·cases hq
     refine Ay.lst _ _ _ (ad.add (l*Bc P e)) _ (fun j=>(w.cell? (ad.add (l*Bc P e+j))).getD undef) (Alc h1 _) (by rw[E1];exact h2) (by rw[E1];exact h3) (by omega) (fun j q hq=>?_) (fun j q hq=>?_) (fun j q hq=>?_)
     ·obtain⟨v,hv,_⟩:=h4 _ q (C3 j q hq);rw[add_add,hv];rfl
     ·obtain⟨v,hv,h5,_⟩:=h4 _ q (C3 j q hq);rw[hv];exact h5
     ·obtain⟨v,hv,_,ht⟩:=h4 _ q (C3 j q hq);rw[hv];exact ht
 ·rename_i n e hu;obtain⟨Pg,hk⟩:=Al hk;split at hk
  ·rename_i id off e';rw[e'] at hx IR;obtain⟨c,hrc,hk⟩:=Ce hk;obtain⟨C6,hk⟩:=Al hk;simp only[Bool.and_eq_true,decide_eq_true_eq] at C6;have Vf:=Nat.eq_of_beq_eq_true C6.2
   replace C6:=C6.1
   obtain⟨l,hk,hl⟩:=D5 h hk;obtain⟨u,hk,I3⟩:=D5 h hk;obtain⟨hb,hk⟩:=Al hk;simp only[Bool.and_eq_true,decide_eq_true_eq] at hb;obtain⟨b,ob,hβ,De⟩:=hx
   have KC:ob+off+n*Bc P e<=bsz w b:=by
    obtain⟨v,hv,_⟩:=GA h hrc hβ (j:=off+n*Bc P e-1) (List.getElem?_eq_getElem (by omega))
    have:=GG hv;omega
   have Cb:b<w.heap.size:=h.blt id b ob (IR id (by simp[Bx,Cf,As])) hβ
   have Cr:(execOp a.eval o).run P w=.ok (.value (.slice (some (if n=l then ⟨b,ob+off,none⟩ else ⟨b,ob+off+l*Bc P e,none⟩)) (u-l) (n-l))) w:=by
    unfold execOp;rw[ho];have RD:=Id (P:=P) (w:=w) (isS:=false) hl I3 hb.1 hb.2;simp[Instr.sliceAt,Instr.sureAddr,run_underlying hu,De,RD,Cv Pg,Er]
   refine⟨_,hk,B6 Cr (.inr ?_) IR⟩;by_cases hc:n=l
   ·rw[if_pos hc];refine⟨b,ob,ob+off,n-l,hβ,rfl,?_,by omega,⟨by rw[hc,Nat.sub_self];omega,.inl Vf⟩,Cb⟩
    by_cases h0:l*Bc P e=0
    ·rw[h0,Nat.add_zero];exact .inl rfl
    ·exact .inr ⟨by omega,by omega⟩
   ·rw[if_neg hc];refine⟨b,ob,ob+off+l*Bc P e,n-l,hβ,rfl,.inl (by omega),by omega,?_,Cb⟩
    have:l*Bc P e+(n-l)*Bc P e=n*Bc P e:=by
     rw[←Nat.add_mul]
     congr 1
     omega
    exact⟨by omega,.inl Vf⟩
  ·cases hk
 ·cases hk
end
open Go.RowKit
section
variable {R:Type} {r:R} {P:Program} {N:Nat} {w0:World} {X0:H0} {Y:Nat->Prop} {β β':Bt} {s:St} {a:Act} {w w':World} {o:Oper} {A:Nat->Prop}
theorem Afd (h:Cw N w0 X0 Y β s a w){c:Call}(ho:o.op=.call c)(hc:c.callee=.builtin .len){K:PV->Option R}
  (hk:(Aa c.args.toList fun x _=>Aa c.argTypes.toList fun t _=>Af2 P t (B3 s.tm x) fun n=>K (.sc (.int .i64 n)))=some r):∃v,K v=some r∧Eg P a w o Y β s v [] []:=by
 obtain⟨x,xs,IY,hk⟩:=Bb hk;obtain⟨t,ts,QO,hk⟩:=Bb hk;have hx:=C4 h x;have E3:c.args=(x::xs).toArray:=by rw[←IY]
 have DK:c.argTypes=(t::ts).toArray:=by rw[←QO]
 have Cr:∀n:Nat,(Builtin.len_ c.argTypes o.type (c.args.map a.eval)).run P w=.ok (.int .i64 n) w->(execOp a.eval o).run P w=.ok (.value (.int .i64 n)) w:=by
  intro n hl;unfold execOp;rw[ho];simp only[resolve,hc,invoke,builtin,Sem.run_bind,Sem.run_pure,Result.andThen_ok,hl]
 unfold Af2 at hk;split at hk
 ·rename_i hu;obtain⟨sb,A77,hk⟩:=Dq hk;have De:=B8 h A77;refine⟨_,hk,Cl (Cr _ ?_)⟩;simp[Builtin.len_,E3,DK,run_underlying hu,De,goInt]
 ·rename_i n e hu;refine⟨_,hk,Cl (Cr _ ?_)⟩;simp[Builtin.len_,E3,DK,run_underlying hu,goInt]
 ·rename_i e hu;split at hk
  ·rename_i id es off n e';rw[e'] at hx;obtain⟨_,hk⟩:=Al hk;refine⟨_,hk,Cl (Cr _ ?_)⟩;rcases hx with⟨_,_,rfl,ad,De⟩|⟨b,ob,y,cap,_,De,_⟩<;>simp[Builtin.len_,E3,DK,run_underlying hu,De,goInt]
  ·obtain⟨z,n,cc,hk,hp⟩:=Fk hk;refine⟨_,hk,Cl (Cr _ ?_)⟩;rcases Gh hp hx with⟨De,rfl,_⟩|⟨ad,cap,De,_⟩|⟨ad,cap,De,_,rfl,_⟩<;>simp[Builtin.len_,E3,DK,run_underlying hu,De,goInt]
 ·cases hk
theorem Agp (h:Cw N w0 X0 Y β s a w){c:Call}(ho:o.op=.call c)(hc:c.callee=.builtin .cap){K:PV->Option R}
  (hk:(Aa c.args.toList fun x _=>Aa c.argTypes.toList fun t _=>Af5 P t (B3 s.tm x) fun n=>K (.sc (.int .i64 n)))=some r):∃v,K v=some r∧Eg P a w o Y β s v [] []:=by
 obtain⟨x,xs,IY,hk⟩:=Bb hk;obtain⟨t,ts,QO,hk⟩:=Bb hk;have hx:=C4 h x;have E3:c.args=(x::xs).toArray:=by rw[←IY]
 have DK:c.argTypes=(t::ts).toArray:=by rw[←QO]
 have Cr:∀n:Nat,(Builtin.cap_ c.argTypes o.type (c.args.map a.eval)).run P w=.ok (.int .i64 n) w->(execOp a.eval o).run P w=.ok (.value (.int .i64 n)) w:=by
  intro n hl;unfold execOp;rw[ho];simp only[resolve,hc,invoke,builtin,Sem.run_bind,Sem.run_pure,Result.andThen_ok,hl]
 unfold Af5 at hk;split at hk
 ·rename_i e hu;obtain⟨z,n,cc,hk,hp⟩:=Fk hk;obtain⟨hz,hk⟩:=Al hk;refine⟨_,hk,Cl (Cr _ ?_)⟩;rcases Gh hp hx with⟨De,rfl,_⟩|⟨ad,cap,De,HQ,_⟩|⟨ad,cap,De,HQ,_,_⟩
  ·simp[Builtin.cap_,E3,DK,run_underlying hu,De,goInt]
  ·rw[hz] at HQ;cases HQ
  ·rw[hz] at HQ;cases HQ
 ·cases hk
theorem Af1 (h:Cw N w0 X0 Y β s a w){c:Call}(ho:o.op=.call c)(hc:c.callee=.builtin .min){K:PV->Option R}
  (hk:(Aa c.args.toList fun x r=>Aa r fun y r'=>Ad r' (An3 (B3 s.tm x) (B3 s.tm y) K))=some r):∃v,K v=some r∧Eg P a w o Y β s v [] []:=by
 obtain⟨x,xs,IY,hk⟩:=Bb hk;obtain⟨y,ys,rfl,hk⟩:=Bb hk;obtain⟨rfl,hk⟩:=Dr hk;obtain⟨k,n,hx,hk⟩:=Dn hk;obtain⟨m,hy,hk⟩:=En hk
 have E3:c.args = #[x,y]:=by
  have:c.args=([x,y]:List Operand).toArray:=by rw[←IY]
  exact this
 refine⟨_,hk,Cl ?_⟩;unfold execOp;rw[ho];simp[resolve,hc,invoke,builtin,E3,Builtin.min_,Builtin.min2,B8 h hx,B8 h hy]
theorem Aer (h:Cw N w0 X0 Y β s a w){c:Call}(ho:o.op=.call c)(hc:c.callee=.builtin .max){K:PV->Option R}
  (hk:(Aa c.args.toList fun x r=>Aa r fun y r'=>Ad r' (An4 (B3 s.tm x) (B3 s.tm y) K))=some r):∃v,K v=some r∧Eg P a w o Y β s v [] []:=by
 obtain⟨x,xs,IY,hk⟩:=Bb hk;obtain⟨y,ys,rfl,hk⟩:=Bb hk;obtain⟨rfl,hk⟩:=Dr hk;obtain⟨k,n,hx,hk⟩:=Dn hk;obtain⟨m,hy,hk⟩:=En hk
 have E3:c.args = #[x,y]:=by
  have:c.args=([x,y]:List Operand).toArray:=by rw[←IY]
  exact this
 refine⟨_,hk,Cl ?_⟩;unfold execOp;rw[ho];simp[resolve,hc,invoke,builtin,E3,Builtin.max_,Builtin.max2,B8 h hx,B8 h hy]
theorem ZG (h:Cw N w0 X0 Y β s a w){op:UnOp}{t:TypeId}{x:Operand}(ho:o.op=.unOp op t x){K:PV->Option R}(hk:unK op (B3 s.tm x) K=some r):
  ∃v,K v=some r∧Eg P a w o Y β s v [] []:=by
 unfold unK at hk;split at hk
 ·obtain⟨b,hb,hk⟩:=Dv hk;refine⟨_,hk,Cl ?_⟩;unfold execOp;rw[ho];simp[Op.unary,B8 h hb]
 ·obtain⟨k,n,hb,hk⟩:=Dn hk;refine⟨_,hk,Cl ?_⟩;unfold execOp;rw[ho];simp[Op.unary,Op.intArith,B8 h hb]
 ·obtain⟨k,n,hb,hk⟩:=Dn hk;refine⟨_,hk,Cl ?_⟩;unfold execOp;rw[ho];simp[Op.unary,Op.intBits,B8 h hb,A3g]
 ·cases hk
theorem Ad8 {op:BinOp}{k:IntKind}{m n:Int}{t:TypeId}{x y:Operand}{K:PV->Option R}(hs1:op ≠ .shl)(Vm:op ≠ .shr)(hk:IG op k m n K=some r):
  ∃v,K (.sc v)=some r∧(do eqGuard op t x y (.int k m) (.int k n);binOp op t (.int k m) (.int k n)).run P w=.ok v w:=by
 cases op<;>first
  |exact absurd rfl hs1
  |exact absurd rfl Vm
  |(obtain⟨hb,hk⟩:=Al hk;have hb:=of_decide_eq_true hb;exact⟨_,hk,by simp[eqGuard,binOp,Op.intDiv,hb]⟩)
  |exact⟨_,hk,by simp[eqGuard,binOp,-BitVec.toNat_and,-BitVec.toNat_or,-BitVec.toNat_xor,-gt_iff_lt,-ge_iff_le]<;>rfl⟩
theorem Adu {op:BinOp}{m n:ByteArray}{t:TypeId}{x y:Operand}{K:PV->Option R}(hk:HF op m n K=some r):
  ∃v,K (.sc v)=some r∧(do eqGuard op t x y (.string m) (.string n);binOp op t (.string m) (.string n)).run P w=.ok v w:=by
 cases op<;>first
  |cases hk
  |(obtain⟨hb,hk⟩:=Al hk;have hb:=of_decide_eq_true hb;exact⟨_,hk,by
    have H5:¬(((m.size+n.size:Nat):Int)>IntKind.i64.max):=by
     have:IntKind.i64.max=9223372036854775807:=rfl;rw[this];omega
    simp only[eqGuard,binOp,Op.stringOp,if_neg H5];rfl⟩)
  |exact⟨_,hk,by simp only[eqGuard,binOp,Op.stringOp,ByteArray.toList_eq];rfl⟩
end
open Go.RowKit
section
variable {R:Type} {r:R} {P:Program} {N:Nat} {w0:World} {X0:H0} {Y:Nat->Prop} {β β':Bt} {s:St} {a:Act} {w w':World} {o:Oper} {A:Nat->Prop}
theorem EV {t:TypeId}(hu:P.underlying t=some .bool)(x y:Bool):(Op.equal t (.bool x) (.bool y)).run P w=.ok (x==y) w:=by
 have h:∀d,(Op.equalIn (d+1) t (.bool x) (.bool y)).run P w=.ok (x==y) w:=fun d=>by simp[Op.equalIn,run_underlying hu]
 exact h 9999
theorem Uf {t e:TypeId}(hu:P.underlying t=some (.slice e)) (x:Option Addr)(n c:Nat):(Op.equal t (.slice x n c) (.slice none 0 0)).run P w=.ok x.isNone w:=by
 have h:∀d,(Op.equalIn (d+1) t (.slice x n c) (.slice none 0 0)).run P w=.ok x.isNone w:=fun d=>by
  cases x<;>simp[Op.equalIn,run_underlying hu]
 exact h 9999
theorem Y3 {t k e:TypeId}(hu:P.underlying t=some (.map k e)):(Op.equal t (.map none) (.map none)).run P w=.ok true w:=by
 have h:∀d,(Op.equalIn (d+1) t (.map none) (.map none)).run P w=.ok true w:=fun d=>by
  simp[Op.equalIn,run_underlying hu]
 exact h 9999
theorem Ip {t:TypeId}(d:Nat){v u:Value}(hv:(∃k m n,P.underlying t=some (.int k)∧v=.int k m∧u=.int k n)∨(∃m n,P.underlying t=some .bool∧v=.bool m∧u=.bool n)∨∃m n,P.underlying t=some .string∧v=.string m∧u=.string n) {b:Bool}
  (hb:∀k m n,v=.int k m->u=.int k n->b=(m==n)) (H5:∀m n,v=.bool m->u=.bool n->b=(m==n)) (A88:∀m n,v=.string m->u=.string n->b=(m==n)):(Op.equalIn (d+1) t v u).run P w=.ok b w:=by
 rcases hv with⟨k,m,n,hu,rfl,rfl⟩|⟨m,n,hu,rfl,rfl⟩|⟨m,n,hu,rfl,rfl⟩
 ·rw[hb k m n rfl rfl];simp[Op.equalIn,run_underlying hu]
 ·rw[H5 m n rfl rfl];simp[Op.equalIn,run_underlying hu]
 ·rw[A88 m n rfl rfl];simp[Op.equalIn,run_underlying hu]
theorem Qz {t:TypeId}{dsc:TypeDesc}(hu:P.underlying t=some dsc)(hd:B9 P t=false){xs:Array Value}{i:Nat}{v:Value}(hv:xs[i]?=some v):(part t xs i).run P w=.ok v w:=by
 simp only[part,Sem.run_bind,Mv hu,hd,Result.andThen_ok];simp[hv]
theorem LA (k:IntKind)(n:Int)(K:Int->Option R):Aj k (.sc (.int k n)) K=K n:=by simp[Aj]
theorem TF (d : Nat) : ∀ (fs : List Field) (i : Nat) (xs ys : Array Value) (ps qs : List PV) (K : Bool -> Option R), TQ P fs i = true -> Kz (fs.map (fty P)) ps qs K = some r ->
    (∀ (j : Nat) p, ps[j]? = some p -> ∃ v, xs[i + j]? = some v ∧ B2 w A β p v) -> (∀ (j : Nat) p, qs[j]? = some p -> ∃ v, ys[i + j]? = some v ∧ B2 w A β p v) ->
    ∃ b, K b = some r ∧ (forIn fs ((none, ()) : Option Bool × Unit) fun (f : Field) (_ : Option Bool × Unit) =>
            if f.name = "_" then pure (ForInStep.yield ((none, ()) : Option Bool × Unit))
            else do
              let x ← part f.type xs f.offset
              let y ← part f.type ys f.offset
              let e ← Op.equalIn (d + 1) f.type x y
              if e = false then pure (ForInStep.done ((some false, ()) : Option Bool × Unit)) else pure (ForInStep.yield ((none, ()) : Option Bool × Unit)) : Sem (Option Bool × Unit)).run P w = .ok (if b then (none, ()) else (some false, ())) w
  | [], i, xs, ys, ps, qs, K, _, hk, _, _ => by
    cases ps with
    | nil => cases qs with
      | nil => exact⟨true, hk, by simp⟩
      | cons q qs => cases hk
    | cons p ps => cases hk
  | f :: fs, i, xs, ys, ps, qs, K, EE, hk, hp, hq => by
    simp only[TQ, Bool.and_eq_true] at EE
    obtain⟨⟨⟨Pj, Amb⟩, hty⟩, Vo⟩ := EE
    have Pj := Nat.eq_of_beq_eq_true Pj
    have HP : f.name ≠ "_" := by simpa using Amb
    cases ps with
    | nil =>
      simp only[List.map_cons] at hk
      cases Avj : fty P f <;> rw[Avj] at hk <;> cases hk
    | cons p ps =>
      cases qs with
      | nil =>
        simp only[List.map_cons] at hk
        cases Avj : fty P f <;> rw[Avj] at hk <;> cases hk
      | cons q qs =>
        obtain⟨v, hv, AX⟩ := hp 0 p rfl
        obtain⟨u, hu, hqu⟩ := hq 0 q rfl
        rw[Nat.add_zero] at hv hu
        have main : ∃ b0 dsc, P.underlying f.type = some dsc ∧ B9 P f.type = false ∧ (Op.equalIn (d + 1) f.type v u).run P w = .ok b0 w ∧ Kz (fs.map (fty P)) ps qs (fun r => K (b0 && r)) = some r := by
          simp only[List.map_cons] at hk
          unfold fty at hk
          split at hk
          · rename_i k Js
            obtain⟨m, LM, Ea⟩ := En (show Aj k p _ = some r from hk)
            obtain⟨n, IV, Ep⟩ := En Ea
            subst LM IV
            have N2 : v = .int k m := Ay.val (w := w) (A := A) AX
            have I3 : u = .int k n := Ay.val (w := w) (A := A) hqu
            subst N2 I3
            refine⟨m == n, _, Js, by simp[B9, Js], Ip d (.inl ⟨k, m, n, Js, rfl, rfl⟩) ?_ ?_ ?_, Ep⟩
            · intro k' m' n' h1 h2; injection h1 with _ h1; injection h2 with _ h2; rw[h1, h2]
            · intro m' n' h1; cases h1
            · intro m' n' h1; cases h1
          · rename_i Js
            obtain⟨m, LM, Ea⟩ := Dv (show Aq p _ = some r from hk)
            obtain⟨n, IV, Ep⟩ := Dv Ea
            subst LM IV
            have N2 : v = .bool m := Ay.val (w := w) (A := A) AX
            have I3 : u = .bool n := Ay.val (w := w) (A := A) hqu
            subst N2 I3
            refine⟨m == n, _, Js, by simp[B9, Js], Ip d (.inr (.inl ⟨m, n, Js, rfl, rfl⟩)) ?_ ?_ ?_, Ep⟩
            · intro k' m' n' h1; cases h1
            · intro m' n' h1 h2; injection h1 with h1; injection h2 with h2; rw[h1, h2]
            · intro m' n' h1; cases h1
          · rename_i Js
            obtain⟨m, LM, Ea⟩ := Dq (show Ar p _ = some r from hk)
            obtain⟨n, IV, Ep⟩ := Dq Ea
            subst LM IV
            have N2 : v = .string m := Ay.val (w := w) (A := A) AX
            have I3 : u = .string n := Ay.val (w := w) (A := A) hqu
            subst N2 I3
            refine⟨m == n, _, Js, by simp[B9, Js], Ip d (.inr (.inr ⟨m, n, Js, rfl, rfl⟩)) ?_ ?_ ?_, Ep⟩
            · intro k' m' n' h1; cases h1
            · intro m' n' h1; cases h1
            · intro m' n' h1 h2; injection h1 with h1; injection h2 with h2; rw[h1, h2]
          · cases hk
        obtain⟨b0, dsc, Js, F0, he, hk⟩ := main
        obtain⟨b, hkb, Cr⟩ := TF d fs (i + 1) xs ys ps qs _ Vo hk (fun j p' hj => by have := hp (j + 1) p' hj; rwa [Nat.add_assoc, Nat.add_comm 1 j]) (fun j p' hj => by have := hq (j + 1) p' hj; rwa [Nat.add_assoc, Nat.add_comm 1 j])
        refine⟨b0 && b, hkb, ?_⟩
        have hpx : (part f.type xs f.offset).run P w = .ok v w := Qz Js F0 (by rw[Pj]; exact hv)
        have hpy : (part f.type ys f.offset).run P w = .ok u w := Qz Js F0 (by rw[Pj]; exact hu)
        cases b0
        · simp[List.forIn_cons, HP, hpx, hpy, he]
        · simp only[Bool.true_and]
          rw[← Cr]
          simp[List.forIn_cons, HP, hpx, hpy, he]
theorem DD (d:Nat){t:TypeId}{fs:Array Field}(hu:P.underlying t=some (.struct fs)) (F8:P.stoodInHeld t=false)(EE:TQ P fs.toList 0=true){xs ys:List PV}{vx vy:List Value}
  (hvx:Bh (B2 w A β) xs vx) (hvy:Bh (B2 w A β) ys vy) {K:Bool->Option R}(hk:Kz (fs.toList.map (fty P)) xs ys K=some r):
  ∃b,K b=some r∧(Op.equalIn (d+2) t (.agg ⟨vx⟩) (.agg ⟨vy⟩)).run P w=.ok b w:=by
 obtain⟨b,hkb,Cr⟩:=TF (P:=P) (w:=w) (A:=A) (β:=β) d fs.toList 0 ⟨vx⟩ ⟨vy⟩ xs ys K EE hk (fun j p hj=>by
   obtain⟨v,hv,hc⟩:=hvx.get hj;exact⟨v,by simpa using hv,hc⟩) (fun j p hj=>by
   obtain⟨v,hv,hc⟩:=hvy.get hj;exact⟨v,by simpa using hv,hc⟩)
 refine⟨b,hkb,?_⟩;rw[Array.forIn_toList] at Cr;rw[Op.equalIn];simp[run_underlying hu,F8];rw[Cr];cases b<;>simp
theorem Zg:∀(ts1:List CT){ts2:List CT}{ps qs:List PV}{K:Bool->Option R},Kz (ts1++ts2) ps qs K=some r ->
  Kz ts1 (ps.take ts1.length) (qs.take ts1.length) (fun b=>Kz ts2 (ps.drop ts1.length) (qs.drop ts1.length) fun r'=>K (b&&r'))=some r
 |[],ts2,ps,qs,K,h=>by
  simp only[List.length_nil,List.take_zero,List.drop_zero,Kz,Bool.true_and];exact h
 |t::ts1,ts2,ps,qs,K,h=>by
  rw[List.cons_append] at h;cases ps with
  |nil=>cases t<;>cases h
  |cons p ps=>
   cases qs with
   |nil=>cases t<;>cases h
   |cons q qs=>
    simp only[List.length_cons,List.take_succ_cons,List.drop_succ_cons];cases t with
    |int k=>
     obtain⟨m,LM,h1⟩:=En (show Aj k p _=some r from h)
     obtain⟨n,IV,h2⟩:=En h1;subst LM IV;have:=Zg ts1 h2;simp only[←Bool.and_assoc] at this;exact (LA _ _ _).trans ((LA _ _ _).trans this)
    |bool=>
     obtain⟨m,LM,h1⟩:=Dv (show Aq p _=some r from h)
     obtain⟨n,IV,h2⟩:=Dv h1;subst LM IV;have:=Zg ts1 h2;simp only[←Bool.and_assoc] at this;exact this
    |str=>
     obtain⟨m,LM,h1⟩:=Dq (show Ar p _=some r from h)
     obtain⟨n,IV,h2⟩:=Dq h1;subst LM IV;have:=Zg ts1 h2;simp only[←Bool.and_assoc] at this;exact this
    |sl es=>cases h
    |any=>cases h
theorem TW:∀(ts:List CT){ps qs:List PV}{K:Bool->Option R},Kz ts ps qs K=some r->ps.length=ts.length∧qs.length=ts.length
 |[],ps,qs,K,h=>by
  cases ps with
  |nil=>cases qs with
   |nil=>exact⟨rfl,rfl⟩
   |cons q qs=>cases h
  |cons p ps=>cases h
 |t::ts,ps,qs,K,h=>by
  cases ps with
  |nil=>cases t<;>cases h
  |cons p ps=>
   cases qs with
   |nil=>cases t<;>cases h
   |cons q qs=>
    have go:∃K',Kz ts ps qs K'=some r:=by
     cases t with
     |int k=>
      obtain⟨m,LM,h1⟩:=En (show Aj k p _=some r from h)
      obtain⟨n,IV,h2⟩:=En h1;exact⟨_,h2⟩
     |bool=>
      obtain⟨m,LM,h1⟩:=Dv (show Aq p _=some r from h)
      obtain⟨n,IV,h2⟩:=Dv h1;exact⟨_,h2⟩
     |str=>
      obtain⟨m,LM,h1⟩:=Dq (show Ar p _=some r from h)
      obtain⟨n,IV,h2⟩:=Dq h1;exact⟨_,h2⟩
     |sl es=>cases h
     |any=>cases h
    obtain⟨K',h'⟩:=go;have:=TW ts h';exact⟨by simp[this.1],by simp[this.2]⟩
theorem TU {t:TypeId}{dsc:TypeDesc}(hu:P.underlying t=some dsc)(hd:B9 P t=true)(hi:(P.info? t).isSome=true) (xs:Array Value)(i:Nat):(part t xs i).run P w=.ok (.agg (xs.extract i (i+Bc P t))) w:=by
 simp only[part,Sem.run_bind,Mv hu,hd,Result.andThen_ok,if_true,Cv hi];rfl
theorem MD {xs:Array Value}{i n:Nat}{ps:List PV}(hn:n<=ps.length)(hp:∀(j:Nat) p,ps[j]?=some p->∃v,xs[i+j]?=some v∧B2 w A β p v):Bh (B2 w A β) (ps.take n) (xs.extract i (i+n)).toList:=by
 rcases Nat.eq_zero_or_pos n with h0|h0
 ·subst h0;simp[Bh]
 have hl:n-1<ps.length:=by omega
 obtain⟨v,hv,_⟩:=hp (n-1) _ (List.getElem?_eq_getElem hl);have My:=(Array.getElem?_eq_some_iff.1 hv).1;refine Bh.of_at (by simp;omega) fun j a b ha hb=>?_
 rw[List.getElem?_take] at ha;split at ha
 ·rename_i hj;obtain⟨v,hv,hc⟩:=hp j a ha;rw[Array.getElem?_toList,Array.getElem?_extract] at hb;split at hb
  ·rw[hv] at hb;cases hb;exact hc
  ·cases hb
 ·cases ha
theorem CI {f:Field}{gs:Array Field}(hu:P.underlying f.type=some (.struct gs)):UD P f=gs.toList.map (fty P):=by unfold UD;rw[hu]
theorem XO {f:Field}(h:∀gs,P.underlying f.type≠some (.struct gs)):UD P f=[fty P f]:=by
 unfold UD;split
 ·rename_i gs hu;exact absurd hu (h gs)
 ·rfl
theorem Acv (d : Nat) : ∀ (fs : List Field) (i : Nat) (xs ys : Array Value) (ps qs : List PV) (K : Bool -> Option R), Nh P fs i = true -> Kz (Vu P fs) ps qs K = some r ->
    (∀ (j : Nat) p, ps[j]? = some p -> ∃ v, xs[i + j]? = some v ∧ B2 w A β p v) -> (∀ (j : Nat) p, qs[j]? = some p -> ∃ v, ys[i + j]? = some v ∧ B2 w A β p v) ->
    ∃ b, K b = some r ∧ (forIn fs ((none, ()) : Option Bool × Unit) fun (f : Field) (_ : Option Bool × Unit) =>
            if f.name = "_" then pure (ForInStep.yield ((none, ()) : Option Bool × Unit))
            else do
              let x ← part f.type xs f.offset
              let y ← part f.type ys f.offset
              let e ← Op.equalIn (d + 2) f.type x y
              if e = false then pure (ForInStep.done ((some false, ()) : Option Bool × Unit)) else pure (ForInStep.yield ((none, ()) : Option Bool × Unit)) : Sem (Option Bool × Unit)).run P w = .ok (if b then (none, ()) else (some false, ())) w
  | [], i, xs, ys, ps, qs, K, _, hk, _, _ => by
    cases ps with
    | nil => cases qs with
      | nil => exact⟨true, hk, by simp⟩
      | cons q qs => cases hk
    | cons p ps => cases hk
  | f :: fs, i, xs, ys, ps, qs, K, EE, hk, hp, hq => by
    simp only[Nh, Bool.and_eq_true] at EE
    obtain⟨⟨Pj, Amb⟩, hty⟩ := EE
    have Pj := Nat.eq_of_beq_eq_true Pj
    have HP : f.name ≠ "_" := by simpa using Amb
    have main : ∃ b0 v u n, (part f.type xs f.offset).run P w = .ok v w ∧ (part f.type ys f.offset).run P w = .ok u w ∧ (Op.equalIn (d + 2) f.type v u).run P w = .ok b0 w ∧ Nh P fs (i + n) = true ∧ Kz (Vu P fs) (ps.drop n) (qs.drop n) (fun r' => K (b0 && r')) = some r := by
      have hk := Zg (UD P f) (show Kz (UD P f ++ Vu P fs) ps qs K = some r from hk)
      have C6 := TW _ hk
      rw[List.length_take, List.length_take] at C6
      have plain : (∀ gs, P.underlying f.type ≠ some (.struct gs)) -> Nh P fs (i + 1) = true -> (match P.underlying f.type with | some (.int _) => true | some .bool => true | some .string => true | _ => false) = true ->
          ∃ b0 v u n, (part f.type xs f.offset).run P w = .ok v w ∧ (part f.type ys f.offset).run P w = .ok u w ∧ (Op.equalIn (d + 2) f.type v u).run P w = .ok b0 w ∧ Nh P fs (i + n) = true ∧ Kz (Vu P fs) (ps.drop n) (qs.drop n) (fun r' => K (b0 && r')) = some r := by
        intro hs Azg Qu
        rw[XO hs] at hk C6
        simp only[List.length_singleton] at hk C6
        obtain⟨p, ps, rfl⟩ : ∃ p ps', ps = p :: ps' := by
          cases ps with
          | nil => simp at C6
          | cons p ps => exact⟨p, ps, rfl⟩
        obtain⟨q, qs, rfl⟩ : ∃ q qs', qs = q :: qs' := by
          cases qs with
          | nil => simp at C6
          | cons q qs => exact⟨q, qs, rfl⟩
        obtain⟨v, hv, AX⟩ := hp 0 p rfl
        obtain⟨u, hu, hqu⟩ := hq 0 q rfl
        rw[Nat.add_zero] at hv hu
        simp only[List.take_succ_cons, List.take_zero, List.drop_succ_cons, List.drop_zero] at hk ⊢
        have one : ∃ b0 dsc, P.underlying f.type = some dsc ∧ B9 P f.type = false ∧ (Op.equalIn (d + 2) f.type v u).run P w = .ok b0 w ∧ Kz (Vu P fs) ps qs (fun r' => K (b0 && r')) = some r := by
          unfold fty at hk
          split at hk
          · rename_i k Js
            obtain⟨m, LM, Ea⟩ := En (show Aj k p _ = some r from hk)
            obtain⟨n, IV, Ep⟩ := En Ea
            subst LM IV
            have N2 : v = .int k m := Ay.val (w := w) (A := A) AX
            have I3 : u = .int k n := Ay.val (w := w) (A := A) hqu
            subst N2 I3
            have e : ∀ b : Bool, (b && true) = b := Bool.and_true
            simp only[Kz, e] at Ep
            refine⟨m == n, _, Js, by simp[B9, Js], Ip (d + 1) (.inl ⟨k, m, n, Js, rfl, rfl⟩) ?_ ?_ ?_, Ep⟩
            · intro k' m' n' h1 h2; injection h1 with _ h1; injection h2 with _ h2; rw[h1, h2]
            · intro m' n' h1; cases h1
            · intro m' n' h1; cases h1
          · rename_i Js
            obtain⟨m, LM, Ea⟩ := Dv (show Aq p _ = some r from hk)
            obtain⟨n, IV, Ep⟩ := Dv Ea
            subst LM IV
            have N2 : v = .bool m := Ay.val (w := w) (A := A) AX
            have I3 : u = .bool n := Ay.val (w := w) (A := A) hqu
            subst N2 I3
            have e : ∀ b : Bool, (b && true) = b := Bool.and_true
            simp only[Kz, e] at Ep
            refine⟨m == n, _, Js, by simp[B9, Js], Ip (d + 1) (.inr (.inl ⟨m, n, Js, rfl, rfl⟩)) ?_ ?_ ?_, Ep⟩
            · intro k' m' n' h1; cases h1
            · intro m' n' h1 h2; injection h1 with h1; injection h2 with h2; rw[h1, h2]
            · intro m' n' h1; cases h1
          · rename_i Js
            obtain⟨m, LM, Ea⟩ := Dq (show Ar p _ = some r from hk)
            obtain⟨n, IV, Ep⟩ := Dq Ea
            subst LM IV
            have N2 : v = .string m := Ay.val (w := w) (A := A) AX
            have I3 : u = .string n := Ay.val (w := w) (A := A) hqu
            subst N2 I3
            have e : ∀ b : Bool, (b && true) = b := Bool.and_true
            simp only[Kz, e] at Ep
            refine⟨m == n, _, Js, by simp[B9, Js], Ip (d + 1) (.inr (.inr ⟨m, n, Js, rfl, rfl⟩)) ?_ ?_ ?_, Ep⟩
            · intro k' m' n' h1; cases h1
            · intro m' n' h1; cases h1
            · intro m' n' h1 h2; injection h1 with h1; injection h2 with h2; rw[h1, h2]
          · cases hk
        obtain⟨b0, dsc, Js, F0, he, hk⟩ := one
        exact⟨b0, v, u, 1, Qz Js F0 (by rw[Pj]; exact hv), Qz Js F0 (by rw[Pj]; exact hu), he, Azg, by simpa using hk⟩
      split at hty
      · rename_i k Js
        exact plain (fun gs e => by rw[Js] at e; cases e) hty (by rw[Js])
      · rename_i Js
        exact plain (fun gs e => by rw[Js] at e; cases e) hty (by rw[Js])
      · rename_i Js
        exact plain (fun gs e => by rw[Js] at e; cases e) hty (by rw[Js])
      · rename_i gs Js
        simp only[Bool.and_eq_true, Bool.not_eq_true'] at hty
        obtain⟨⟨⟨⟨hfp, F8⟩, hi⟩, My⟩, Vo⟩ := hty
        have My := Nat.eq_of_beq_eq_true My
        have I7 : (UD P f).length = gs.size := by rw[CI Js, List.length_map, Array.length_toList]
        rw[I7] at hk C6
        rw[CI Js] at hk
        have hx := MD (n := gs.size) (by omega) hp
        have hy := MD (n := gs.size) (by omega) hq
        obtain⟨b0, hkb, he⟩ := DD d Js F8 hfp hx hy hk
        have ha : B9 P f.type = true := by simp[B9, Js]
        exact⟨b0, _, _, gs.size, by rw[TU Js ha hi, Pj, My], by rw[TU Js ha hi, Pj, My], he, Vo, hkb⟩
      · cases hty
    obtain⟨b0, v, u, n, hpx, hpy, he, Azg, hk⟩ := main
    obtain⟨b, hkb, Cr⟩ := Acv d fs (i + n) xs ys (ps.drop n) (qs.drop n) _ Azg hk (fun j p' hj => by rw[List.getElem?_drop] at hj; have := hp (n + j) p' hj; rwa [← Nat.add_assoc] at this) (fun j p' hj => by rw[List.getElem?_drop] at hj; have := hq (n + j) p' hj; rwa [← Nat.add_assoc] at this)
    refine⟨b0 && b, hkb, ?_⟩
    cases b0
    · simp[List.forIn_cons, HP, hpx, hpy, he]
    · simp only[Bool.true_and]
      rw[← Cr]
      simp[List.forIn_cons, HP, hpx, hpy, he]
theorem EY (d:Nat){t:TypeId}{fs:Array Field}(hu:P.underlying t=some (.struct fs)) (F8:P.stoodInHeld t=false)(EE:Nh P fs.toList 0=true){xs ys:List PV}{vx vy:List Value}
  (hvx:Bh (B2 w A β) xs vx) (hvy:Bh (B2 w A β) ys vy) {K:Bool->Option R}(hk:Kz (Vu P fs.toList) xs ys K=some r):
  ∃b,K b=some r∧(Op.equalIn (d+3) t (.agg ⟨vx⟩) (.agg ⟨vy⟩)).run P w=.ok b w:=by
 obtain⟨b,hkb,Cr⟩:=Acv (P:=P) (w:=w) (A:=A) (β:=β) d fs.toList 0 ⟨vx⟩ ⟨vy⟩ xs ys K EE hk (fun j p hj=>by
   obtain⟨v,hv,hc⟩:=hvx.get hj;exact⟨v,by simpa using hv,hc⟩) (fun j p hj=>by
   obtain⟨v,hv,hc⟩:=hvy.get hj;exact⟨v,by simpa using hv,hc⟩)
 refine⟨b,hkb,?_⟩;rw[Array.forIn_toList] at Cr;rw[Op.equalIn];simp[run_underlying hu,F8];rw[Cr];cases b<;>simp
theorem MF (h:Cw N w0 X0 Y β s a w){t:TypeId}{fs:Array Field}{x y:Operand}{op:BinOp}(hop:op=.eql∨op=.neq)(hu:P.underlying t=some (.struct fs)) (EE:NH P t fs=true){xs ys:List PV}
  (hx:B3 s.tm x=.agg xs)(hy:B3 s.tm y=.agg ys){K:Bool->Option R}(hk:Kz (Vu P fs.toList) xs ys K=some r):
  ∃b,K b=some r∧(do eqGuard op t x y (a.eval x) (a.eval y);binOp op t (a.eval x) (a.eval y)).run P w=.ok (.bool (if op=.eql then b else !b)) w:=by
 have hxv:=C4 h x;have hyv:=C4 h y;rw[hx] at hxv;rw[hy] at hyv;obtain⟨vx,De,hvx⟩:=hxv;obtain⟨vy,hay,hvy⟩:=hyv;simp only[NH,Bool.and_eq_true,Bool.not_eq_true'] at EE;obtain⟨⟨EE,F8⟩,heg⟩:=EE;obtain⟨b,hkb,heq⟩:=EY 9997 hu F8 EE hvx hvy hk;have heq:(Op.equal t (.agg ⟨vx⟩) (.agg ⟨vy⟩)).run P w=.ok b w:=heq;refine⟨b,hkb,?_⟩;rw[De,hay];rcases hop with rfl|rfl
 ·simp[eqGuard,binOp,heq,heg]
 ·simp[eqGuard,binOp,heq,heg]
theorem RL (h:Cw N w0 X0 Y β s a w){op:BinOp}{t ty:TypeId}{x y:Operand}(ho:o.op=.binOp op t x y ty){K:PV->Option R}
  (hk:Ug P op t (B3 s.tm x) (B3 s.tm y) K=some r):∃v,K v=some r∧Eg P a w o Y β s v [] []:=by
 have Cr:∀v,(do eqGuard op t x y (a.eval x) (a.eval y);binOp op t (a.eval x) (a.eval y)).run P w=.ok v w->(execOp a.eval o).run P w=.ok (.value v) w:=by
  intro v hv;unfold execOp;rw[ho];simp only[Sem.run_bind] at hv ⊢;rw[hv];rfl
 unfold Ug at hk;split at hk
 ·rename_i fs hu;split at hk
  ·obtain⟨EE,hk⟩:=Al hk;obtain⟨xs,hx,hk⟩:=G2 hk;obtain⟨ys,hy,hk⟩:=G2 hk;obtain⟨b,hk,hr⟩:=MF h (.inl rfl) hu EE hx hy hk;exact⟨_,hk,Cl (Cr _ (by rw[hr];rfl))⟩
  ·obtain⟨EE,hk⟩:=Al hk;obtain⟨xs,hx,hk⟩:=G2 hk;obtain⟨ys,hy,hk⟩:=G2 hk;obtain⟨b,hk,hr⟩:=MF h (.inr rfl) hu EE hx hy hk;exact⟨_,hk,Cl (Cr _ (by rw[hr];rfl))⟩
  ·cases hk
 ·unfold Amm at hk;split at hk
  ·rename_i k hu;split at hk
   ·obtain⟨m,hx,hk⟩:=En hk;obtain⟨k2,n,hy,hk⟩:=Dn hk;obtain⟨hb,hk⟩:=Al hk;have hb:=of_decide_eq_true hb;refine⟨_,hk,Cl (Cr _ ?_)⟩;have:¬n<0:=by omega
    simp[eqGuard,binOp,Op.shift,B8 h hx,B8 h hy,this]
   ·obtain⟨m,hx,hk⟩:=En hk;obtain⟨k2,n,hy,hk⟩:=Dn hk;obtain⟨hb,hk⟩:=Al hk;have hb:=of_decide_eq_true hb;refine⟨_,hk,Cl (Cr _ ?_)⟩;have:¬n<0:=by omega
    simp[eqGuard,binOp,Op.shift,B8 h hx,B8 h hy,this]
   ·rename_i hs1 Vm;obtain⟨m,hx,hk⟩:=En hk;obtain⟨n,hy,hk⟩:=En hk;obtain⟨v,hk,hr⟩:=Ad8 (P:=P) (w:=w) (t:=t) (x:=x) (y:=y) hs1 Vm hk;exact⟨_,hk,Cl (Cr _ (by rw[B8 h hx,B8 h hy];exact hr))⟩
  ·rename_i hu;obtain⟨m,hx,hk⟩:=Dq hk;obtain⟨n,hy,hk⟩:=Dq hk;obtain⟨v,hk,hr⟩:=Adu (P:=P) (w:=w) (t:=t) (x:=x) (y:=y) hk;exact⟨_,hk,Cl (Cr _ (by rw[B8 h hx,B8 h hy];exact hr))⟩
  ·rename_i hu;split at hk
   ·obtain⟨m,hx,hk⟩:=Dv hk;obtain⟨n,hy,hk⟩:=Dv hk;refine⟨_,hk,Cl (Cr _ ?_)⟩;simp[eqGuard,binOp,B8 h hx,B8 h hy,EV hu]
   ·obtain⟨m,hx,hk⟩:=Dv hk;obtain⟨n,hy,hk⟩:=Dv hk;refine⟨_,hk,Cl (Cr _ ?_)⟩;simp[eqGuard,binOp,B8 h hx,B8 h hy,EV hu]
   ·cases hk
  ·rename_i e hu;have hx:=C4 h x
   have nilQ:∀{e:Bool} {K':PV->Option R},IB e (B3 s.tm x) K'=some r->∃q ad n c,K' q=some r∧a.eval x=.slice ad n c∧(q=.sc (.bool (if ad.isNone then e else !e))∨q=.ub):=by
    intro e K' hq;unfold IB at hq;split at hq
    ·rename_i e';exact⟨_,none,0,0,hq,B8 h e',.inl rfl⟩
    ·rename_i z es n c e';rcases Gh (.inl e') hx with⟨De,rfl,_⟩|⟨ad,cap,De,rfl,_⟩|⟨ad,cap,De,rfl,rfl,_⟩
     ·rcases Mf hq with⟨_,hq⟩|⟨_,hq⟩
      ·exact⟨_,none,0,0,hq,De,.inl rfl⟩
      ·rcases Mf hq with⟨hb,_⟩|⟨_,hq⟩
       ·exact absurd (of_decide_eq_true hb) (by omega)
       ·exact⟨_,none,0,0,hq,De,.inr rfl⟩
     ·rcases Mf hq with⟨hz,_⟩|⟨_,hq⟩
      ·cases hz
      ·rcases Mf hq with⟨_,hq⟩|⟨_,hq⟩
       ·exact⟨_,some ad,n,cap,hq,De,.inl rfl⟩
       ·exact⟨_,some ad,n,cap,hq,De,.inr rfl⟩
     ·rcases Mf hq with⟨hz,_⟩|⟨_,hq⟩
      ·cases hz
      ·rcases Mf hq with⟨hb,_⟩|⟨_,hq⟩
       ·exact absurd (of_decide_eq_true hb) (by omega)
       ·exact⟨_,some ad,0,cap,hq,De,.inr rfl⟩
    ·rename_i id es off n e';rw[e'] at hx;rcases hx with⟨_,_,rfl,ad,De⟩|⟨b,ob,y',cap,_,De,_⟩
     ·rcases Mf hq with⟨hb,_⟩|⟨_,hq⟩
      ·exact absurd (of_decide_eq_true hb) (by omega)
      ·exact⟨_,ad,0,0,hq,De,.inr rfl⟩
     ·rcases Mf hq with⟨_,hq⟩|⟨_,hq⟩
      ·exact⟨_,_,n,cap,hq,De,.inl rfl⟩
      ·exact⟨_,_,n,cap,hq,De,.inr rfl⟩
    ·cases hq
   split at hk
   ·rename_i hy;obtain⟨q,ad,n,c,hk,De,hb⟩:=nilQ hk;rcases hb with rfl|rfl
    ·refine⟨_,hk,Cl (Cr _ ?_)⟩;cases ad<;>simp[eqGuard,binOp,De,B8 h hy,Uf hu]
    ·refine⟨_,hk,B6 (val:=.bool ad.isNone) (Cr _ ?_) (Ay.ub _) (by intro i hi;cases hi)⟩
     simp[eqGuard,binOp,De,B8 h hy,Uf hu]
   ·rename_i hy;obtain⟨q,ad,n,c,hk,De,hb⟩:=nilQ hk;rcases hb with rfl|rfl
    ·refine⟨_,hk,Cl (Cr _ ?_)⟩;cases ad<;>simp[eqGuard,binOp,De,B8 h hy,Uf hu]
    ·refine⟨_,hk,B6 (val:=.bool !ad.isNone) (Cr _ ?_) (Ay.ub _) (by intro i hi;cases hi)⟩
     simp[eqGuard,binOp,De,B8 h hy,Uf hu]
   ·cases hk
  ·rename_i kt vt hu;split at hk
   ·rename_i hx hy;refine⟨_,hk,Cl (Cr _ ?_)⟩;simp[eqGuard,binOp,B8 h hx,B8 h hy,Y3 hu]
   ·rename_i hx hy;refine⟨_,hk,Cl (Cr _ ?_)⟩;simp[eqGuard,binOp,B8 h hx,B8 h hy,Y3 hu]
   ·cases hk
  ·cases hk
end
open Go.RowKit
section
variable {R:Type} {r:R} {P:Program} {N:Nat} {w0:World} {X0:H0} {Y:Nat->Prop} {β β':Bt} {s:St} {a:Act} {w w':World} {o:Oper} {A:Nat->Prop}
theorem CV:∀{c:List PV}{ns:List Int},Uo c=some ns->c=ns.map (fun n=>.sc (.int .i32 n))
 |[],ns,h=>by simp[Uo] at h;subst h;rfl
 |p::c,ns,h=>by
  unfold Uo at h;split at h
  ·rename_i e;cases e
  ·rename_i n r e;cases e;cases hr:Uo c with
   |none=>rw[hr] at h;cases h
   |some l'=>
    rw[hr] at h;simp at h;subst h;rw[CV hr];rfl
  ·cases h
theorem BP:∀{c:List PV}{l:List UInt8},Kn c=some l->∃ns:List Int,c=ns.map (fun n=>.sc (.int .u8 n))∧l=ns.map fun n=>n.toNat.toUInt8
 |[],l,h=>⟨[],rfl,by simp[Kn] at h;subst h;rfl⟩
 |p::c,l,h=>by
  unfold Kn at h;split at h
  ·rename_i e;cases e
  ·rename_i n r e;cases e;cases hr:Kn c with
   |none=>rw[hr] at h;cases h
   |some l'=>
    rw[hr] at h;simp at h;obtain⟨ns,rfl,rfl⟩:=BP hr;exact⟨n::ns,rfl,h.symm⟩
  ·cases h
theorem Rv:∀(ns:List Int)(b:ByteArray),ns.foldl (fun r n=>r.push (UInt8.ofNat n.toNat)) b=⟨b.data++(ns.map fun n=>n.toNat.toUInt8).toArray⟩
 |[],b=>by simp
 |n::ns,b=>by
  simp only[List.foldl_cons];rw[Rv ns];simp[ByteArray.push]
theorem GC (h:Cw N w0 X0 Y β s a w){es:Nat}{x:Operand}{K:Nat->List PV->Option R}(hk:RO (Jp s.hp) es (B3 s.tm x) K=some r):
  ∃n c,K n c=some r∧(((∃ad,a.eval x=.slice ad 0 0)∧n=0∧c=[])∨∃ad cap,a.eval x=.slice (some ad) n cap∧n<=cap∧(c=[]∨ad.block<w.heap.size)∧WY w (Db s.hp β Y) ad c):=by
 have hx:=C4 h x;have IR:=E9 h x;unfold RO at hk;split at hk
 ·rename_i id es' off n e;rw[e] at hx IR;cases hb:Nat.beq es' es
  ·rw[hb] at hk;cases hk
  ·rw[hb] at hk;obtain⟨c,hc,hk⟩:=Ce (show C5 _ _=some r from hk)
   obtain⟨hl,hk⟩:=Al hk;have hl:=of_decide_eq_true hl;obtain⟨f,Adp⟩:=PW hc;refine⟨_,_,hk,?_⟩;rcases hx with⟨_,rfl,rfl,ad,De⟩|⟨b,ob,y,cap,hβ,De,hy,hn,_,Cb⟩
   ·exact .inl ⟨⟨ad,De⟩,rfl,by simp⟩
   ·refine .inr ⟨_,cap,De,hn,.inr Cb,fun j p hj=>?_⟩
    have Afb:0<n*es:=by
     rcases Nat.eq_zero_or_pos (n*es) with h0|h0
     ·rw[h0] at hj;simp at hj
     ·exact h0
    have Zo:n≠0:=by rintro rfl;simp at Afb
    have hy:y=ob+off:=by rcases hy with hy|⟨h0,_⟩<;>omega
    subst hy;rw[List.getElem?_take] at hj;split at hj
    ·rw[List.getElem?_drop] at hj;rcases h.box id _ Adp with⟨h1,_⟩|⟨b',o',h1,h2,_⟩
     ·rw[hβ] at h1;cases h1
     ·rw[hβ] at h1;simp at h1;obtain⟨rfl,rfl⟩:=h1
      obtain⟨v,hv,h3,ht⟩:=h2 (off+j) p hj;rw[Er] at hv;exact⟨v,by rw[Er,Nat.add_assoc];exact hv,h3,ht⟩
    ·cases hj
 ·obtain⟨z,n,c,hk,hp⟩:=Fk hk;refine⟨n,c,hk,?_⟩;rcases Gh hp hx with h1|⟨ad,cap,De,_,hn,h1,h2,_,h4⟩|⟨ad,cap,De,_,rfl,rfl⟩
  ·exact .inl ⟨⟨none,h1.1⟩,h1.2⟩
  ·exact .inr ⟨ad,cap,De,hn,.inr h2,h4⟩
  ·exact .inr ⟨ad,cap,De,Nat.zero_le _,.inl rfl,fun j c hj=>by simp at hj⟩
theorem Ac9 (b:ByteArray)(j:Nat)(p:PV)(h:(P5 b)[j]?=some p):∃x,b.data[j]?=some x∧p=.sc (.int .u8 x.toNat):=by
 unfold P5 at h;rw[List.getElem?_map] at h;cases hx:b.data.toList[j]? with
 |none=>rw[hx] at h;cases h
 |some x=>
  rw[hx] at h;simp at h;exact⟨x,by simpa using hx,h.symm⟩
theorem Aal (h:Cw N w0 X0 Y β s a w){src dst:TypeId}{x:Operand}(ho:o.op=.convert src dst x){d:Nat}{K:PV->List (Nat × Bs)->Option R}
  (hk:HZ P (Jp s.hp) d src dst (B3 s.tm x) K=some r):∃v nw,K v nw=some r∧Eg P a w o Y β s v [] nw:=by
 have Cr:∀v w',(convert src dst (a.eval x)).run P w=.ok v w'->(execOp a.eval o).run P w=.ok (.value v) w':=by
  intro v w' hv;unfold execOp;rw[ho];simp[hv]
 unfold HZ at hk;split at hk
 ·rename_i k hu;obtain⟨hs,hk⟩:=Al hk;obtain⟨k',n,hx,hk⟩:=Dn hk;exact⟨_,_,hk,Cl (Cr _ _ (by rw[B8 h hx];obtain⟨ds,hds⟩:=Option.isSome_iff_exists.1 hs;cases ds<;>simp[convert,run_underlying hds,run_underlying hu,Conv.intToInt]))⟩
 ·rename_i hu;split at hk
  ·rename_i hs;obtain⟨b,hx,hk⟩:=Dq hk;exact⟨_,_,hk,Cl (Cr _ _ (by rw[B8 h hx];simp[convert,run_underlying hs,run_underlying hu]))⟩
  ·rename_i e hs;split at hk
   ·rename_i he;obtain⟨n,c,hk,hc⟩:=GC h hk;obtain⟨hl,hk⟩:=Al hk;have hl:=of_decide_eq_true hl;obtain⟨l,hb,hk⟩:=Ce hk;obtain⟨ns,rfl,rfl⟩:=BP hb;refine⟨_,_,hk,Cl (Cr _ _ ?_)⟩;rcases hc with⟨⟨ad,De⟩,rfl,hn⟩|⟨ad,cap,De,_,_,hrd⟩
    ·have:ns=[]:=by simpa using hn
     subst this;rw[De,run_convert_bytes_string w src dst e ad 0 0 hs he hu];cases ad<;>rfl
    ·rw[De,run_convert_bytes_string w src dst e _ _ _ hs he hu]
     have hld:(loadCells ad n).run P w=.ok (ns.map (Value.int .u8)).toArray w:=by
      have:=run_loadCells_list (P:=P) w ad (ns.map (Value.int .u8)) (fun j v hj=>by
       rw[List.getElem?_map] at hj;cases hn:ns[j]? with
       |none=>rw[hn] at hj;cases hj
       |some m=>
        rw[hn] at hj;simp at hj;subst hj;obtain⟨v,hv,_,ht⟩:=hrd j (.sc (.int .u8 m)) (by rw[List.getElem?_map,hn];rfl)
        rw[ht.val] at hv;exact hv)
      simp only[List.length_map] at this hl;rw[hl] at this;exact this
     rw[run_bytesToString w ad n cap ns hld,Rv];simp
   ·rename_i he;obtain⟨n,c,hk,hc⟩:=GC h hk;obtain⟨hl,hk⟩:=Al hk;have hl:=of_decide_eq_true hl;obtain⟨ns,hb,Ep⟩:=Ce hk;have EN:=CV hb;clear hk;subst EN;refine⟨_,_,Ep,Cl (Cr _ _ ?_)⟩;rcases hc with⟨⟨ad,De⟩,BH,hn⟩|⟨ad,cap,De,_,_,hrd⟩
    ·have:ns=[]:=by simpa using hn
     subst this;rw[De,run_convert_runes_string w src dst e ad _ _ hs he hu];cases ad with
     |none=>rfl
     |some p=>
      have Zo:n=0:=by simpa using BH
      subst Zo;exact run_runesToString w p 0 0 [] (by simpa using run_loadCells_list (P:=P) w p [] (by simp))
    ·rw[De,run_convert_runes_string w src dst e _ _ _ hs he hu]
     have hld:(loadCells ad n).run P w=.ok (ns.map (Value.int .i32)).toArray w:=by
      have:=run_loadCells_list (P:=P) w ad (ns.map (Value.int .i32)) (fun j v hj=>by
       rw[List.getElem?_map] at hj;cases hn:ns[j]? with
       |none=>rw[hn] at hj;cases hj
       |some m=>
        rw[hn] at hj;simp at hj;subst hj;obtain⟨v,hv,_,ht⟩:=hrd j (.sc (.int .i32 m)) (by rw[List.getElem?_map,hn];rfl)
        rw[ht.val] at hv;exact hv)
      simp only[List.length_map] at this hl;rw[hl] at this;exact this
     exact run_runesToString w ad n cap ns hld
   ·cases hk
  ·cases hk
 ·rename_i e hu;split at hk
  ·rename_i he hs;obtain⟨b,hx,hk⟩:=Dq hk;obtain⟨My,hk⟩:=Al hk;have hr:=run_bytes_of_string (P:=P) w src dst e b hs hu he;rw[←B8 h hx] at hr
   have Wx:b.size<=grownCap w b.size 0 e:=by
    unfold grownCap;simp[Question.cut]
   have VW:(bytesRow b (grownCap w b.size 0 e)).size=grownCap w b.size 0 e:=by
    simp only[bytesRow,Array.size_append,Array.size_map,Array.size_replicate];have:b.data.size=b.size:=rfl;omega
   refine⟨_,_,hk,Qo (c:=bytesRow b (grownCap w b.size 0 e)) (e:=e) (by simp) (Cr _ _ hr) ?_ (fun j p hj=>?_) (.inr ⟨1,b.size,grownCap w b.size 0 e,rfl,rfl,Wx,by rw[VW];omega,.inl rfl⟩)⟩
   ·exact⟨rfl,rfl,rfl,fun i hi=>Below.heap_alloc w.drew _ i hi,by show (w.heap.push _).size=_;simp,_,by show (w.heap.push _)[w.heap.size]?=_;simp;rfl,.inr (Nat.le_refl _)⟩
   ·obtain⟨y,hy,rfl⟩:=Ac9 b j p hj;refine⟨.int .u8 y.toNat,?_,rfl,Ay.sc _⟩
    have Cb:j<b.data.size:=by
     rcases Nat.lt_or_ge j b.data.size with h|h
     ·exact h
     ·rw[Array.getElem?_eq_none h] at hy;cases hy
    simp only[bytesRow];rw[Array.getElem?_append_left (by simpa using Cb),Array.getElem?_map,hy]
    rfl
  ·cases hk
 ·cases hk
end
open Go.RowKit
section
variable {R:Type} {r:R} {P:Program} {N:Nat} {w0:World} {X0:H0} {Y:Nat->Prop} {β β':Bt} {s:St} {a:Act} {w w':World} {o:Oper} {A:Nat->Prop}
theorem Xm:∀{n:Nat}{l:List PV}{j:Nat}{c:PV},(Rp n l)[j]?=some c->j<n*l.length∧l[j % l.length]?=some c
 |0,l,j,c,h=>by simp[Rp] at h
 |n+1,l,j,c,h=>by
  have e:Rp (n+1) l=l++Rp n l:=by simp[Rp,List.replicate_succ]
  rw[e] at h;by_cases hj:j<l.length
  ·rw[List.getElem?_append_left hj] at h;refine⟨by rw[Nat.add_mul];omega,?_⟩
   rw[Nat.mod_eq_of_lt hj];exact h
  ·rw[List.getElem?_append_right (by omega)] at h
   obtain⟨h1,h2⟩:=Xm h;refine⟨by rw[Nat.add_mul];omega,?_⟩
   rw[Nat.mod_eq_sub_mod (by omega)];exact h2
theorem TC (n:Nat)(l:List PV):(Rp n l).length=n*l.length:=by
 induction n with
 |zero=>simp[Rp]
 |succ n ih=>
  have e:Rp (n+1) l=l++Rp n l:=by simp[Rp,List.replicate_succ]
  rw[e,List.length_append,ih,Nat.add_mul];omega
theorem TJ {z:Array Value}{n j:Nat}(hj:j<n){v:Value}(hv:z[j % z.size]?=some v):(madeCells z n)[j]?=some v:=by
 unfold madeCells;rw[Array.getElem?_map,Array.getElem?_range,if_pos hj];simp only[Option.map_some];rw[getElem!_def,hv]
theorem YQ (h:Cw N w0 X0 Y β s a w){t:TypeId}{x y:Operand}(ho:o.op=.makeSlice t x y){d:Nat}{K:PV->List Nat->List (Nat × Bs)->Option R}
  (hk:(match P.underlying t with
   |some (.slice e)=>Ds (B3 s.tm x) fun _ n=>Ds (B3 s.tm y) fun _ m=>
     A2 (decide (0<=n)&&decide (n<=m)&&decide (m*((P.info? e).map (·.bytes)).getD 0<=1099511627776)&&decide (m<=1099511627776))
      (Gv P e fun z=>K (.view d (Bc P e) 0 n.toNat) [] [(d,.ar false (Rp n.toNat z))])
   |_=>none)=some r):∃v fz nw,K v fz nw=some r∧Eg P a w o Y β s v fz nw:=by
 split at hk
 ·rename_i e hu;obtain⟨k1,n,hx,hk⟩:=Dn hk;obtain⟨k2,m,hy,hk⟩:=Dn hk;obtain⟨hb,hk⟩:=Al hk;simp only[Bool.and_eq_true,decide_eq_true_eq] at hb;obtain⟨⟨⟨h0,JI⟩,Sw⟩,hm⟩:=hb;obtain⟨z,cs,hk,hz,hct,hl,My,hc⟩:=Oy hk
  have hzc:∃i,P.info? e=some i∧i.zero=some z:=by
   unfold Pn at hz;cases hi:P.info? e with
   |none=>rw[hi] at hz;cases hz
   |some i=>rw[hi] at hz;exact⟨i,rfl,hz⟩
  obtain⟨i,hi,hzi⟩:=hzc;have A4s:Bc P e=i.size:=by simp[Bc,hi]
  simp only[hi,Option.map_some,Option.getD_some] at Sw;have hr:=run_make (P:=P) w t e i z hu hi hzi k1 k2 n m h0 JI (by rw[Int.mul_comm];omega) (by omega)
  have Cr:(execOp a.eval o).run P w=.ok (.value (.slice (some ⟨w.heap.size,0,none⟩) n.toNat m.toNat)) (w.alloc (.cells (madeCells z.cells (m.toNat*i.size)) e)):=by
   unfold execOp;rw[ho];simp[B8 h hx,B8 h hy,hr]
  have hzl:z.cells.size=Bc P e:=by
   have:z.cells.toList.length=z.cells.size:=by simp
   omega
  refine⟨_,_,_,hk,Qo (c:=madeCells z.cells (m.toNat*i.size)) (e:=e) (by simp) Cr (Gf.alloc w _ e) (fun j p hj=>?_) (.inr ⟨Bc P e,n.toNat,m.toNat,rfl,rfl,by omega,by rw[size_madeCells,A4s];exact Nat.le_refl _,.inr (Kg w _ e)⟩)⟩
  obtain⟨h1,h2⟩:=Xm hj;obtain⟨hT,u,I3,PB,hv⟩:=hc _ p h2;refine⟨u,TJ ?_ ?_,PB,hv _ _⟩
  ·have:n.toNat*cs.length<=m.toNat*i.size:=by
    rw[My,A4s];exact Nat.mul_le_mul_right _ (by omega)
   omega
  ·rw[hzl,←My]
   simpa using I3
 ·cases hk
theorem Ad1 {p:PV}{v:Value}(hp:okP p=true)(hv:El w A β p v):Bh (B2 w A β) (cellsOf p) v.cells.toList:=by
 have one:v.oneCell'=true->B2 w A β p v->(∀x,p ≠ .agg x)->Bh (B2 w A β) (cellsOf p) v.cells.toList:=by
  intro h1 h2 h3;have:cellsOf p=[p]:=by cases p<;>first|rfl|exact absurd rfl (h3 _)
  rw[this,M0 h1];exact⟨h2,trivial⟩
 unfold okP at hp;split at hp
 ·obtain⟨vs,rfl,h2⟩:=hv;exact h2
 ·refine one ?_ hv (by simp)
  have N2:Ay w A _ v:=hv;cases N2<;>rfl
 ·refine one ?_ hv (by simp)
  rcases hv with⟨_,_,_,_,rfl⟩|⟨_,_,_,_,_,rfl,_⟩<;>rfl
 ·have:=AF hv;subst this;exact one rfl hv (by simp)
 ·have:=AF hv;subst this;exact one rfl hv (by simp)
 ·have:=AF hv;subst this;exact one rfl hv (by simp)
 ·have:=AF hv;subst this;exact one rfl hv (by simp)
 ·cases hp
theorem Abx:∀(vs:List Value)(k off:Nat)(cells:Array Value),off+k+vs.length<=cells.size ->
  ((vs.zipIdx k).foldl (fun cs (q:Value × Nat)=>cs.setIfInBounds (off+q.2) q.1) cells).toList=cells.toList.take (off+k)++vs++cells.toList.drop (off+k+vs.length)
 |[],k,off,cells,_=>by simp
 |v::vs,k,off,cells,h=>by
  simp only[List.zipIdx_cons,List.foldl_cons,List.length_cons] at h ⊢;rw[Abx vs (k+1) off _ (by simp;omega)]
  have Cb:off+k<cells.toList.length:=by simp;omega
  simp only[Array.toList_setIfInBounds];rw[show off+(k+1)=off+k+1 from by omega,List.take_succ_eq_append_getElem (by simpa using Cb)]
  rw[List.getElem_set_self,List.take_set_of_le (Nat.le_refl _),List.drop_set_of_lt (by omega)]
  simp only[List.append_assoc,List.cons_append,List.nil_append];rw[show off+k+1+vs.length=off+k+(vs.length+1) from by omega]
theorem GK (h:Cw N w0 X0 Y β s a w){Gu:Nat->Option (Nat × Nat)}:∀{parts:List (Nat × Operand)} {pc:List PV}{vc:Array Value}{K:List PV->Option R},
  Sy Gu (parts.map fun q=>(q.1,B3 s.tm q.2)) pc K=some r->Bh (B2 w (Db s.hp β Y) β) pc vc.toList->(∀c∈pc,∀id∈As c,s.hp id≠none) ->
  ∃pc' vc',K pc'=some r∧Instr.fill Gu vc (parts.map fun q=>(q.1,a.eval q.2))=some vc'∧Bh (B2 w (Db s.hp β Y) β) pc' vc'.toList∧pc'.length=pc.length∧∀c∈pc',∀id∈As c,s.hp id≠none
 |[],pc,vc,K,hk,hv,hr=>⟨pc,vc,hk,rfl,hv,rfl,hr⟩
 |(i,x)::parts,pc,vc,K,hk,hv,hr=>by
  simp only[List.map_cons] at hk;unfold Sy at hk;obtain⟨⟨off,size⟩,Qu,hk⟩:=Ce hk;obtain⟨hb,hk⟩:=Al hk;simp only[Bool.and_eq_true] at hb;obtain⟨⟨hok,My⟩,CJ⟩:=hb;have My:(cellsOf (B3 s.tm x)).length=size:=Nat.eq_of_beq_eq_true My;have CJ:off+size<=pc.length:=Nat.le_of_ble_eq_true CJ;have hxc:=Ad1 hok (C4 h x);have IX:=hxc.len;have hvl:=hv.len;have Rz:vc.toList.length=vc.size:=by simp
  have EN:(a.eval x).cells.toList.length=(a.eval x).cells.size:=by simp
  have A37:=Abx (a.eval x).cells.toList 0 off vc (by omega)
  simp only[Nat.add_zero] at A37
  have A35:((a.eval x).cells.zipIdx.foldl (fun cs (q:Value × Nat)=>cs.setIfInBounds (off+q.2) q.1) vc).toList=vc.toList.take off++(a.eval x).cells.toList++vc.toList.drop (off+(a.eval x).cells.toList.length):=by
   rw[←A37,←Array.foldl_toList];simp
  obtain⟨pc',vc',hk,hf,h2,hl,hr'⟩:=GK h (pc:=Ca pc (cellsOf (B3 s.tm x)) off) (vc:=(a.eval x).cells.zipIdx.foldl (fun cs (q:Value × Nat)=>cs.setIfInBounds (off+q.2) q.1) vc) hk (by
    rw[A35,←IX];exact (((hv.take off).app hxc).app (hv.drop _))) (by
    intro c hc id Bm;unfold Ca at hc;rcases List.mem_append.1 hc with hc|hc
    ·rcases List.mem_append.1 hc with hc|hc
     ·exact hr c (List.mem_of_mem_take hc) id Bm
     ·refine E9 h x id ?_;cases hp:B3 s.tm x with
      |agg cs=>rw[hp] at hc;exact List.mem_flatMap.2 ⟨c,hc,Bm⟩
      |tup cs=>rw[hp] at hc;simp[cellsOf] at hc;subst hc;cases Bm
      |_=>rw[hp] at hc;simp[cellsOf] at hc;subst hc;exact Bm
    ·exact hr c (List.mem_of_mem_drop hc) id Bm)
  refine⟨pc',vc',hk,?_,h2,?_,hr'⟩
  ·simp only[List.map_cons,Instr.fill,Qu];rw[if_neg (by simp;omega)]
   exact hf
  ·rw[hl];simp[Ca];omega
theorem UL {t:TypeId}{z:Value}{cs:List PV}(hl:cs.length=z.cells.toList.length)(hc:∀(j:Nat) c,cs[j]?=some c->Vr c∧∃u,z.cells.toList[j]?=some u∧u.oneCell'=true∧∀(w:World)(A:Nat->Prop),Ay w A c u) (_ht:Pn P t=some z):
  Bh (B2 w A β) cs z.cells.toList∧∀c∈cs,As c=[]:=by
 refine⟨Bh.of_at hl fun i c u hci hu=>?_,fun c TV=>?_⟩
 ·obtain⟨hT,u',I3,_,hv⟩:=hc i c hci;rw[hu] at I3;cases I3;exact (Ks hT).2 (hv _ _)
 ·obtain⟨j,hj⟩:=List.mem_iff_getElem?.1 TV;exact Hs (hc j c hj).1
theorem GS:∀{fs:List Field},(fs.all fun f=>FV P f.type)=true->fs.mapM (fun f=>(P.info? f.type).map fun i=>(f.offset,i.size))=some (fs.map fun f=>(f.offset,Bc P f.type))
 |[],_=>rfl
 |f::fs,h=>by
  simp only[List.all_cons,Bool.and_eq_true] at h;obtain⟨i,hi⟩:=Option.isSome_iff_exists.1 h.1;simp[List.mapM_cons,hi,GS h.2,Bc]
theorem Xe {p q:Nat->Option (Nat × Nat)} (h:∀i,p i=q i)(cells:Array Value)(parts:List (Nat × Value)):Instr.fill p cells parts=Instr.fill q cells parts:=by
 have:p=q:=funext h;rw[this]
theorem TD (h:Cw N w0 X0 Y β s a w){t:TypeId}{ps:Array (Nat × Operand)} (ho:o.op=.build t ps){K:PV->Option R}
  (hk:(A2 (P8 P t&&B9 P t)<|Gv P t fun z=>Sy (Rf P t) (ps.toList.map fun q=>(q.1,B3 s.tm q.2)) z fun cs=>Od (H7 P t) cs 0 fun cs'=>K (.agg cs'))=some r):∃v,K v=some r∧Eg P a w o Y β s v [] []:=by
 obtain⟨Qu,hk⟩:=Al hk;simp only[Bool.and_eq_true] at Qu;obtain⟨Qu,F0⟩:=Qu;obtain⟨z,cs,hk,hz,hct,hl,My,hc⟩:=Oy hk;obtain⟨hzr,HQ⟩:=UL (w:=w) (A:=Db s.hp β Y) (β:=β) hl hc hz;obtain⟨pc',vc',hk,hf,h2,Ke,hr'⟩:=GK h hk hzr (fun c TV id Bm=>by rw[HQ c TV] at Bm;cases Bm)
 obtain⟨qs,hk,hql,Zw,hq⟩:=Tj hk
 have Avd:P.built t (ps.toList.map fun q=>(q.1,a.eval q.2))=some vc':=by
  have hzi:∃i,P.info? t=some i∧i.zero=some z:=by
   unfold Pn at hz;cases hi:P.info? t with
   |none=>rw[hi] at hz;cases hz
   |some i=>rw[hi] at hz;exact⟨i,rfl,hz⟩
  obtain⟨i,hi,hzi⟩:=hzi;unfold P8 at Qu;unfold Program.built;split at Qu
  ·rename_i fs hu
   have hf':Instr.fill (((fs.toList.map fun f=>(f.offset,Bc P f.type)).toArray)[·]?) z.cells (ps.toList.map fun q=>(q.1,a.eval q.2))=some vc':=by
    rw[←hf];refine Xe (fun j=>?_) _ _
    simp[Rf,hu]
   simp only[hi,hu,hzi,GS Qu];exact hf'
  ·rename_i n e hu;obtain⟨ie,hie⟩:=Option.isSome_iff_exists.1 Qu
   have hf':Instr.fill (fun j=>some (j*ie.size,ie.size)) z.cells (ps.toList.map fun q=>(q.1,a.eval q.2))=some vc':=by
    rw[←hf];refine Xe (fun j=>?_) _ _
    simp[Rf,hu,Bc,hie]
   simp only[hi,hu,hzi,hie];exact hf'
  ·rename_i e hu;simp[B9,hu] at F0
  ·cases Qu
 refine⟨_,hk,B6 (val:=.agg vc') ?_ ⟨vc'.toList,rfl,?_⟩ ?_⟩
 ·unfold execOp;rw[ho];have:=run_build (P:=P) w t (ps.map fun q=>(q.1,a.eval q.2)) vc' (by simpa using Avd)
  simp[this]
 ·refine Bh.of_at (by have:=h2.len;omega) fun j c u hcj hu=>?_
  obtain⟨p,hp,_,_,AX⟩:=hq j c hcj;rw[Nat.zero_add] at hp;exact (AX _ _ _ _ (h2.at_ hp hu)).1
 ·intro id Bm;obtain⟨c,TV,Bm⟩:=List.mem_flatMap.1 (show id∈qs.flatMap As from Bm)
  obtain⟨j,hj⟩:=List.mem_iff_getElem?.1 TV;obtain⟨p,hp,_,hpr,_⟩:=hq j c hj;rw[Nat.zero_add] at hp;exact hr' p (List.mem_of_getElem? hp) id (hpr id Bm)
end
open Go.RowKit
section
variable {R:Type} {r:R} {P:Program} {N:Nat} {w0:World} {X0:H0} {Y:Nat->Prop} {β β':Bt} {s:St} {a:Act} {w w':World} {o:Oper} {A:Nat->Prop}
theorem XJ (h:Cw N w0 X0 Y β s a w){fz:List Nat}(AB:∀id∈fz,∃f c,s.hp id=some (.ar f c)) {id:Nat}(hm:id∈fz){f:Bool}{c:List PV}(hb:s.hp id=some (.ar f c)) {b ob:Nat}(hβ:β id=some (b,ob)):
  ¬Db (Ag s.hp fz) β Y b∧WY w (Db (Ag s.hp fz) β Y) ⟨b,ob,none⟩ c∧b<w.heap.size:=by
 have hf:=h.freeze AB;have he:Ag s.hp fz id=some (.ar true c):=by rw[B0,if_pos hm,hb];rfl
 rcases hf.box id _ he with⟨h1,_⟩|⟨b',o',h1,h2,_,h4⟩
 ·rw[hβ] at h1;cases h1
 ·rw[hβ] at h1;simp at h1;obtain⟨rfl,rfl⟩:=h1;exact⟨h4 rfl,h2,h.blt id b ob (by rw[hb];simp) hβ⟩
theorem Adv (h:Cw N w0 X0 Y β s a w){fz:List Nat}(AB:∀id∈fz,∃f c,s.hp id=some (.ar f c)) {id es off n:Nat}(hm:id∈fz){f:Bool}{c:List PV}(hb:s.hp id=some (.ar f c)) {v:Value}
  (hv:B2 w (Db s.hp β Y) β (.view id es off n) v):Ay w (Db (Ag s.hp fz) β Y) (.lst false es n ((c.drop off).take (n*es))) v:=by
 rcases hv with⟨_,rfl,rfl,ad,rfl⟩|⟨b,ob,y,cap,hβ,rfl,hy,hn,_,Cb⟩
 ·simp only[Nat.zero_mul,List.take_zero];cases ad with
  |none=>exact Ay.lnil false es
  |some p=>exact Ay.lemp es p 0
 ·obtain⟨h1,h2,_⟩:=XJ h AB hm hb hβ;by_cases Zo:n*es=0
  ·rw[Zo,List.take_zero];exact Ay.lst es n [] ⟨b,y,none⟩ cap (fun _=>undef) rfl Cb h1 hn (by simp) (by simp) (by simp)
  ·have hy:y=ob+off:=by
    rcases hy with hy|⟨h0,_⟩
    ·exact hy
    ·rw[h0] at Zo;simp at Zo
   subst hy
   have C3:∀(j:Nat) q,((c.drop off).take (n*es))[j]?=some q->c[off+j]?=some q:=by
    intro j q hq;rw[List.getElem?_take] at hq;split at hq
    ·rw[List.getElem?_drop] at hq;exact hq
    ·cases hq
   refine Ay.lst es n _ ⟨b,ob+off,none⟩ cap (fun j=>(w.cell? ⟨b,ob+off+j,none⟩).getD undef) rfl Cb h1 hn (fun j q hq=>?_) (fun j q hq=>?_) (fun j q hq=>?_)
   ·obtain⟨v,hv,_⟩:=h2 _ q (C3 j q hq);rw[Er,←Nat.add_assoc] at hv;rw[Er,hv];rfl
   ·obtain⟨v,hv,h3,_⟩:=h2 _ q (C3 j q hq);rw[Er,←Nat.add_assoc] at hv;rw[hv];exact h3
   ·obtain⟨v,hv,_,ht⟩:=h2 _ q (C3 j q hq);rw[Er,←Nat.add_assoc] at hv;rw[hv];exact ht
theorem Ay.zf {A:Nat->Prop}{z:Bool}{es n:Nat}{c:List PV}{v:Value}(h:Ay w A (.lst z es n c) v):Ay w A (.lst false es n c) v:=by
 cases h with
 |lnil=>exact .lnil _ _
 |lemp=>exact .lemp _ _ _
 |lst _ _ _ a cap f hs hb hA hn hc h1 hr=>exact .lst _ _ _ a cap f hs hb hA hn hc h1 hr
theorem IH (h:Cw N w0 X0 Y β s a w){t:CT}{p:PV}{K:PV->List Nat->Option R}(hk:Oc (Jp s.hp) t p K=some r):
  ∃c m,K c m=some r∧Vr c∧JM p∧(∀id∈m,∃f cc,s.hp id=some (.ar f cc))∧∀fz:List Nat,(∀id∈m,id∈fz)->(∀id∈fz,∃f cc,s.hp id=some (.ar f cc))->∀v,B2 w (Db s.hp β Y) β p v->Ay w (Db (Ag s.hp fz) β Y) c v∧v.oneCell'=true:=by
 have tree:∀t',(BG t' p fun c=>K c [])=some r->∃c m,K c m=some r∧Vr c∧JM p∧(∀id∈m,∃f cc,s.hp id=some (.ar f cc))∧∀fz:List Nat,(∀id∈m,id∈fz)->(∀id∈fz,∃f cc,s.hp id=some (.ar f cc))->∀v,B2 w (Db s.hp β Y) β p v->Ay w (Db (Ag s.hp fz) β Y) c v∧v.oneCell'=true:=by
  intro t' hk;obtain⟨c,hk,hT,GL,hv⟩:=Mp hk;refine⟨c,[],hk,hT,Rl GL,by simp,fun fz _ AB v AX=>?_⟩
  obtain⟨h1,h2⟩:=hv _ _ _ _ AX;exact⟨h1.step (Cc.refl _ _) (fun b _ hb=>hb.imp Pt id),h2⟩
 cases t with
 |sl es=>
  unfold Oc at hk;dsimp only at hk;split at hk
  ·rename_i id es' off n;cases hb:Nat.beq es' es
   ·rw[hb] at hk;cases hk
   ·rw[hb] at hk;have:=Nat.eq_of_beq_eq_true hb;subst this;obtain⟨c,hc,hk⟩:=Ce (show C5 _ _=some r from hk)
    obtain⟨_,hk⟩:=Al hk;obtain⟨f,Lj⟩:=PW hc;refine⟨_,[id],hk,trivial,trivial,?_,fun fz hm AB v hv=>⟨Adv h AB (hm id (by simp)) Lj hv,?_⟩⟩
    ·intro i hi;simp at hi;subst hi;exact⟨f,c,Lj⟩
    ·rcases hv with⟨_,_,_,_,rfl⟩|⟨_,_,_,_,_,rfl,_⟩<;>rfl
  ·obtain⟨z,n,c,hk,hp⟩:=Fk hk;refine⟨_,[],hk,trivial,?_,by simp,fun fz _ AB v AX=>?_⟩
   ·rcases hp with rfl|⟨rfl,_⟩<;>trivial
   ·have ht:=Wz hp AX;refine⟨Ay.zf (ht.step (Cc.refl _ _) (fun b _ hb=>hb.imp Pt id)),?_⟩
    cases ht<;>rfl
 |int k=>exact tree (.int k) hk
 |bool=>exact tree .bool hk
 |str=>exact tree .str hk
 |any=>exact tree .any hk
theorem Qn (h:Cw N w0 X0 Y β s a w):∀{ts:List CT}{ps:List PV}{K:List PV->List Nat->Option R},Ni (Jp s.hp) ts ps K=some r ->
  ∃cs m,K cs m=some r∧cs.length=ts.length∧ps.length=ts.length∧(∀c∈cs,Vr c)∧(∀p∈ps,JM p)∧(∀id∈m,∃f cc,s.hp id=some (.ar f cc)) ∧
   ∀fz:List Nat,(∀id∈m,id∈fz)->(∀id∈fz,∃f cc,s.hp id=some (.ar f cc))->∀vs,Bh (B2 w (Db s.hp β Y) β) ps vs->Bh (Ay w (Db (Ag s.hp fz) β Y)) cs vs∧∀v∈vs,v.oneCell'=true
 |[],[],K,hk=>⟨[],[],hk,rfl,rfl,by simp,by simp,by simp,fun fz _ _ vs hv=>by
   cases vs with
   |nil=>exact⟨trivial,by simp⟩
   |cons v vs=>exact hv.elim⟩
 |[],_::_,K,hk=>by cases hk
 |_::_,[],K,hk=>by cases hk
 |t::ts,p::ps,K,hk=>by
  unfold Ni at hk;obtain⟨c,m,hk,hT,hF,hm,hv⟩:=IH h hk;obtain⟨cs,ms,hk,hl,Ke,hTs,hFs,GP,Rz⟩:=Qn h hk;refine⟨c::cs,m++ms,hk,by simp[hl],by simp[Ke],?_,?_,?_,fun fz hfm AB vs h2=>?_⟩
  ·intro x hx;rcases List.mem_cons.1 hx with rfl|hx
   ·exact hT
   ·exact hTs x hx
  ·intro x hx;rcases List.mem_cons.1 hx with rfl|hx
   ·exact hF
   ·exact hFs x hx
  ·intro x hx;rcases List.mem_append.1 hx with hx|hx
   ·exact hm x hx
   ·exact GP x hx
  ·cases vs with
   |nil=>exact h2.elim
   |cons v vs=>
    obtain⟨h3,h4⟩:=hv fz (fun i hi=>hfm i (by simp[hi])) AB v h2.1
    obtain⟨h5,h6⟩:=Rz fz (fun i hi=>hfm i (by simp[hi])) AB vs h2.2
    refine⟨⟨h3,h5⟩,?_⟩;intro x hx;rcases List.mem_cons.1 hx with rfl|hx
    ·exact h4
    ·exact h6 x hx
theorem Agm {R':PV->Value->Prop}{cs:List PV}{z:Array Value}(h:Bh R' cs z.toList)(n:Nat):Bh R' (Rp n cs) (madeCells z (n*cs.length)).toList:=by
 have hzl:z.size=cs.length:=by have:=h.len;simp at this;exact this.symm
 refine Bh.of_at ?_ fun j c v hc hv=>?_
 ·rw[TC];simp[size_madeCells]
 ·obtain⟨h1,h2⟩:=Xm hc
  have Cb:j % cs.length<cs.length:=by
   rcases Nat.lt_or_ge (j % cs.length) cs.length with h|h
   ·exact h
   ·rw[List.getElem?_eq_none h] at h2;cases h2
  obtain⟨u,hu,hcu⟩:=h.get h2;have:(madeCells z (n*cs.length))[j]?=some u:=TJ h1 (by rw[hzl];simpa using hu)
  have N2:(madeCells z (n*cs.length))[j]?=some v:=by simpa using hv
  rw[this] at N2;cases N2;exact hcu
theorem LE {A':Nat->Prop}:∀{ps cs:List PV}{vs:List Value},Bh (B2 w (Db s.hp β Y) β) ps vs->Bh (Ay w A') cs vs->Bh (Ay w A') (VG true ps cs) vs
 |[],_,_,_,h=>h
 |_::_,[],_,_,h=>h
 |p::ps,c::cs,[],_,h=>h.elim
 |p::ps,c::cs,v::vs,hp,h=>by
  refine⟨?_,LE hp.2 h.2⟩;split
  ·have h1:Ay w (Db s.hp β Y) (.lst true _ 0 []) v:=hp.1;cases h1;exact .lnil true _
  ·exact h.1
theorem Zx (h:Cw N w0 X0 Y β s a w){nz:Bool}{t:TypeId}{n:Nat}{ps:Array (Nat × Operand)} (ho:o.op=.buildSlice t n ps){d:Nat}{K:PV->List Nat->List (Nat × Bs)->Option R}
  (hk:(match P.underlying t with
   |some (.slice e)=>A2 (P8 P t&&Nat.ble (n*Bc P e) 16777216) (Gv P e fun z=>Sy (Rf P t) (ps.toList.map fun q=>(q.1,B3 s.tm q.2)) (Rp n z) fun cs=>
     Ni (Jp s.hp) (List.replicate n (H7 P e)).flatten cs fun cs' m=>K (.view d (Bc P e) 0 n) m [(d,.ar false (bif nz then VG true cs cs' else cs'))])
   |_=>none)=some r):∃v fz nw,K v fz nw=some r∧Eg P a w o Y β s v fz nw:=by
 split at hk
 ·rename_i e hu;obtain⟨hb,hk⟩:=Al hk;simp only[Bool.and_eq_true] at hb;have CJ:n*Bc P e<=16777216:=Nat.le_of_ble_eq_true hb.2;have Pg:(P.info? e).isSome=true:=by have:=hb.1;unfold P8 at this;rw[hu] at this;exact this
  obtain⟨z,cs,hk,hz,hct,hl,My,hc⟩:=Oy hk;obtain⟨hzr,HQ⟩:=UL (w:=w) (A:=Db s.hp β Y) (β:=β) hl hc hz;have Bay:=Agm hzr n
  obtain⟨pc',vc',hk,hf,h2,Ke,hr'⟩:=GK h hk Bay (fun c TV id Bm=>by
   obtain⟨j,hj⟩:=List.mem_iff_getElem?.1 TV;obtain⟨_,hg⟩:=Xm hj;rw[HQ c (List.mem_of_getElem? hg)] at Bm;cases Bm)
  obtain⟨qs,m,hk,hql,Qu,hqT,_,hm,hqv⟩:=Qn h hk;obtain⟨h3,h3'⟩:=hqv m (fun _ hi=>hi) hm _ h2
  have h3:Bh (Ay w (Db (Ag s.hp m) β Y)) (bif nz then VG true pc' qs else qs) vc'.toList:=by
   cases nz
   ·exact h3
   ·exact LE h2 h3
  have hf':Instr.fill (fun i=>some (i*Bc P e,Bc P e)) (madeCells z.cells (n*cs.length)) (ps.toList.map fun q=>(q.1,a.eval q.2))=some vc':=by
   rw[←hf];refine Xe (fun i=>?_) _ _
   simp[Rf,hu]
  have hvl:vc'.size=n*Bc P e:=by
   have h4:=h2.len;rw[Ke,TC] at h4;simp at h4;rw[←h4,My]
  have Cr:(execOp a.eval o).run P w=.ok (.value (.slice (some ⟨w.heap.size,0,none⟩) n n)) (w.alloc (.cells vc' e)):=by
   unfold execOp;rw[ho];have A13:¬(n*Bc P e>2 ^ 24):=by omega
   rw[My] at hf';by_cases Zo:n*Bc P e=0
   ·simp only[Instr.buildSlice,Sem.run_bind,run_underlying hu,Result.andThen_ok,Cv Pg,if_neg A13,Zo];rw[Zo] at hf';have e0:madeCells z.cells 0=(Array.range 0).map (fun _=>default):=by simp[madeCells]
    rw[e0] at hf';simp[hf',newRow]
   ·simp only[Instr.buildSlice,Sem.run_bind,run_underlying hu,Result.andThen_ok,Cv Pg,if_neg A13,if_neg Zo,Vs hz];unfold madeCells at hf';simp[hf',newRow]
  refine⟨_,_,_,hk,Qo (c:=vc') (e:=e) hm Cr (Gf.alloc w vc' e) (fun j p hj=>?_) (.inr ⟨Bc P e,n,n,rfl,rfl,Nat.le_refl _,by rw[hvl];exact Nat.le_refl _,.inr (Kg w vc' e)⟩)⟩
  obtain⟨u,I3,hp⟩:=h3.get hj;exact⟨u,by simpa using I3,h3' u (List.mem_of_getElem? I3),hp⟩
 ·cases hk
theorem PO (h:Cw N w0 X0 Y β s a w){t:TypeId}{x k:Operand}{ok:Bool}(ho:o.op=.lookup t x k ok){K:PV->Option R}
  (hk:(match P.underlying t with
   |some (.map kt vt)=>A2 (match P.underlying kt with|some .string=>true|_=>false) (
    match B3 s.tm x with
    |.sc (.map none)=>Ar (B3 s.tm k) fun _=>C5 (Pn P vt) fun z=>cvK P vt z fun v=>A2 (match v with | .tup _=>false|_=>true) (K (bif ok then .tup [v,.sc (.bool false)] else v))
    |_=>none)
   |_=>none)=some r):∃v,K v=some r∧Eg P a w o Y β s v [] []:=by
 split at hk
 ·rename_i kt vt hu;obtain⟨hkt,hk⟩:=Al hk
  have hkt:P.underlying kt=some .string:=by
   split at hkt
   ·assumption
   ·cases hkt
  split at hk
  ·rename_i hx;obtain⟨b,hkk,hk⟩:=Dq hk;obtain⟨z,hz,hk⟩:=Ce hk;obtain⟨v,hk,hr,hv⟩:=Abw hk;obtain⟨hnt,hk⟩:=Al hk
   have hnt:∀cs,v ≠ .tup cs:=by
    rintro cs rfl
    cases hnt
   have hzr:∀w:World,(zeroValue vt).run P w=.ok z w:=by
    intro w;unfold Pn at hz;cases hi:P.info? vt with
    |none=>rw[hi] at hz;cases hz
    |some i=>
     rw[hi] at hz;simp[zeroValue,typeInfo,hi,show i.zero=some z from hz]
   have Cr:(execOp a.eval o).run P w=.ok (.value (if ok then .tuple #[z,.bool false] else z)) w:=by
    unfold execOp;rw[ho];have hck:∀c (n:Nat),(Instr.checkKey c (n+1) kt (.string b)).run P w=.ok () w:=fun c n=>by simp[Instr.checkKey,run_underlying hkt]
    have IZ:∀c,(Instr.checkKey c 10000 kt (.string b)).run P w=.ok () w:=fun c=>hck c 9999
    cases ok<;>simp[Instr.lookup,run_underlying hu,B8 h hx,B8 h hkk,IZ,Instr.findKey,Instr.findNow,run_underlying hkt,hzr]
   refine⟨_,hk,B6 Cr ?_ ?_⟩
   ·cases ok
    ·exact hv _ _ _
    ·refine⟨[z,.bool false],rfl,(Ok hnt).1 (hv _ _ _),?_,trivial⟩;exact Ay.sc _
   ·cases ok
    ·intro id Bm;simp only[cond_false] at Bm;rw[hr] at Bm;cases Bm
    ·intro id Bm;have:Bx (.tup [v,.sc (.bool false)])=Cf v++[]:=by simp[Bx,Cf,As]
     simp only[cond_true] at Bm;rw[this,List.append_nil] at Bm;have e:Cf v=Bx v:=by cases v<;>first|rfl|exact absurd rfl (hnt _)
     rw[e,hr] at Bm;cases Bm
  ·cases hk
 ·cases hk
end
end
end Go.Proofs.YtodnjibebeghjaaGreatDoor.Pv
