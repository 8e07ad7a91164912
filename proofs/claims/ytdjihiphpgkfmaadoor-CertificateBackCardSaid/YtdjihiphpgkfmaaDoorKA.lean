/-
  The proof of CertificateBack, part 1.
-/
import Derived.Orders
import Derived.LoopN
import Derived.Below
import Derived.Lib.ValidU
import Derived.Lib.Bytealg
import Derived.IntWalk
import Derived.WalkKit
import Derived.WalkLawsBesides
import Derived.Laws.IdiomStrings
import Derived.Laws.MakeOwn
import Derived.Laws.Tables
set_option linter.unusedSimpArgs false
set_option linter.unusedVariables false
namespace Go.Proofs.YtdjihiphpgkfmaaDoor.Pv
section
inductive PV where
 |sc (v:Value)
 |lst (z:Bool) (es n:Nat) (cells:List PV)
 |own (es n:Nat) (cells:List PV)
 |view (id es off n:Nat)
 |ptr (id off:Nat)
 |iptr (cells:List PV) (off:Nat)
 |pbox (cells:List PV)
 |agg (cells:List PV)
 |tup (vs:List PV)
 |top
 |ub
inductive Bj where
 |st (cells:List PV)
 |ar (fz:Bool) (cells:List PV)
 |mv
structure St where
 tm:Nat->PV
 hp:Nat->Option Bj
structure Aw where
 vals:List PV
 outs:List (List PV)
structure Gi where
 shr:FuncId->Bool
 mvd:FuncId->Nat->Bool
 lnd:FuncId->Nat->Bool
 kz:FuncId->Bool
 ext:FuncId->Option (List PV->Option Aw)
def Gi.core (C:Gi):Gi:={ C with ext:=fun _=>none }
def Ch {α:Type}(f:Nat->α)(i:Nat)(v:α):Nat->α:=fun j=>bif Nat.beq j i then v else f j
def rd (hp:Nat->Option Bj)(id:Nat):Option (List PV):=
 match hp id with
 |some (.st c)=>some c
 |some (.ar _ c)=>some c
 |_=>none
def I5 (hp:Nat->Option Bj)(id:Nat):Option (List PV):=
 match hp id with
 |some (.ar _ c)=>some c
 |_=>none
inductive CT where
 |int (k:IntKind)
 |bool
 |str
 |sl (es:Nat)
 |any
def Bf (P:Program)(t:TypeId):Nat:=((P.info? t).map (·.size)).getD 0
def Ck (P:Program)(t:TypeId):Bool:=
 match P.underlying t with
 |some (.struct _)=>true
 |some (.array _ _)=>true
 |_=>false
def Ajj (P:Program):Nat->TypeId->List CT
 |0,_=>[]
 |d+1,t=>
  match P.underlying t with
  |some (.int k)=>[.int k]
  |some .bool=>[.bool]
  |some .string=>[.str]
  |some (.slice e)=>[.sl (Bf P e)]
  |some (.struct fs)=>fs.toList.flatMap fun f=>Ajj P d f.type
  |some (.array n e)=>(List.replicate n (Ajj P d e)).flatten
  |_=>[.any]
abbrev Hl (P:Program)(t:TypeId):List CT:=Ajj P 9 t
def Ib (P:Program)(t:TypeId):Bool:=(P.underlying t).isSome&&Nat.beq (Hl P t).length (Bf P t)
abbrev Sd (k:IntKind)(a b:Int):Int:=k.wrap (BitVec.ofInt k.bits a &&& BitVec.ofInt k.bits b).toNat
abbrev MG (k:IntKind)(a b:Int):Int:=k.wrap (BitVec.ofInt k.bits a ||| BitVec.ofInt k.bits b).toNat
abbrev Dg (k:IntKind)(a b:Int):Int:=k.wrap (BitVec.ofInt k.bits a ^^^ BitVec.ofInt k.bits b).toNat
abbrev Agx (k:IntKind)(a b:Int):Int:=k.wrap (BitVec.ofInt k.bits a &&& ~~~BitVec.ofInt k.bits b).toNat
abbrev Gr (k:IntKind)(a b:Int):Int:=k.wrap (a*2 ^ (min b.toNat k.bits))
abbrev F6 (k:IntKind)(a b:Int):Int:=a.fdiv (2 ^ (min b.toNat k.bits))
abbrev Alv (k:IntKind)(n:Int):Int:=k.wrap (BitVec.ofInt k.bits (if k.signed then -1 else k.max) ^^^ BitVec.ofInt k.bits n).toNat
section
variable {R:Type}
def Ad (k:IntKind)(p:PV)(K:Int->Option R):Option R:=
 match p with
 |.sc (.int k' n)=>if k'=k then K n else none
 |_=>none
def Bn (p:PV)(K:Bool->Option R):Option R:=
 match p with
 |.sc (.bool b)=>K b
 |_=>none
def Dp (p:PV)(K:ByteArray->Option R):Option R:=
 match p with
 |.sc (.string s)=>K s
 |_=>none
def Gk (es:Nat)(p:PV)(K:Bool->Nat->List PV->Option R):Option R:=
 match p with
 |.lst z es' n c=>bif Nat.beq es' es then K z n c else none
 |.sc (.slice none 0 0)=>K true 0 []
 |_=>none
def fsK (es:Nat)(p:PV)(K:PV->Option R):Option R:=
 match p with
 |.view id es' off n=>bif Nat.beq es' es then K (.view id es off n) else none
 |p=>Gk es p fun z n c=>K (.lst z es n c)
def Eg (es:Nat)(p:PV)(K:Nat->List PV->Option R):Option R:=
 match p with
 |.own es' n c=>bif Nat.beq es' es then K n c else none
 |_=>none
def Ao (b:Bool)(K:Option R):Option R:=bif b then K else none
abbrev Aa {α:Type}(x:α)(K:α->Option R):Option R:=K x
def JO (b:Bool)(x y:Option R):Option R:=bif b then x else y
abbrev Amx (x:Nat)(K:Nat->Option R):Option R:=K x
def Ad5 (x:List (List Nat)) (K:List (List Nat)->Option R):Option R:=K x
def Bc (b:Bool)(x y:Option R):Option R:=bif b then x else y
def D3 {α:Type}(o:Option α)(K:α->Option R):Option R:=
 match o with
 |some a=>K a
 |none=>none
def Ab {α:Type}(l:List α)(K:α->List α->Option R):Option R:=
 match l with
 |a::r=>K a r
 |[]=>none
def Ac {α:Type}(l:List α)(K:Option R):Option R:=
 match l with
 |[]=>K
 |_::_=>none
def Ez (p:PV)(K:List PV->Option R):Option R:=
 match p with
 |.agg c=>K c
 |_=>none
def Vb (p:PV)(K:List PV->Option R):Option R:=
 match p with
 |.pbox c=>K c
 |_=>none
def Ai (r:Option Aw)(K:List PV->List (List PV)->Option R):Option R:=
 match r with
 |some ⟨v,o⟩=>K v o
 |none=>none
def fnK (p:PV)(K:Value->Option R):Option R:=
 match p with
 |.sc (.func f a b)=>K (.func f a b)
 |_=>none
def fvK (p:PV)(K:FuncId->Option R):Option R:=
 match p with
 |.sc (.func (.func f) a b)=>bif a.isEmpty&&b.isEmpty then K f else none
 |_=>none
def AY (t:CT)(p:PV)(K:PV->Option R):Option R:=
 match t with
 |.int k=>Ad k p fun n=>K (.sc (.int k n))
 |.bool=>Bn p fun b=>K (.sc (.bool b))
 |.str=>Dp p fun s=>K (.sc (.string s))
 |.sl es=>Gk es p fun z n c=>K (.lst z es n c)
 |.any=>fnK p fun v=>K (.sc v)
def fcK (t:CT)(p:PV)(K:PV->Option R):Option R:=
 match t with
 |.sl es=>fsK es p K
 |t=>AY t p K
def S2:List CT->List PV->Nat->(List PV->Option R)->Option R
 |[],_,_,K=>K []
 |t::ts,cells,off,K=>AY t (cells.getD off .top) fun c=>S2 ts cells (off+1) fun r=>K (c::r)
def Ps:List CT->List PV->Nat->(List PV->Option R)->Option R
 |[],_,_,K=>K []
 |t::ts,cells,off,K=>fcK t (cells.getD off .top) fun c=>Ps ts cells (off+1) fun r=>K (c::r)
def ZO (agg:Bool)(cells:List PV)(K:PV->Option R):Option R:=
 bif agg then K (.agg cells) else Ab cells fun c r=>Ac r (K c)
def cellsOf:PV->List PV
 |.agg c=>c
 |p=>[p]
def cvK (P:Program)(t:TypeId)(v:Value)(K:PV->Option R):Option R:=
 match v with
 |.agg cs=>Ao (Nat.beq cs.toList.length (Hl P t).length) (S2 (Hl P t) (cs.toList.map .sc) 0 fun c=>K (.agg c))
 |.slice none 0 0=>
  match P.underlying t with
  |some (.slice e)=>K (.lst true (Bf P e) 0 [])
  |_=>none
 |v=>K (.sc v)
end
def B7 (tm:Nat->PV):Operand->PV
 |.tmp t=>tm t
 |.const (.agg cs)=>.agg (cs.toList.map .sc)
 |.const v=>.sc v
 |.func f=>.sc (.func (.func f) #[] #[])
 |.global g=>.sc (.pointer (some ⟨g,0,none⟩))
section
variable {R:Type}
def C8 (p:PV)(K:IntKind->Int->Option R):Option R:=
 match p with
 |.sc (.int k n)=>K k n
 |_=>none
def UK (rdf:Nat->Option (List PV)) (es:Nat)(p:PV)(K:Nat->List PV->Option R):Option R:=
 match p with
 |.view id es' off n=>bif Nat.beq es' es then D3 (rdf id) fun c=>Ao (decide (off+n*es<=c.length)) (K n ((c.drop off).take (n*es))) else none
 |p=>Gk es p fun _ n c=>K n c
def Od (rdf:Nat->Option (List PV)) (t:CT)(p:PV)(K:PV->List Nat->Option R):Option R:=
 match t with
 |.sl es=>
  match p with
  |.view id es' off n=>bif Nat.beq es' es then D3 (rdf id) fun c=>Ao (decide (off+n*es<=c.length)) (K (.lst false es n ((c.drop off).take (n*es))) [id]) else none
  |p=>Gk es p fun _ n c=>K (.lst false es n c) []
 |t=>AY t p fun c=>K c []
def Ms (rdf:Nat->Option (List PV)):List CT->List PV->(List PV->List Nat->Option R)->Option R
 |[],[],K=>K [] []
 |t::ts,p::ps,K=>Od rdf t p fun c m=>Ms rdf ts ps fun cs ms=>K (c::cs) (m++ms)
 |_,_,_=>none
def WQ (P:Program)(rdf:Nat->Option (List PV)) (t:TypeId)(p:PV)(K:PV->List Nat->Option R):Option R:=
 bif Ck P t then Ez p fun ps=>Ms rdf (Hl P t) ps fun cs m=>K (.agg cs) m
 else Ms rdf (Hl P t) [p] fun cs m=>Ab cs fun c r=>Ac r (K c m)
def FK (P:Program)(rdf:Nat->Option (List PV)):List TypeId->List PV->(List PV->List Nat->Option R)->Option R
 |[],[],K=>K [] []
 |t::ts,p::ps,K=>WQ P rdf t p fun v m=>FK P rdf ts ps fun vs ms=>K (v::vs) (m++ms)
 |_,_,_=>none
def Aej (shr:Bool)(id:Nat)(t:CT)(p:PV)(K:PV->List (Nat × Bj)->Option R):Option R:=
 match t with
 |.sl es=>bif shr then Gk es p fun _ n c=>K (.lst false es n c) [] else Eg es p fun n c=>K (.view id es 0 n) [(id,.ar false c)]
 |t=>AY t p fun c=>K c []
def P0 (shr:Bool)(N:Nat):Nat->List CT->List PV->(List PV->List (Nat × Bj)->Option R)->Option R
 |_,[],ps,K=>Ac ps (K [] [])
 |id,t::ts,ps,K=>Ab ps fun p ps=>Aej shr id t p fun c b=>P0 shr N (id+N) ts ps fun cs bs=>K (c::cs) (b++bs)
def Yq (P:Program)(t:TypeId):Option TypeId:=
 match P.underlying t with
 |some (.pointer e)=>some e
 |_=>none
def RA (P:Program)(t:TypeId):Nat:=
 match Yq P t with
 |some e=>1+(Hl P e).length
 |none=>(Hl P t).length
def Aag (P:Program)(shr:Bool)(N:Nat)(id:Nat)(t:TypeId)(p:PV)(K:PV->List (Nat × Bj)->Option R):Option R:=
 match Yq P t with
 |some e=>Vb p fun ps=>P0 shr N (id+N) (Hl P e) ps fun cs bs=>K (.ptr id 0) ((id,.st cs)::bs)
 |none=>
 bif Ck P t then Ez p fun ps=>P0 shr N id (Hl P t) ps fun cs bs=>K (.agg cs) bs
 else P0 shr N id (Hl P t) [p] fun cs bs=>Ab cs fun c r=>Ac r (K c bs)
def BV (P:Program)(shr:Bool)(N:Nat):Nat->List TypeId->List PV->(List PV->List (Nat × Bj)->Option R)->Option R
 |_,[],ps,K=>Ac ps (K [] [])
 |id,t::ts,ps,K=>Ab ps fun p ps=>Aag P shr N id t p fun v bs=>BV P shr N (id+N*RA P t) ts ps fun vs bs'=>K (v::vs) (bs++bs')
def Mt (P:Program)(t:TypeId):List TypeId:=
 match P.underlying t with
 |some (.tuple ts)=>ts.toList
 |_=>[t]
def Ng (vs:List PV)(t:Bool):PV:=bif t then .tup vs else vs.headD .top
def O2 (P:Program)(t:TypeId):Bool:=
 match P.underlying t with
 |some (.tuple _)=>true
 |_=>false
def Ag4 (op:BinOp)(a b:Int)(K:Bool->Option R):Option R:=
 match op with
 |.eql=>K (a==b)
 |.neq=>K (a != b)
 |.lss=>K (decide (a<b))
 |.leq=>K (decide (a<=b))
 |.gtr=>K (decide (a>b))
 |.geq=>K (decide (a>=b))
 |_=>none
def GD (op:BinOp)(k:IntKind)(a b:Int)(K:PV->Option R):Option R:=
 match op with
 |.add=>Aa ((k.wrap (a+b))) fun n=>K (.sc (.int k n))
 |.sub=>Aa ((k.wrap (a-b))) fun n=>K (.sc (.int k n))
 |.mul=>Aa ((k.wrap (a*b))) fun n=>K (.sc (.int k n))
 |.quo=>Ao (decide (b≠0)) (Aa ((k.wrap (a.tdiv b))) fun n=>K (.sc (.int k n)))
 |.rem=>Ao (decide (b≠0)) (Aa ((a.tmod b)) fun n=>K (.sc (.int k n)))
 |.and=>Aa (Sd k a b) fun n=>K (.sc (.int k n))
 |.or=>Aa (MG k a b) fun n=>K (.sc (.int k n))
 |.xor=>Aa (Dg k a b) fun n=>K (.sc (.int k n))
 |.andNot=>Aa (Agx k a b) fun n=>K (.sc (.int k n))
 |op=>Ag4 op a b fun r=>K (.sc (.bool r))
def IM (op:BinOp)(x y:ByteArray)(K:PV->Option R):Option R:=
 match op with
 |.add=>Ao (decide (x.size+y.size<=9223372036854775807)) (Aa (x++y) fun s=>K (.sc (.string s)))
 |.eql=>K (.sc (.bool (x.data.toList==y.data.toList)))
 |.neq=>K (.sc (.bool !(x.data.toList==y.data.toList)))
 |.lss=>K (.sc (.bool (Op.bytesLess x.data.toList y.data.toList)))
 |.leq=>K (.sc (.bool (Op.bytesLess x.data.toList y.data.toList||x.data.toList==y.data.toList)))
 |.gtr=>K (.sc (.bool !(Op.bytesLess x.data.toList y.data.toList||x.data.toList==y.data.toList)))
 |.geq=>K (.sc (.bool !(Op.bytesLess x.data.toList y.data.toList)))
 |_=>none
def HX (e:Bool)(p:PV)(K:PV->Option R):Option R:=
 match p with
 |.sc (.slice none 0 0)=>K (.sc (.bool e))
 |.lst z _ n _=>Bc z (K (.sc (.bool e))) (Bc (decide (0<n)) (K (.sc (.bool !e))) (K .ub))
 |.view _ _ _ n=>Bc (decide (0<n)) (K (.sc (.bool !e))) (K .ub)
 |_=>none
def HH (P:Program):List Field->Nat->Bool
 |[],_=>true
 |f::r,i=>Nat.beq f.offset i&&(f.name != "_")&&(match P.underlying f.type with|some (.int _)=>true|some .bool=>true|some .string=>true|_=>false)&&HH P r (i+1)
def PI (P:Program)(t:TypeId)(fs:Array Field):Bool:=HH P fs.toList 0 && !P.stoodInHeld t && !P.eqGuardType P.depth t
def fty (P:Program)(f:Field):CT:=
 match P.underlying f.type with
 |some (.int k)=>.int k
 |some .bool=>.bool
 |some .string=>.str
 |_=>.any
def HR:List CT->List PV->List PV->(Bool->Option R)->Option R
 |[],[],[],K=>K true
 |.int k::ts,p::ps,q::qs,K=>Ad k p fun a=>Ad k q fun b=>HR ts ps qs fun r=>K ((a==b)&&r)
 |.bool::ts,p::ps,q::qs,K=>Bn p fun a=>Bn q fun b=>HR ts ps qs fun r=>K ((a==b)&&r)
 |.str::ts,p::ps,q::qs,K=>Dp p fun a=>Dp q fun b=>HR ts ps qs fun r=>K ((a==b)&&r)
 |_,_,_,_=>none
def Aed (P:Program)(op:BinOp)(t:TypeId)(x y:PV)(K:PV->Option R):Option R:=
 match P.underlying t with
 |some (.int k)=>
  match op with
  |.shl=>Ad k x fun a=>C8 y fun _ b=>Ao (decide (0<=b)) (Aa (Gr k a b) fun n=>K (.sc (.int k n)))
  |.shr=>Ad k x fun a=>C8 y fun _ b=>Ao (decide (0<=b)) (Aa (F6 k a b) fun n=>K (.sc (.int k n)))
  |op=>Ad k x fun a=>Ad k y fun b=>GD op k a b K
 |some .string=>Dp x fun a=>Dp y fun b=>IM op a b K
 |some .bool=>
  match op with
  |.eql=>Bn x fun a=>Bn y fun b=>K (.sc (.bool (a==b)))
  |.neq=>Bn x fun a=>Bn y fun b=>K (.sc (.bool !(a==b)))
  |_=>none
 |some (.slice _)=>
  match op,y with
  |.eql,.sc (.slice none 0 0)=>HX true x K
  |.neq,.sc (.slice none 0 0)=>HX false x K
  |_,_=>none
 |_=>none
def Tx (P:Program)(op:BinOp)(t:TypeId)(x y:PV)(K:PV->Option R):Option R:=
 match P.underlying t with
 |some (.struct fs)=>
  match op with
  |.eql=>Ao (PI P t fs) (Ez x fun xs=>Ez y fun ys=>HR (fs.toList.map (fty P)) xs ys fun b=>K (.sc (.bool b)))
  |.neq=>Ao (PI P t fs) (Ez x fun xs=>Ez y fun ys=>HR (fs.toList.map (fty P)) xs ys fun b=>K (.sc (.bool !b)))
  |_=>none
 |_=>Aed P op t x y K
def unK (op:UnOp)(x:PV)(K:PV->Option R):Option R:=
 match op with
 |.not=>Bn x fun b=>K (.sc (.bool !b))
 |.neg=>C8 x fun k n=>Aa (k.wrap (0-n)) fun n=>K (.sc (.int k n))
 |.xor=>C8 x fun k n=>Aa (Alv k n) fun n=>K (.sc (.int k n))
 |_=>none
def bytesOf:List PV->Option (List UInt8)
 |[]=>some []
 |.sc (.int .u8 n)::r=>(bytesOf r).map (n.toNat.toUInt8 :: ·)
 |_::_=>none
def Ds (s:ByteArray):List PV:=s.data.toList.map fun b=>.sc (.int .u8 b.toNat)
def FF (P:Program)(rdf:Nat->Option (List PV)) (d:Nat)(src dst:TypeId)(x:PV)(K:PV->List (Nat × Bj)->Option R):Option R:=
 match P.underlying dst with
 |some (.int k)=>Ao (P.underlying src).isSome (C8 x fun _ n=>Aa (k.wrap n) fun n=>K (.sc (.int k n)) [])
 |some .string=>
  match P.underlying src with
  |some .string=>Dp x fun s=>K (.sc (.string s)) []
  |some (.slice e)=>
   match P.underlying e with
   |some (.int .u8)=>UK rdf 1 x fun n c=>Ao (decide (c.length=n)) (D3 (bytesOf c) fun b=>K (.sc (.string ⟨b.toArray⟩)) [])
   |_=>none
  |_=>none
 |some (.slice e)=>
  match P.underlying e,P.underlying src with
  |some (.int .u8),some .string=>Dp x fun s=>Ao (decide (s.size<=1099511627776)) (K (.view d 1 0 s.size) [(d,.ar false (Ds s))])
  |_,_=>none
 |_=>none
def Kz (p:Option PV)(dflt:Nat)(K:Nat->Option R):Option R:=
 match p with
 |none=>K dflt
 |some p=>C8 p fun _ i=>Ao (decide (0<=i)) (K i.toNat)
def Zj (P:Program)(rdf:Nat->Option (List PV)) (t:TypeId)(x:PV)(lo hi:Option PV)(K:PV->Option R):Option R:=
 match P.underlying t with
 |some .string=>Dp x fun s=>Kz lo 0 fun l=>Kz hi s.size fun h=>Ao (decide (l<=h)&&decide (h<=s.size)) (Aa (s.extract l h) fun s=>K (.sc (.string s)))
 |some (.slice e)=>Ao (P.info? e).isSome (
  match x with
  |.view id es off n=>Ao (Nat.beq es (Bf P e)) (Kz lo 0 fun l=>Kz hi n fun h=>Ao (decide (l<=h)&&decide (h<=n)) (Aa (off+l*es) fun o=>Aa (h-l) fun n=>K (.view id es o n)))
  |x=>Gk (Bf P e) x fun z n c=>Kz lo 0 fun l=>Kz hi n fun h=>Ao (decide (l<=h)&&decide (h<=n)) (Aa (h-l) fun n=>Aa ((c.drop (l*Bf P e)).take (n*Bf P e)) fun c=>K (.lst z (Bf P e) n c)))
 |some (.array n e)=>Ao (P.info? e).isSome (
  match x with
  |.ptr id off=>D3 (rdf id) fun c=>Ao (decide (1<=n*Bf P e)&&decide (off+n*Bf P e<=c.length))<|Kz lo 0 fun l=>Kz hi n fun h=>Ao (decide (l<=h)&&decide (h<=n)) (Aa (off+l*Bf P e) fun o=>Aa (h-l) fun n=>K (.view id (Bf P e) o n))
  |_=>none)
 |_=>none
def Si (x:PV)(d:Nat)(K:PV->Option R):Option R:=
 match x with
 |.ptr id off=>K (.ptr id (off+d))
 |.iptr c off=>K (.iptr c (off+d))
 |_=>none
def IE (P:Program)(e:TypeId):Bool:=(P.info? e).isSome
def Qy (P:Program)(t:TypeId)(f:Nat):Option (Nat × TypeId):=
 match P.underlying t with
 |some (.struct fs)=>(fs[f]?).map fun g=>(g.offset,g.type)
 |_=>none
def Jl (P:Program)(t:TypeId)(x:PV)(i:Int)(K:PV->Option R):Option R:=
 match P.underlying t with
 |some (.array n e)=>Ao (IE P e) (Ao (decide (0<=i)&&decide (i<n)) (Si x (i.toNat*Bf P e) K))
 |some (.slice e)=>Ao (IE P e) (
  match x with
  |.view id es off n=>Ao (Nat.beq es (Bf P e)) (Ao (decide (0<=i)&&decide (i<n)) (K (.ptr id (off+i.toNat*es))))
  |x=>Gk (Bf P e) x fun _ n c=>Ao (decide (0<=i)&&decide (i<n)) (K (.iptr c (i.toNat*Bf P e))))
 |_=>none
def IC (P:Program)(rdf:Nat->Option (List PV)) (t:TypeId)(x:PV)(K:PV->Option R):Option R:=
 match x with
 |.ptr id off=>Ao (Ib P t) (D3 (rdf id) fun c=>Ps (Hl P t) c off fun cs=>ZO (Ck P t) cs K)
 |.iptr c off=>Ao (Ib P t) (S2 (Hl P t) c off fun cs=>ZO (Ck P t) cs K)
 |_=>none
def OZ:PV->PV
 |.lst _ es n c=>.lst false es n c
 |p=>p
def Aah:PV->PV
 |.agg cs=>.agg (cs.map OZ)
 |p=>OZ p
def Xf (P:Program)(rdf rdaf:Nat->Option (List PV)) (t:TypeId)(x:PV)(K:PV->Option R):Option R:=
 match x with
 |.ptr id off=>Ao (Ib P t) (
  match rdaf id with
  |some c=>S2 (Hl P t) c off fun cs=>ZO (Ck P t) cs fun v=>K (Aah v)
  |none=>D3 (rdf id) fun c=>Ps (Hl P t) c off fun cs=>ZO (Ck P t) cs K)
 |.iptr c off=>Ao (Ib P t) (S2 (Hl P t) c off fun cs=>ZO (Ck P t) cs fun v=>K (Aah v))
 |_=>none
def Bd (cells new:List PV)(off:Nat):List PV:=cells.take off++new++cells.drop (off+new.length)
def okP:PV->Bool
 |.agg _=>true
 |.lst _ _ _ _=>true
 |.view _ _ _ _=>true
 |.sc (.int _ _)=>true
 |.sc (.bool _)=>true
 |.sc (.string _)=>true
 |.sc (.slice none 0 0)=>true
 |_=>false
def Tk (Gn:Nat->Option (Nat × Nat)):List (Nat × PV)->List PV->(List PV->Option R)->Option R
 |[],cells,K=>K cells
 |(i,p)::r,cells,K=>D3 (Gn i) fun q=>Ao (okP p&&Nat.beq (cellsOf p).length q.2&&Nat.ble (q.1+q.2) cells.length) (Aa (Bd cells (cellsOf p) q.1) fun cells=>Tk Gn r cells K)
def Rq (P:Program)(t:TypeId)(i:Nat):Option (Nat × Nat):=
 match P.underlying t with
 |some (.struct fs)=>(fs[i]?).map fun f=>(f.offset,Bf P f.type)
 |some (.array _ e)=>some (i*Bf P e,Bf P e)
 |some (.slice e)=>some (i*Bf P e,Bf P e)
 |_=>none
def Qm (P:Program)(t:TypeId):Bool:=
 match P.underlying t with
 |some (.struct fs)=>fs.toList.all fun f=>IE P f.type
 |some (.array _ e)=>IE P e
 |some (.slice e)=>IE P e
 |_=>false
def Vs (P:Program)(t:TypeId):Option Value:=(P.info? t).bind (·.zero)
def Gl (P:Program)(t:TypeId)(K:List PV->Option R):Option R:=
 D3 (Vs P t) fun v=>Ao (Nat.beq v.cells.toList.length (Hl P t).length&&Ib P t) (S2 (Hl P t) (v.cells.toList.map .sc) 0 K)
def Ss (P:Program)(t:TypeId):Bool:=
 match P.underlying t with
 |some (.array _ _)=>true
 |_=>false
def Afy (P:Program)(t:TypeId)(cells:List PV):Bj:=bif Ss P t then .ar false cells else .st cells
def Qv (n:Nat)(l:List PV):List PV:=(List.replicate n l).flatten
def Ag6 (a b:PV)(K:PV->Option R):Option R:=C8 a fun k x=>Ad k b fun y=>Aa (if y<x then y else x) fun n=>K (.sc (.int k n))
def Ahg (a b:PV)(K:PV->Option R):Option R:=C8 a fun k x=>Ad k b fun y=>Aa (if x<y then y else x) fun n=>K (.sc (.int k n))
def Abk (P:Program)(t:TypeId)(x:PV)(K:Nat->Option R):Option R:=
 match P.underlying t with
 |some .string=>Dp x fun s=>K s.size
 |some (.array n _)=>K n
 |some (.slice e)=>
  match x with
  |.view _ es _ n=>Ao (Nat.beq es (Bf P e)) (K n)
  |x=>Gk (Bf P e) x fun _ n _=>K n
 |_=>none
end
abbrev Ah:=FuncId->List PV->Option Aw
section
variable {R:Type}
def Im (P:Program)(ts:List TypeId):Bool:=ts.any fun t=>(Yq P t).isSome||(Hl P t).any fun c=>match c with | .sl _=>true|_=>false
def Zo (P:Program)(t:TypeId)(tm:Nat->PV)(x:Operand)(K:PV->Option R):Option R:=
 match x with
 |.const v=>cvK P t v K
 |x=>K (B7 tm x)
def NX (P:Program)(e:TypeId):Bool:=
 match P.info? e with
 |some i=>(match i.zero with|some z=>Nat.beq z.cells.size i.size|none=>false)
 |none=>false
def UO (P:Program)(rdaf:Nat->Option (List PV)) (es:Nat)(t:TypeId)(x:PV)(K:Nat->List PV->Option R):Option R:=
 match P.underlying t with
 |some .string=>Ao (Nat.beq es 1) (Dp x fun b=>K b.size (Ds b))
 |some (.slice _)=>UK rdaf es x K
 |_=>none
abbrev UP (P:Program)(s:St)(es:Nat)(t:TypeId)(x:PV)(K:Nat->List PV->Option R):Option R:=UO P (I5 s.hp) es t x K
def Xb (c:Call):Bool:=
 match c.args.toList with
 |.const (.slice none 0 0)::_=>true
 |_=>false
def Ud (P:Program)(rdaf:Nat->Option (List PV)) (d:Nat)(t tx:TypeId)(x:PV)(K:PV->List (Nat × Bj)->Option R):Option R:=
 match P.underlying t with
 |some (.slice e)=>Ao (NX P e) <|
  UO P rdaf (Bf P e) tx x fun m new=>
   Ao (decide (new.length=m*Bf P e)&&decide (m*((P.info? e).map (·.bytes)).getD 0<=1099511627776)&&decide (m<=1099511627776)) (K (.view d (Bf P e) 0 m) [(d,.ar false new)])
 |_=>none
def I1 (k:Bool):List Operand->List PV->List PV
  |x::xs,p::ps=>
    (match x,p with
     |.const (.slice none 0 0),.lst z es 0 []=>.lst (k||z) es 0 []
     |_,p=>p)::I1 k xs ps
  |_,ps=>ps
def Ab1 (P:Program)(t:TypeId)(x:PV)(K:Nat->Option R):Option R:=
 match P.underlying t with
 |some (.slice e)=>Gk (Bf P e) x fun z _ _=>Ao z (K 0)
 |_=>none
def GM (P:Program)(f:FuncId)(c:Call):List TypeId:=
 match P.funcs[f]? with
 |some fn=>fn.params.toList
 |none=>c.argTypes.toList
def HF (C:Gi)(P:Program)(N:Nat)(call:Ah)(tm:Nat->PV)(rdaf:Nat->Option (List PV)) (o:Oper)(c:Call)(f:FuncId)(K:PV->List Nat->List (Nat × Bj)->Option R):Option R:=
 FK P rdaf (GM P f c) (c.args.toList.map (B7 tm)) fun vs m=>
  Ai (call f (I1 (C.kz f) c.args.toList vs)) fun rv ro=>Ac ro (Ao (Nat.blt 0 N)<|BV P (C.shr f) N (o.dst.getD 0) (Mt P o.type) rv fun ws bs=>
   Ao (bif O2 P o.type then !Nat.beq ws.length 1 else Nat.beq ws.length 1)<|K (Ng ws (O2 P o.type)) (bif Im P (Mt P o.type) then m else []) bs)
def HY (C:Gi)(P:Program)(N:Nat)(call:Ah)(tm:Nat->PV)(rdf rdaf:Nat->Option (List PV)) (o:Oper)(K:PV->List Nat->List (Nat × Bj)->Option R):Option R:=
  match o.op with
  |.move x=>Zo P o.type tm x fun p=>K p [] []
  |.assign x=>Zo P o.type tm x fun p=>K p [] []
  |.pick c a b=>Bn (B7 tm c) fun t=>Bc t (K (B7 tm a) [] []) (K (B7 tm b) [] [])
  |.alloc t=>D3 o.dst fun d=>Gl P t fun cs=>K (.ptr d 0) [] [(d,Afy P t cs)]
  |.box t x=>D3 o.dst fun d=>Ao (Ib P t&&Nat.beq (cellsOf (B7 tm x)).length (Hl P t).length)
      (bif Ss P t then S2 (Hl P t) (cellsOf (B7 tm x)) 0 fun cs=>K (.ptr d 0) [] [(d,.ar false cs)]
       else Ps (Hl P t) (cellsOf (B7 tm x)) 0 fun cs=>K (.ptr d 0) [] [(d,.st cs)])
  |.build t ps=>Ao (Qm P t&&Ck P t)<|Gl P t fun z=>Tk (Rq P t) (ps.toList.map fun q=>(q.1,B7 tm q.2)) z fun cs=>Ps (Hl P t) cs 0 fun cs'=>K (.agg cs') [] []
  |.buildSlice t n ps=>D3 o.dst fun d=>
      match P.underlying t with
      |some (.slice e)=>Ao (Qm P t&&Nat.ble (n*Bf P e) 16777216) (Gl P e fun z=>Tk (Rq P t) (ps.toList.map fun q=>(q.1,B7 tm q.2)) (Qv n z) fun cs=>
          Ms rdaf (List.replicate n (Hl P e)).flatten cs fun cs' m=>K (.view d (Bf P e) 0 n) m [(d,.ar false cs')])
      |_=>none
  |.load t a=>Xf P rdf rdaf t (B7 tm a) fun v=>K v [] []
  |.nilCheck x=>Si (B7 tm x) 0 fun p=>K p [] []
  |.binOp op t x y _=>
      Tx P op t (B7 tm x) (B7 tm y) fun v=>K v [] []
  |.unOp op _ x=>unK op (B7 tm x) fun v=>K v [] []
  |.convert src dst x=>FF P rdaf (o.dst.getD 0) src dst (B7 tm x) fun v b=>D3 o.dst fun _=>K v [] b
  |.makeSlice t l c=>D3 o.dst fun d=>
      match P.underlying t with
      |some (.slice e)=>C8 (B7 tm l) fun _ n=>C8 (B7 tm c) fun _ m=>
          Ao (decide (0<=n)&&decide (n<=m)&&decide (m*((P.info? e).map (·.bytes)).getD 0<=1099511627776)&&decide (m<=1099511627776))
            (Gl P e fun z=>K (.view d (Bf P e) 0 n.toNat) [] [(d,.ar false (Qv n.toNat z))])
      |_=>none
  |.slice t x lo hi mx=>
      match mx with
      |none=>Zj P rdf t (B7 tm x) (lo.map (B7 tm)) (hi.map (B7 tm)) fun v=>K v [] []
      |some _=>none
  |.fieldAddr t x f=>D3 (Qy P t f) fun q=>Ao (Nat.ble 1 (Bf P q.2)) (Si (B7 tm x) q.1 fun p=>K p [] [])
  |.field t x f=>D3 (Qy P t f) fun q=>Ao (Ib P q.2)<|Ez (B7 tm x) fun cs=>Ps (Hl P q.2) cs q.1 fun c=>ZO (Ck P q.2) c fun v=>K v [] []
  |.indexAddr t x i=>C8 (B7 tm i) fun _ n=>Jl P t (B7 tm x) n fun p=>K p [] []
  |.index t x i=>C8 (B7 tm i) fun _ n=>
      match P.underlying t with
      |some .string=>Dp (B7 tm x) fun s=>Ao (decide (0<=n)) (D3 (s.data.toList[n.toNat]?) fun b=>K (.sc (.int .u8 b.toNat)) [] [])
      |some (.array len e)=>Ez (B7 tm x) fun cs=>Ao (decide (0<=n)&&decide (n<len)&&Ib P e) (Ps (Hl P e) cs (n.toNat*Bf P e) fun c=>ZO (Ck P e) c fun v=>K v [] [])
      |_=>none
  |.extract x i=>
      match B7 tm x with
      |.tup vs=>D3 vs[i]? fun p=>K p [] []
      |_=>none
  |.call c=>
      match c.callee with
      |.builtin .len=>Ab c.args.toList fun x _=>Ab c.argTypes.toList fun t _=>Abk P t (B7 tm x) fun n=>K (.sc (.int .i64 n)) [] []
      |.builtin .cap=>Ab c.args.toList fun x _=>Ab c.argTypes.toList fun t _=>Ab1 P t (B7 tm x) fun n=>K (.sc (.int .i64 n)) [] []
      |.builtin .min=>Ab c.args.toList fun x r=>Ab r fun y r'=>Ac r' (Ag6 (B7 tm x) (B7 tm y) fun v=>K v [] [])
      |.builtin .max=>Ab c.args.toList fun x r=>Ab r fun y r'=>Ac r' (Ahg (B7 tm x) (B7 tm y) fun v=>K v [] [])
      |.builtin .append=>Ao (Xb c) (D3 o.dst fun d=>Ab c.args.toList fun _ r=>Ab r fun x r'=>Ac r' (Ab c.argTypes.toList fun t u=>Ab u fun tx _=>Ud P rdaf d t tx (B7 tm x) fun v nw=>K v [] nw))
      |.value (.func f)=>HF C P N call tm rdaf o c f K
      |.value (.tmp t)=>fvK (tm t) fun f=>HF C P N call tm rdaf o c f K
      |_=>none
  |_=>none
def Rf (C:Gi)(P:Program)(o:Op):Bool:=
 match o with
 |.store .. =>true
 |.call c=>
  match c.callee with
  |.builtin .append=> !Xb c
  |.builtin .copy=>true
  |.builtin _=>false
  |.value (.func f)=>((GM P f c).any fun t=>(Yq P t).isSome)||((GM P f c).zipIdx.any fun q=>C.mvd f q.2||C.lnd f q.2)
  |_=>false
 |_=>false
def Sq (b:Bj):Bj:=
 match b with
 |.ar _ c=>.ar true c
 |b=>b
def Af (hp:Nat->Option Bj)(ids:List Nat):Nat->Option Bj:=fun i=>bif ids.any (Nat.beq i) then (hp i).map Sq else hp i
def At (hp:Nat->Option Bj):List (Nat × Bj)->Nat->Option Bj
 |[]=>hp
 |(i,b)::r=>At (Ch hp i (some b)) r
def Bq (hp:Nat->Option Bj):List (Nat × Bj)->Bool
 |[]=>true
 |(i,_)::r=>(hp i).isNone && !(r.any fun q=>Nat.beq q.1 i)&&Bq hp r
def Bk (tm:Nat->PV)(d:Option Tmp)(v:PV):Nat->PV:=
 match d with
 |some i=>Ch tm i v
 |none=>tm
def F4 (N:Nat)(d:Option Tmp):Bool:=
 match d with
 |some i=>Nat.blt i N
 |none=>true
def BD (N:Nat)(s:St)(d:Option Tmp)(v:PV)(fz:List Nat)(nw:List (Nat × Bj)) (K:St->Option R):Option R:=
 Ao (F4 N d&&Bq s.hp nw) (K ⟨Bk s.tm d v,At (Af s.hp fz) nw⟩)
def AV (P:Program)(s:St)(t:TypeId)(a x:PV)(K:St->Option R):Option R:=
 match a with
 |.ptr id off=>
  match s.hp id with
  |some (.st c)=>Ao (Ib P t&&Nat.beq (cellsOf x).length (Hl P t).length&&decide (off+(Hl P t).length<=c.length)) (Ps (Hl P t) (cellsOf x) 0 fun cs=>Aa (Bd c cs off) fun c=>K ⟨s.tm,Ch s.hp id (some (.st c))⟩)
  |some (.ar false c)=>Ao (Ib P t&&decide (off+(Hl P t).length<=c.length)) (Ms (I5 s.hp) (Hl P t) (cellsOf x) fun cs m=>Ao (!m.any (Nat.beq id)) (Aa (Bd c cs off) fun c=>K ⟨s.tm,Ch (Af s.hp m) id (some (.ar false c))⟩))
  |_=>none
 |_=>none
def Zd (P:Program)(t:TypeId):Bool:=
 match P.underlying t with
 |some (.int _)=>true
 |_=>false
def Tb (P:Program)(N:Nat)(s:St)(d:Nat)(e:TypeId)(b x:PV)(K:St->Option R):Option R:=
 C8 x fun _ n=>Gk (Bf P e) b fun z _ _=>
  Ao (z&&Nat.blt d N&&(s.hp d).isNone&&decide (0<=n)&&decide (n.toNat*((P.info? e).map (·.bytes)).getD 0<=1099511627776)&&decide (n<=1099511627776))
   (K ⟨Ch s.tm d (.view d (Bf P e) 0 n.toNat),Ch s.hp d (some (.ar false []))⟩)
def Oo (P:Program)(N:Nat)(s:St)(d:Nat)(t tx:TypeId)(b x:PV)(K:St->Option R):Option R:=
 match P.underlying t with
 |some (.slice e)=>Ao (NX P e) <|
  bif Zd P tx then Tb P N s d e b x K else
  UP P s (Bf P e) tx x fun m new=>
  match b with
  |.view id es off n=>
   match s.hp id with
   |some (.ar false c)=>
    Ao (Nat.beq es (Bf P e)&&Nat.beq off 0&&Nat.blt d N&&(s.hp d).isNone&&decide (n*es<=c.length)&&decide (new.length=m*es)
     && decide ((n+m)*((P.info? e).map (·.bytes)).getD 0<=1099511627776)&&decide (n+m<=1099511627776))
     (Aa (n+m) fun n'=>Aa (c.take (n*es)++new) fun c=>K ⟨Ch s.tm d (.view d es 0 n'),Ch (Ch s.hp id (some .mv)) d (some (.ar false c))⟩)
   |_=>none
  |b=>Gk (Bf P e) b fun z _ _=>
    Ao (z&&Nat.blt d N&&(s.hp d).isNone&&decide (new.length=m*Bf P e)&&decide (m*((P.info? e).map (·.bytes)).getD 0<=1099511627776)&&decide (m<=1099511627776))
     (K ⟨Ch s.tm d (.view d (Bf P e) 0 m),Ch s.hp d (some (.ar false new))⟩)
 |_=>none
def MA (P:Program)(N:Nat)(s:St)(d:Option Tmp)(t tx:TypeId)(b x:PV)(K:St->Option R):Option R:=
 match P.underlying t with
 |some (.slice e)=>Ao (IE P e&&F4 N d) <|
  UP P s (Bf P e) tx x fun m new=>
  match b with
  |.view id es off n=>
   match s.hp id with
   |some (.ar false c)=>Ao (Nat.beq es (Bf P e)&&decide (off+n*es<=c.length)&&decide (new.length=m*es))
     (Aa (min m n) fun k=>Aa (Bd c (new.take (k*es)) off) fun c=>K ⟨Bk s.tm d (.sc (.int .i64 k)),Ch s.hp id (some (.ar false c))⟩)
   |_=>none
  |_=>none
 |_=>none
def Aco (mv:Bool)(hp:Nat->Option Bj)(t:CT)(p:PV)(K:PV->List Nat->List Nat->Option R):Option R:=
 match t with
 |.sl es=>
  bif mv then
   match p with
   |.view id es' off n=>
    match hp id with
    |some (.ar false c)=>
     bif Nat.beq es' es&&Nat.beq off 0 then Ao (decide (n*es<=c.length)) (K (.own es n (c.take (n*es))) [] [id])
     else Od (I5 hp) (.sl es) (.view id es' off n) fun c m=>K c m []
    |_=>Od (I5 hp) (.sl es) (.view id es' off n) fun c m=>K c m []
   |p=>Gk es p fun z n c=>bif z then K (.own es 0 []) [] [] else K (.lst false es n c) [] []
  else Od (I5 hp) (.sl es) p fun c m=>K c m []
 |t=>AY t p fun c=>K c [] []
def CL (mv:Bool)(hp:Nat->Option Bj):List CT->List PV->(List PV->List Nat->List Nat->Option R)->Option R
 |[],[],K=>K [] [] []
 |t::ts,p::ps,K=>Aco mv hp t p fun c m x=>CL mv hp ts ps fun cs ms xs=>K (c::cs) (m++ms) (x++xs)
 |_,_,_=>none
inductive Gc where
 |var (id off:Nat) (cts:List CT) (ws:List PV)
 |row (id:Nat)
 |none
def Gc.ids:Gc->List Nat
 |.var id _ _ _=>[id]
 |.row id=>[id]
 |.none=>[]
def Alf (P:Program)(t:TypeId):Option TypeId:=
 match P.underlying t with
 |some (.slice e)=>some e
 |_=>none
def Adm (hp:Nat->Option Bj)(es:Nat)(p:PV)(K:PV->List Gc->Option R):Option R:=
 match p with
 |.view id es' off n=>
  match hp id with
  |some (.ar false c)=>Ao (Nat.beq es' es&&Nat.beq off 0) (K (.tup [.own es n c]) [.row id])
  |_=>none
 |p=>Gk es p fun z _ _=>Ao z (K (.tup [.own es 0 []]) [.none])
def AB (C:Gi)(P:Program)(f:FuncId)(hp:Nat->Option Bj)(i:Nat)(t:TypeId)(p:PV)(K:PV->List Nat->List Nat->List Gc->Option R):Option R:=
 match Yq P t with
 |some e=>
  match p with
  |.ptr id off=>
   match hp id with
   |some (.st c)=>Ao (Ib P e&&decide (off+(Hl P e).length<=c.length)) (CL (C.mvd f i) hp (Hl P e) ((c.drop off).take (Hl P e).length) fun cs m x=>K (.pbox cs) m x [.var id off (Hl P e) cs])
   |_=>none
  |_=>none
 |none=>
  bif C.lnd f i then D3 (Alf P t) fun e=>Adm hp (Bf P e) p fun v l=>K v [] [] l
  else bif Ck P t then Ez p fun ps=>CL (C.mvd f i) hp (Hl P t) ps fun cs m x=>K (.agg cs) m x []
  else CL (C.mvd f i) hp (Hl P t) [p] fun cs m x=>Ab cs fun c r=>Ac r (K c m x [])
def LR (C:Gi)(P:Program)(f:FuncId)(hp:Nat->Option Bj):Nat->List TypeId->List PV->(List PV->List Nat->List Nat->List Gc->Option R)->Option R
 |_,[],[],K=>K [] [] [] []
 |i,t::ts,p::ps,K=>AB C P f hp i t p fun v m x l=>LR C P f hp (i+1) ts ps fun vs ms xs ls=>K (v::vs) (m++ms) (x++xs) (l++ls)
 |_,_,_,_=>none
def Tg (hp:Nat->Option Bj)(ids:List Nat):Nat->Option Bj:=fun i=>bif ids.any (Nat.beq i) then (hp i).map (fun _=>Bj.mv) else hp i
def UG (N t:Nat):Nat:=N*(1000+t)
def TM (N:Nat)(hp:Nat->Option Bj):Nat->Nat->Nat
 |0,t=>t
 |k+1,t=>bif (hp (UG N t)).isNone then t else TM N hp k (t+1)
def Aa9 (N t:Nat)(ct:CT)(was p:PV)(K:Nat->PV->List (Nat × Bj)->Option R):Option R:=
 match ct with
 |.sl es=>
  match was with
  |.own _ _ _=>Eg es p fun n c=>K (t+1) (.view (UG N t) es 0 n) [(UG N t,.ar false c)]
  |_=>Gk es p fun _ n c=>K t (.lst false es n c) []
 |ct=>AY ct p fun c=>K t c []
def MI (N:Nat):Nat->List CT->List PV->List PV->(Nat->List PV->List (Nat × Bj)->Option R)->Option R
 |t,[],[],ps,K=>Ac ps (K t [] [])
 |t,ct::cts,w::ws,ps,K=>Ab ps fun p ps=>Aa9 N t ct w p fun t' c b=>MI N t' cts ws ps fun t'' cs bs=>K t'' (c::cs) (b++bs)
 |_,_,_,_,_=>none
def Wg (N:Nat):Nat->List Gc->List (List PV)->(Nat->Option Bj)->((Nat->Option Bj)->List (Nat × Bj)->Option R)->Option R
 |_,[],ro,hp,K=>Ac ro (K hp [])
 |t,.var id off cts ws::l,ro,hp,K=>Ab ro fun cs ro=>MI N t cts ws cs fun t' cs' bs=>
   match hp id with
   |some (.st c)=>Aa (Bd c cs' off) fun c=>Wg N t' l ro (Ch hp id (some (.st c))) fun hp' bs'=>K hp' (bs++bs')
   |_=>none
 |t,.row id::l,ro,hp,K=>Ab ro fun cs ro=>Wg N t l ro (Ch hp id (some (.ar false cs))) K
 |t,.none::l,ro,hp,K=>Ab ro fun _ ro=>Wg N t l ro hp K
def Dq:List Nat->Bool
 |[]=>true
 |a::r=> !(r.any (Nat.beq a))&&Dq r
def AA (C:Gi)(P:Program)(N:Nat)(call:Ah)(s:St)(o:Oper)(f:FuncId)(c:Call)(K:St->Option R):Option R:=
 LR C P f s.hp 0 (GM P f c) (c.args.toList.map (B7 s.tm)) fun vs m x l=>
  Ao (Dq (l.flatMap Gc.ids++x)&&m.all (fun i=> !((l.flatMap Gc.ids++x).any (Nat.beq i)))&&Nat.blt 0 N&&F4 N o.dst) <|
  Ai (call f (I1 (C.kz f) c.args.toList vs)) fun rv ro=>
   BV P (C.shr f) N (o.dst.getD N) (Mt P o.type) rv fun ws bs=>
    Ao (bif O2 P o.type then !Nat.beq ws.length 1 else Nat.beq ws.length 1) <|
    Amx (TM N s.hp 100 0) fun t0=>Wg N t0 l ro (Tg (Af s.hp m) x) fun hp' bs'=>
     Ao (Bq hp' (bs++bs')) (K ⟨Bk s.tm o.dst (Ng ws (O2 P o.type)),At hp' (bs++bs')⟩)
def Ur (C:Gi)(P:Program)(N:Nat)(call:Ah)(s:St)(o:Oper)(K:St->Option R):Option R:=
 match o.op with
 |.store t a x=>Ao (o.dst.isNone) (AV P s t (B7 s.tm a) (B7 s.tm x) K)
 |.call c=>
  match c.callee with
  |.builtin .append=>D3 o.dst fun d=>Ab c.args.toList fun b r=>Ab r fun x r'=>Ac r' (Ab c.argTypes.toList fun t u=>Ab u fun tx _=>Oo P N s d t tx (B7 s.tm b) (B7 s.tm x) K)
  |.builtin .copy=>Ab c.args.toList fun b r=>Ab r fun x r'=>Ac r' (Ab c.argTypes.toList fun t u=>Ab u fun tx _=>MA P N s o.dst t tx (B7 s.tm b) (B7 s.tm x) K)
  |.value (.func f)=>AA C P N call s o f c K
  |_=>none
 |_=>none
def QH (C:Gi)(P:Program)(N:Nat)(call:Ah)(o:Oper)(s:St)(K:St->Option R):Option R:=
 bif Rf C P o.op then Ur C P N call s o K
 else HY C P N call s.tm (rd s.hp) (I5 s.hp) o fun v fz nw=>BD N s o.dst v fz nw K
def C6 (C:Gi)(P:Program)(N:Nat)(call:Ah)(ops:Array Oper)(o:Oper)(s:St)(K:St->Option R):Option R:=
 match o.guard with
 |none=>QH C P N call o s K
 |some (j,want)=>
  match (ops[j]?).bind (·.dst) with
  |none=>none
  |some d=>
   match s.tm d with
   |.sc (.bool b)=>
    Bc b (bif want then QH C P N call o ⟨Ch s.tm d (.sc (.bool true)),s.hp⟩ K else Ao (F4 N o.dst) (K ⟨Bk (Ch s.tm d (.sc (.bool true))) o.dst (.sc undef),s.hp⟩))
     (bif want then Ao (F4 N o.dst) (K ⟨Bk (Ch s.tm d (.sc (.bool false))) o.dst (.sc undef),s.hp⟩) else QH C P N call o ⟨Ch s.tm d (.sc (.bool false)),s.hp⟩ K)
   |.sc (.tuple _)=>Ao (F4 N o.dst) (K ⟨Bk s.tm o.dst (.sc undef),s.hp⟩)
   |_=>none
def Mq (C:Gi)(P:Program)(N:Nat)(call:Ah)(ops:Array Oper):List Oper->St->(St->Option R)->Option R
 |[],s,K=>K s
 |o::r,s,K=>C6 C P N call ops o s fun s'=>Mq C P N call ops r s' K
noncomputable def U9 (x y:Option R):Option R:=open Classical in if x=y then x else none
noncomputable def UZ (ops:Array Oper)(o:Oper)(s:St)(F:St->Option R):Option R:=
 match o.guard with
 |none=>F s
 |some (j,_)=>
  match (ops[j]?).bind (·.dst) with
  |none=>F s
  |some d=>
   match s.tm d with
   |.ub=>U9 (F ⟨Ch s.tm d (.sc (.bool true)),s.hp⟩) (F ⟨Ch s.tm d (.sc (.bool false)),s.hp⟩)
   |_=>F s
noncomputable def Li (C:Gi)(P:Program)(N:Nat)(call:Ah)(ops:Array Oper):List Oper->St->(St->Option R)->Option R
 |[],s,K=>K s
 |o::r,s,K=>UZ ops o s fun s1=>C6 C P N call ops o s1 fun s'=>Li C P N call ops r s' K
end
def Aet (o:Oper):List Nat:=o.op.operands.toList.filterMap fun x=>match x with | .tmp t=>some t|_=>none
def looks (ops:Array Oper)(o:Oper):List Nat:=
 Aet o++(match o.guard with|some (g,_)=>((ops[g]?).bind (·.dst)).toList|none=>[])
def Hb (P:Program)(o:Op):Bool:=
 match o with
 |.slice t .. =>match P.underlying t with|some (.array _ _)=>true|_=>false
 |.buildSlice t _ _=>match P.underlying t with|some (.slice e)=>Im P [e]|_=>true
 |.convert _ dst _=>match P.underlying dst with|some .string=>true|_=>false
 |.alloc _ | .box .. | .makeSlice .. =>false
 |.move _ | .assign _ | .pick .. | .build .. | .binOp .. | .unOp .. | .fieldAddr .. | .field .. | .index .. | .indexAddr .. | .extract .. | .nilCheck _=>false
 |.call c=>match c.callee with | .builtin .len=>false | .builtin .min=>false | .builtin .max=>false|_=>true
 |_=>true
def HZ (C:Gi)(P:Program)(ops:Array Oper)(x y:Oper):Bool:=
 (match x.dst with|some d=>(looks ops y).any (Nat.beq d)||(match y.dst with|some e=>Nat.beq d e|none=>false)|none=>false) ||
 (match y.dst with|some e=>(looks ops x).any (Nat.beq e)|none=>false) ||
 (Rf C P x.op&&Hb P y.op)||(Rf C P y.op&&Hb P x.op)
def Hs (ops:List Oper):List Nat->List Nat
 |acc=>match ops with
  |[]=>acc
  |o::r=>Hs r (acc++[o.after.toList.foldl (fun s e=>bif Region.binds .any e then s ||| 2 ^ e.on ||| acc.getD e.on 0 else s) 0])
def EF (C:Gi)(P:Program)(ops:Array Oper)(bs:List Nat):List Oper->Nat->Bool
 |[],_=>true
 |o::r,i=>(ops.toList.zipIdx.all fun q=> !Nat.blt q.2 i || !HZ C P ops q.1 o||(bs.getD i 0).testBit q.2)&&EF C P ops bs r (i+1)
def FH (C:Gi)(P:Program)(ops:Array Oper):Bool:=
 ops.toList.zipIdx.all (fun q=>q.1.after.toList.all fun e=> !Region.binds .any e||Nat.blt e.on q.2)&&EF C P ops (Hs ops.toList []) ops.toList 0
def Aq:PV->List Nat
 |.view id _ _ _=>[id]
 |.ptr id _=>[id]
 |_=>[]
def B3:PV->List Nat
 |.agg cs=>cs.flatMap Aq
 |p=>Aq p
def Bo:PV->List Nat
 |.tup ps=>ps.flatMap B3
 |p=>B3 p
def Tc (P:Program)(o:Op):Bool:=
 match o with
 |.load .. =>true
 |.convert _ dst _=>(match P.underlying dst with|some .string=>true|_=>false)
 |_=>false
def Nb (o:Op):Bool:=
 match o with
 |.call c=>(match c.callee with | .builtin .append=> !Xb c|_=>false)
 |_=>false
def Afs (ops:Array Oper)(x y:Oper):Bool:=
 (match x.dst with|some d=>(looks ops y).any (Nat.beq d)||(match y.dst with|some e=>Nat.beq d e|none=>false)|none=>false) ||
 (match y.dst with|some e=>(looks ops x).any (Nat.beq e)|none=>false)
def Rc (C:Gi)(P:Program)(x y:Oper):Bool:=(Rf C P x.op&&Hb P y.op)||(Rf C P y.op&&Hb P x.op)
def Ja (C:Gi)(P:Program)(x y:Oper):Bool:=(Rf C P x.op&&Tc P y.op)||(Rf C P y.op&&Tc P x.op)||(Nb x.op&&Nb y.op)
def Afw (C:Gi)(P:Program)(ops:Array Oper)(x y:Oper):Bool:=Afs ops x y||(Rc C P x y && !Ja C P x y)
def Yk (C:Gi)(P:Program)(ops:Array Oper)(bs:List Nat):List Oper->Nat->Bool
 |[],_=>true
 |o::r,i=>(ops.toList.zipIdx.all fun q=> !Nat.blt q.2 i || !Afw C P ops q.1 o||(bs.getD i 0).testBit q.2)&&Yk C P ops bs r (i+1)
def ER (C:Gi)(P:Program)(ops:Array Oper):Bool:=
 ops.toList.zipIdx.all (fun q=>q.1.after.toList.all fun e=> !Region.binds .any e||Nat.blt e.on q.2)&&Yk C P ops (Hs ops.toList []) ops.toList 0
def Lo (C:Gi)(P:Program)(s:St)(o:Oper):List Nat:=
 let l:=o.op.operands.toList.flatMap fun y=>Bo (B7 s.tm y)
 bif Rf C P o.op && !Nb o.op then l++l.flatMap (fun i=>match s.hp i with|some (.st c)=>c.flatMap Aq|_=>[])
 else bif Tc P o.op||Nb o.op then l else []
def Aa0 (a b:List Nat):Bool:=a.all fun i=> !b.any (Nat.beq i)
def Zf (C:Gi)(P:Program)(ops:Array Oper)(bs:List Nat)(i:Nat)(o:Oper):List Nat:=
 (ops.toList.zipIdx.filter fun q=>Ja C P q.1 o && !(Nat.blt q.2 i&&(bs.getD i 0).testBit q.2) && !(Nat.blt i q.2&&(bs.getD q.2 0).testBit i)).map (·.2)
def CH (C:Gi)(P:Program)(ops:Array Oper)(bs:List Nat):List (List Nat):=ops.toList.zipIdx.map fun q=>Zf C P ops bs q.2 q.1
def DP (C:Gi)(P:Program)(sm:List (List Nat)) (s:St)(i:Nat)(o:Oper):List Nat:=
 match sm.getD i [] with
 |[]=>[]
 |_::_=>Lo C P s o
def JH (C:Gi)(P:Program)(sm:List (List Nat)) (s:St)(i:Nat)(o:Oper)(q:Nat × Oper × List Nat):Bool:=
 !((sm.getD i []).any (Nat.beq q.1))||Aa0 q.2.2 (DP C P sm s i o)
def Hk {R:Type}(C:Gi)(P:Program)(N:Nat)(call:Ah)(ops:Array Oper)(sm:List (List Nat)):List (Nat × Oper × List Nat)->List Nat->St->(St->Option R)->Option R
 |_,[],s,K=>K s
 |dn,i::l,s,K=>D3 ops[i]? fun o=>Ao (dn.all (JH C P sm s i o)&&(DP C P sm s i o).all (fun k=>(s.hp k).isSome)) (C6 C P N call ops o s fun s'=>Hk C P N call ops sm ((i,o,DP C P sm s i o)::dn) l s' K)
def Ac6 (m i:Nat):Nat:=m ||| 2 ^ i
def Amw (m i:Nat):Nat:=bif m.testBit i then m ^^^ 2 ^ i else m
def YD (ops:Array Oper):List Oper->Nat->Nat
 |[],m=>m
 |o::r,m=>
  let m1:=YD ops r m
  let m2:=match o.dst with|some d=>Amw m1 d|none=>m1
  (looks ops o).foldl Ac6 m2
def Oc:Code->Nat->(Nat->Nat)->Nat->Nat
 |.skip,ln,_,_=>ln
 |.region _ ops _,ln,_,_=>YD ops ops.toList ln
 |.seq a b,ln,lx,lr=>Oc a (Oc b ln lx lr) lx lr
 |.cond c a b,ln,lx,lr=>let m:=Oc a ln lx lr ||| Oc b ln lx lr;match c with | .tmp d=>Ac6 m d|_=>m
 |.block id c,ln,lx,lr=>Oc c ln (fun j=>bif Nat.beq j id then ln else lx j) lr
 |.loop c,_,lx,lr=>Oc c (Oc c 0 lx lr) lx lr
 |.exit id,_,lx,_=>lx id
 |.ret,_,_,lr=>lr
 |_,_,_,_=>0
def Ae6 (ops:List Oper):List Nat:=(ops.filterMap fun o=>o.guard.map (·.1)).eraseDups
def O7:Code->Nat
 |.region _ _ _=>1
 |.seq a b=>O7 a+O7 b
 |.cond _ a b=>O7 a+O7 b
 |.block _ c=>O7 c
 |.loop c=>O7 c
 |_=>0
def DJ:Code->Nat
 |.skip=>1
 |.region _ ops _=>2 ^ min 6 (Ae6 ops.toList).length
 |.seq a b=>bif (Nat.ble 7 (DJ a)&&Nat.ble 6 (O7 b))||(Nat.ble 5 (DJ a)&&Nat.ble 9 (O7 b)) then DJ b else min 1000 (DJ a*DJ b)
 |.cond _ a b=>DJ a+DJ b
 |.block _ c=>DJ c
 |.loop _=>1
 |.exit _=>1
 |_=>0
def Ai2 (P:Program)(o:Oper):Bool:=
 match o.op with
 |.load t _=>Ss P t&&Nat.ble 8 (Bf P t)
 |.store t _ _=>Ss P t&&Nat.ble 8 (Bf P t)
 |_=>false
def SU (P:Program):Code->Bool
 |.region _ ops _=>ops.toList.any (Ai2 P)
 |.seq a _=>SU P a
 |_=>false
def ZX (P:Program):Code->Bool
 |.region _ ops _=>ops.toList.any (Ai2 P)
 |.seq _ b=>ZX P b
 |_=>false
def Xm (a b:Code):Bool:=(Nat.beq (DJ a) 4&&Nat.beq (O7 b) 3&&Nat.beq (O7 a) 7)||(match b with | .seq x y=>Nat.beq (DJ x) 4&&Nat.beq (O7 y) 3&&Nat.beq (O7 x) 7|_=>false)
def YE (P:Program)(a b:Code):Bool:=(Nat.ble 7 (DJ a)&&Nat.ble 6 (O7 b))||(Nat.ble 5 (DJ a)&&Nat.ble 9 (O7 b))||Xm a b||SU P b||ZX P a
def Kx (m:Nat):Nat->List Nat
 |0=>[]
 |n+1=>Kx m n++(bif m.testBit n then [n] else [])
def lk (l:List (Nat × PV)) (i:Nat):PV:=
 match l with
 |[]=>.top
 |(j,p)::r=>bif Nat.beq i j then p else lk r i
def Bz (l:List (Nat × Bj)) (i:Nat):Option Bj:=
 match l with
 |[]=>none
 |(j,b)::r=>bif Nat.beq i j then some b else Bz r i
def Uw (l:List (Nat × Nat)) (i:Nat):Option Nat:=
 match l with
 |[]=>none
 |(j,b)::r=>bif Nat.beq i j then some b else Uw r i
def EP (s:St)(i:Nat):St:=
 match s.tm i with
 |.lst true es 0 []=>bif (s.hp i).isNone then ⟨Ch s.tm i (.view i es 0 0),Ch s.hp i (some (.ar false []))⟩ else s
 |_=>s
def OQ (N:Nat)(id:Nat)(s:St)(j:Nat):St:=
 match s.hp id with
 |some (.st c)=>
  match c[j]? with
  |some (.lst true es 0 [])=>bif (s.hp (id+N*(j+1))).isNone then ⟨s.tm,Ch (Ch s.hp id (some (.st (c.set j (.view (id+N*(j+1)) es 0 0))))) (id+N*(j+1)) (some (.ar false []))⟩ else s
  |_=>s
 |_=>s
def PX (N:Nat)(s:St)(i:Nat):St:=
 match s.tm i with
 |.ptr id _=>
  match s.hp id with
  |some (.st c)=>(List.range c.length).foldl (OQ N id) s
  |_=>s
 |_=>s
def KV (m:List (Nat × Nat)) (old new:Nat):List (Nat × Nat):=
 match Uw m old with
 |some _=>m
 |none=>m++[(old,new)]
def Rn (N new:Nat):List PV->Nat->List (Nat × Nat)->List (Nat × Nat)
 |[],_,m=>m
 |.view id _ _ _::r,j,m=>Rn N new r (j+1) (KV m id (new+N*(j+1)))
 |_::r,j,m=>Rn N new r (j+1) m
def EK (N:Nat)(s:St)(m:List (Nat × Nat)) (i:Nat):List (Nat × Nat):=
 match s.tm i with
 |.view id _ _ _=>KV m id i
 |.ptr id _=>
  match Uw m id with
  |some _=>m
  |none=>
   match s.hp id with
   |some (.st c)=>Rn N i c 0 (KV m id i)
   |_=>KV m id i
 |.agg c=>Rn N i c 0 m
 |_=>m
def VS (m:List (Nat × Nat)):PV->PV
 |.view id es off n=>match Uw m id with|some j=>.view j es off n|none=>.top
 |.ptr id off=>match Uw m id with|some j=>.ptr j off|none=>.top
 |.sc v=>.sc v
 |.lst z es n c=>.lst z es n c
 |.iptr c off=>.iptr c off
 |_=>.top
def Aci (m:List (Nat × Nat)):PV->PV
 |.agg c=>.agg (c.map (VS m))
 |p=>VS m p
def Ahk (m:List (Nat × Nat)):Bj->Bj
 |.st c=>.st (c.map (VS m))
 |b=>b
def Cm (N i:Nat):Nat:=i+N*2000
def SR (N:Nat)(hp:Nat->Option Bj):Nat->List (Nat × Nat)
 |0=>[]
 |i+1=>bif (hp (Cm N i)).isSome then SR N hp i++[(Cm N i,Cm N i)] else SR N hp i
def Th (N:Nat)(hp:Nat->Option Bj):Nat->List (Nat × Nat)->List (Nat × Nat)
 |0,m=>m
 |i+1,m=>
  match hp (Cm N i) with
  |some (.st c)=>Rn N (Cm N i) c 0 (Th N hp i m)
  |_=>Th N hp i m
def Aqe (N:Nat)(hp:Nat->Option Bj)(k:Nat):List (Nat × Nat):=Th N hp k (SR N hp k)
def Ls (m:List (Nat × Nat)) (hp:Nat->Option Bj):List (Nat × Nat)->List (Nat × Bj)
 |[]=>[]
 |(old,new)::r=>match hp old with
  |some b=>(new,Ahk m b)::Ls m hp r
  |none=>Ls m hp r
section
variable {R:Type}
def ZK (N:Nat)(ls:List Nat)(q:Bool)(s:St)(K:St->Option R):Option R:=
 let s2:=bif q then s else ls.foldl (PX N) (ls.foldl EP s)
 let m:=ls.foldl (EK N s2) (Aqe N s2.hp 8)
 Ao (Dq (m.map (·.1))&&Dq (m.map (·.2))) (K ⟨lk (ls.map fun i=>(i,Aci m (s2.tm i))),Bz (Ls m s2.hp m)⟩)
def Jh (N L:Nat)(s:St)(K:St->Option R):Option R:=ZK N (Kx L N) false s K
def SY (N L:Nat)(s:St)(K:St->Option R):Option R:=ZK N (Kx L N) true s K
def QL (F:(St->Option R)->St->Option R) (nm:St->(St->Option R)->Option R):Nat->St->Option R
 |0,_=>none
 |n+1,s=>F (fun s'=>nm s' (QL F nm n)) s
def HE (n:Nat)(F:St->Option R)(s:St):Option R:=
 match n with
 |0=>none
 |_+1=>F s
noncomputable def Ae3 (s:St)(c:Operand)(kt kf:St->Option R):Option R:=
 match c with
 |.tmp d=>
  match s.tm d with
  |.sc (.bool b)=>Bc b (kt ⟨Ch s.tm d (.sc (.bool true)),s.hp⟩) (kf ⟨Ch s.tm d (.sc (.bool false)),s.hp⟩)
  |.ub=>U9 (kt s) (kf s)
  |_=>none
 |.const (.bool true)=>kt s
 |.const (.bool false)=>kf s
 |_=>none
noncomputable def I7 (C:Gi)(P:Program)(fu N:Nat)(call:Ah):Code->Nat->(Nat->Nat)->Nat->(St->Option R)->(Nat->St->Option R)->(St->Option R)->St->Option R
 |.skip,_,_,_,kn,_,_,s=>kn s
 |.region _ ops draw,_,_,_,kn,_,_,s=>JO (draw && !FH C P ops) (Ao (ER C P ops) (Ad5 (CH C P ops (Hs ops.toList [])) fun sm=>Hk C P N call ops sm [] (List.range ops.size) s kn)) (JO draw (Mq C P N call ops ops.toList s kn) (Li C P N call ops ops.toList s kn))
 |.seq a b,ln,lx,lr,kn,kx,kr,s=>I7 C P fu N call a (Oc b ln lx lr) lx lr (fun s'=>JO (YE P a b) (JO (Xm a b) (SY N (Oc b ln lx lr) s' (HE fu fun s''=>I7 C P fu N call b ln lx lr kn kx kr s'')) (Jh N (Oc b ln lx lr) s' (HE fu fun s''=>I7 C P fu N call b ln lx lr kn kx kr s''))) (I7 C P fu N call b ln lx lr kn kx kr s')) kx kr s
 |.cond c a b,ln,lx,lr,kn,kx,kr,s=>Ae3 s c (I7 C P fu N call a ln lx lr kn kx kr) (I7 C P fu N call b ln lx lr kn kx kr)
 |.block id c,ln,lx,lr,kn,kx,kr,s=>I7 C P fu N call c ln (fun j=>bif Nat.beq j id then ln else lx j) lr kn (fun j s'=>bif Nat.beq j id then kn s' else kx j s') kr s
 |.loop c,ln,lx,lr,_,kx,kr,s=>
  Jh N (Oc (.loop c) ln lx lr) s (QL (fun k s'=>I7 C P fu N call c (Oc (.loop c) ln lx lr) lx lr k kx kr s') (Jh N (Oc (.loop c) ln lx lr)) fu)
 |.exit id,_,_,_,_,kx,_,s=>kx id s
 |.ret,_,_,_,_,_,kr,s=>kr s
 |_,_,_,_,_,_,_,_=>none
def Adq (id:Nat)(t:CT)(p:PV)(K:PV->List (Nat × Bj)->Option R):Option R:=
 match t with
 |.sl es=>
  match p with
  |.own es' n c=>bif Nat.beq es' es then K (.view id es 0 n) [(id,.ar false c)] else none
  |p=>Gk es p fun z n c=>K (.lst z es n c) []
 |t=>AY t p fun c=>K c []
def BK (N:Nat):Nat->List CT->List PV->(List PV->List (Nat × Bj)->Option R)->Option R
 |_,[],ps,K=>Ac ps (K [] [])
 |id,t::ts,ps,K=>Ab ps fun p ps=>Adq id t p fun c b=>BK N (id+N) ts ps fun cs bs=>K (c::cs) (b++bs)
def inK (P:Program)(N i:Nat)(t:TypeId)(p:PV)(K:PV->List (Nat × Bj)->Option R):Option R:=
 match Yq P t with
 |some e=>Vb p fun ps=>Ao (Nat.blt i 8) (BK N (Cm N i+N) (Hl P e) ps fun cs bs=>K (.ptr (Cm N i) 0) ((Cm N i,.st cs)::bs))
 |none=>
  match p with
  |.tup ps=>D3 (Alf P t) fun e=>Ao (Nat.blt i 8) (Ab ps fun q r=>Ac r (Eg (Bf P e) q fun n c=>K (.view (Cm N i) (Bf P e) 0 n) [(Cm N i,.ar false c)]))
  |p=>
   bif Ck P t then Ez p fun ps=>BK N (i+N) (Hl P t) ps fun cs bs=>K (.agg cs) bs
   else BK N (i+N) (Hl P t) [p] fun cs bs=>Ab cs fun c r=>Ac r (K c bs)
def Acl (P:Program)(N:Nat):Nat->List TypeId->List PV->(List (Nat × PV)->List (Nat × Bj)->Option R)->Option R
 |_,[],ps,K=>Ac ps (K [] [])
 |i,t::ts,ps,K=>Ab ps fun p ps=>inK P N i t p fun v bs=>Acl P N (i+1) ts ps fun vs bs'=>K ((i,v)::vs) (bs++bs')
def Aiw (hp:Nat->Option Bj)(t:CT)(p:PV)(K:PV->List Nat->List Nat->Option R):Option R:=
  match t with
  |.sl es=>
    match p with
    |.view id es' off n=>bif Nat.beq es' es&&Nat.beq off 0 then
        (match hp id with
         |some (.ar false c)=>Ao (decide (n*es<=c.length)) (K (.own es n (c.take (n*es))) [id] [])
         |_=>none) else none
    |p=>Gk es p fun z _ _=>Ao z (K (.own es 0 []) [] [])
  |t=>AY t p fun c=>K c [] []
def ZQ (shr:Bool)(hp:Nat->Option Bj)(t:CT)(p:PV)(K:PV->List Nat->List Nat->Option R):Option R:=
 bif shr then Od (I5 hp) t p fun c m=>K c [] m else Aiw hp t p K
def AD (shr:Bool)(hp:Nat->Option Bj):List CT->List PV->(List PV->List Nat->List Nat->Option R)->Option R
 |[],[],K=>K [] [] []
 |t::ts,p::ps,K=>ZQ shr hp t p fun c m z=>AD shr hp ts ps fun cs ms zs=>K (c::cs) (m++ms) (z++zs)
 |_,_,_=>none
def Agd (P:Program)(shr:Bool)(hp:Nat->Option Bj)(t:TypeId)(p:PV)(K:PV->List Nat->List Nat->Option R):Option R:=
 match Yq P t with
 |some e=>
  match p with
  |.ptr id off=>
   match hp id with
   |some (.st c)=>Ao (Nat.beq off 0) (AD shr hp (Hl P e) c fun cs m z=>K (.pbox cs) (id::m) z)
   |_=>none
  |_=>none
 |none=>
  bif Ck P t then Ez p fun ps=>AD shr hp (Hl P t) ps fun cs m z=>K (.agg cs) m z
  else AD shr hp (Hl P t) [p] fun cs m z=>Ab cs fun c r=>Ac r (K c m z)
def Agc (P:Program)(s:St)(r:ResultVar)(K:PV->Option R):Option R:=
 match r with
 |.tmp t=>K (s.tm t)
 |.cell a t=>Xf P (rd s.hp) (I5 s.hp) t (s.tm a) K
def NR (P:Program)(shr:Bool)(s:St):List ResultVar->List TypeId->(List PV->List Nat->List Nat->Option R)->Option R
 |[],[],K=>K [] [] []
 |r::rs,t::ts,K=>Agc P s r fun p=>Agd P shr s.hp t p fun v m z=>NR P shr s rs ts fun vs ms zs=>K (v::vs) (m++ms) (z++zs)
 |_,_,_=>none
def EH (hp:Nat->Option Bj):List CT->List PV->List PV->(List PV->List Nat->List Nat->Option R)->Option R
 |[],[],[],K=>K [] [] []
 |t::ts,w::ws,p::ps,K=>ZQ (match w with | .own _ _ _=>false|_=>true) hp t p fun c m z=>EH hp ts ws ps fun cs ms zs=>K (c::cs) (m++ms) (z++zs)
 |_,_,_,_=>none
def Zv (P:Program)(N:Nat)(hp:Nat->Option Bj):Nat->List TypeId->List PV->(List (List PV)->List Nat->List Nat->List Nat->Option R)->Option R
 |_,[],ps,K=>Ac ps (K [] [] [] [])
 |i,t::ts,ps,K=>Ab ps fun p ps=>
  match p with
  |.pbox ws=>D3 (Yq P t) fun e=>
    match hp (Cm N i) with
    |some (.st c)=>EH hp (Hl P e) ws c fun cs m z=>Zv P N hp (i+1) ts ps fun r m' z' q=>K (cs::r) (m++m') (z++z') (Cm N i::q)
    |_=>none
  |.tup _=>
    match hp (Cm N i) with
    |some (.ar false c)=>Zv P N hp (i+1) ts ps fun r m' z' q=>K (c::r) m' z' (Cm N i::q)
    |_=>none
  |_=>Zv P N hp (i+1) ts ps K
def YS (rs:List ResultVar):Nat:=rs.foldl (fun m r=>match r with | .tmp t=>Ac6 m t | .cell a _=>Ac6 m a) 0
end
def EU (P:Program):Nat->List TypeId->Nat->Nat
 |_,[],m=>m
 |i,t::ts,m=>EU P (i+1) ts (match P.underlying t with|some (.pointer _)=>Ac6 m i|_=>m)
def US (C:Gi)(P:Program)(f:FuncId)(fn:Func)(args:List PV)(s:St):Option Aw:=
 NR P (C.shr f) s fn.results.toList fn.resultTypes.toList fun vs m z=>Zv P fn.ntmps s.hp 0 fn.params.toList args fun os m' z' q=>
  Ao (Dq ((m++m')++q)&&(z++z').all (fun i=> !(((m++m')++q).any (Nat.beq i)))) (some ⟨vs,os⟩)
noncomputable def Agp (C:Gi)(P:Program)(fu:Nat)(call:Ah)(f:FuncId)(fn:Func)(c:Code)(args:List PV):Option Aw:=
  Acl P fn.ntmps 0 fn.params.toList args fun tms bs=>Ao (Nat.ble args.length fn.ntmps&&Bq (fun _=>none) bs)
    (let lr:=EU P 0 fn.params.toList (YS fn.results.toList)
     I7 C P fu fn.ntmps call c lr (fun _=>0) lr (US C P f fn args) (fun _ _=>none) (US C P f fn args) ⟨lk tms,Bz bs⟩)
noncomputable def Ae (C:Gi)(P:Program)(fu:Nat):Nat->FuncId->List PV->Option Aw
 |0,_,_=>none
 |d+1,f,args=>
  match C.ext f with
  |some g=>g args
  |none=>
   match P.funcs[f]? with
   |none=>none
   |some fn=>match fn.body with
    |none=>none
    |some c=>Agp C.core P fu (Ae C P fu d) f fn c args
inductive Dir where
 |l
 |r
 |i (m:Nat)
section
variable {R:Type}
noncomputable def Wn (C:Gi)(P:Program)(fu N:Nat)(call:Ah):List Dir->Code->Nat->(Nat->Nat)->Nat->(St->Option R)->(Nat->St->Option R)->(St->Option R)->Nat->St->Option R
 |[],.seq _ b,ln,lx,lr,kn,kx,kr,n,s=>HE n (fun s''=>I7 C P fu N call b ln lx lr kn kx kr s'') s
 |[],.loop c,ln,lx,lr,_,kx,kr,n,s=>QL (fun k s'=>I7 C P fu N call c (Oc (.loop c) ln lx lr) lx lr k kx kr s') (Jh N (Oc (.loop c) ln lx lr)) n s
 |.l::p,.seq a b,ln,lx,lr,kn,kx,kr,n,s=>Wn C P fu N call p a (Oc b ln lx lr) lx lr (fun s'=>JO (YE P a b) (JO (Xm a b) (SY N (Oc b ln lx lr) s' (HE fu fun s''=>I7 C P fu N call b ln lx lr kn kx kr s'')) (Jh N (Oc b ln lx lr) s' (HE fu fun s''=>I7 C P fu N call b ln lx lr kn kx kr s''))) (I7 C P fu N call b ln lx lr kn kx kr s')) kx kr n s
 |.r::p,.seq _ b,ln,lx,lr,kn,kx,kr,n,s=>Wn C P fu N call p b ln lx lr kn kx kr n s
 |.l::p,.cond _ a _,ln,lx,lr,kn,kx,kr,n,s=>Wn C P fu N call p a ln lx lr kn kx kr n s
 |.r::p,.cond _ _ b,ln,lx,lr,kn,kx,kr,n,s=>Wn C P fu N call p b ln lx lr kn kx kr n s
 |.l::p,.block id c,ln,lx,lr,kn,kx,kr,n,s=>Wn C P fu N call p c ln (fun j=>bif Nat.beq j id then ln else lx j) lr kn (fun j s'=>bif Nat.beq j id then kn s' else kx j s') kr n s
 |.i m::p,.loop c,ln,lx,lr,_,kx,kr,n,s=>
  Wn C P fu N call p c (Oc (.loop c) ln lx lr) lx lr
   (fun s'=>Jh N (Oc (.loop c) ln lx lr) s' (QL (fun k s'=>I7 C P fu N call c (Oc (.loop c) ln lx lr) lx lr k kx kr s') (Jh N (Oc (.loop c) ln lx lr)) m)) kx kr n s
 |_,_,_,_,_,_,_,_,_,_=>none
end
noncomputable def Dd (C:Gi)(P:Program)(fu:Nat)(call:Ah)(f:FuncId)(fn:Func)(c:Code)(args:List PV)(p:List Dir)(n:Nat)(s:St):Option Aw:=
 let lr:=EU P 0 fn.params.toList (YS fn.results.toList)
 Wn C P fu fn.ntmps call p c lr (fun _=>0) lr (US C P f fn args) (fun _ _=>none) (US C P f fn args) n s
def Ahb:List Nat:=[
 1000000]
def Ajv:List Nat:=[
 5,
 10,
 6,
 15,
 1000000]
def Aj1:List Nat:=[
 1000000]
def Ajl:List Nat:=[
 62,
 78,
 60,
 44,
 80,
 64,
 65,
 82,
 77,
 45,
 63,
 1000000]
def EV (args:List PV):Option Aw:=
 match args with
 |[.sc (.string s)]=>bif decide (s.size<=9223372036854775807) then some ⟨[.sc (.bool (Lib.validD s.data.toList))],[]⟩ else none
 |_=>none
def Tv (args:List PV):Option Aw:=
  match args with
  |[.lst _ 1 n c,.lst _ 1 m c']=>bif Nat.beq c.length n&&Nat.beq c'.length m then
      (match bytesOf c,bytesOf c' with
       |some a,some b=>some ⟨[.sc (.int .i64 (Lib.compareBytes a b))],[]⟩
       |_,_=>none) else none
  |_=>none
def Xk:List Nat:=[
 83,
 43,
 68,
 69,
 67,
 49,
 28,
 70,
 90,
 88,
 85,
 75,
 84,
 76,
 50,
 51,
 71,
 66,
 52,
 54,
 31,
 29,
 30,
 46,
 55,
 36,
 22,
 19,
 23,
 48,
 1000000]
def CB:Gi:=⟨fun f=>Ajv.any (Nat.beq f),fun f i=>Nat.beq i 0&&Ajl.any (Nat.beq f),fun f i=>Nat.beq i 0&&Aj1.any (Nat.beq f),fun f=>Ahb.any (Nat.beq f),fun _=>none⟩
def CX (xs:FuncId->Option (List PV->Option Aw)):Gi:={ CB with ext:=fun f=>bif Xk.any (Nat.beq f) then none else xs f }
def B9 (f:Func):Code:=match f.body with|some c=>c|none=>.skip
section
variable {R:Type} {r:Option R}
theorem A4 {k:IntKind}{p:PV}{K:Int->Option R}{n:Int}(h:p=.sc (.int k n)) (hk:K n=r):Ad k p K=r:=by
 subst h;unfold Ad;simp [hk]
theorem Apl {p:PV}{K:IntKind->Int->Option R}{k:IntKind}{n:Int}(h:p=.sc (.int k n)) (hk:K k n=r):C8 p K=r:=by
 subst h;exact hk
theorem A6 {p:PV}{K:Bool->Option R}{b:Bool}(h:p=.sc (.bool b)) (hk:K b=r):Bn p K=r:=by
 subst h;exact hk
theorem Bb {p:PV}{K:ByteArray->Option R}{s:ByteArray}(h:p=.sc (.string s)) (hk:K s=r):Dp p K=r:=by
 subst h;exact hk
theorem Cg {es:Nat}{p:PV}{K:Bool->Nat->List PV->Option R}{z:Bool}{n:Nat}{c:List PV}(h:p=.lst z es n c)(hk:K z n c=r):Gk es p K=r:=by
 subst h;unfold Gk;simp [Nat.beq_refl,hk]
theorem Bl {es:Nat}{p:PV}{K:Nat->List PV->Option R}{n:Nat}{c:List PV}(h:p=.own es n c)(hk:K n c=r):Eg es p K=r:=by
 subst h;unfold Eg;simp [Nat.beq_refl,hk]
theorem A0 {b:Bool}{K:Option R}(h:b=true)(hk:K=r):Ao b K=r:=by
 subst h;exact hk
theorem Afn {b:Bool}{x y:Option R}(hx:b=true->x=r)(hy:b=false->y=r):Bc b x y=r:=by
 cases b
 ·exact hy rfl
 ·exact hx rfl
theorem A3 {b:Bool}{x y:Option R}(h:b=true)(hx:x=r):Bc b x y=r:=by
 subst h;exact hx
theorem Az {b:Bool}{x y:Option R}(h:b=false)(hx:y=r):Bc b x y=r:=by
 subst h;exact hx
theorem D8 {α:Type}{o:Option α}{K:α->Option R}{a:α}(h:o=some a)(hk:K a=r):D3 o K=r:=by
 subst h;exact hk
theorem Ar {α:Type}{l:List α}{K:α->List α->Option R}{a:α}{t:List α}(h:l=a::t)(hk:K a t=r):Ab l K=r:=by
 subst h;exact hk
theorem Ay {α:Type}{l:List α}{K:Option R}(h:l=[]) (hk:K=r):Ac l K=r:=by
 subst h;exact hk
theorem C5 {p:PV}{K:List PV->Option R}{c:List PV}(h:p=.agg c)(hk:K c=r):Ez p K=r:=by
 subst h;exact hk
theorem X6 {p:PV}{K:List PV->Option R}{c:List PV}(h:p=.pbox c)(hk:K c=r):Vb p K=r:=by
 subst h;exact hk
theorem As {o:Option Aw}{K:List PV->List (List PV)->Option R} {v:List PV}{q:List (List PV)} (h:o=some ⟨v,q⟩)(hk:K v q=r):Ai o K=r:=by
 subst h;exact hk
theorem OL {x y:Option R}(hx:x=r)(hy:y=r):U9 x y=r:=by subst hx;subst hy;unfold U9;simp
end
theorem DU (a b:Int):(a != b)=decide (a≠b):=by by_cases h:a=b<;>simp [h,bne]
theorem Abe (a b:Int):(a==b)=decide (a=b):=by by_cases h:a=b<;>simp [h]
section
variable {R:Type}
theorem YY (v:List PV)(o:List (List PV)) (K:List PV->List (List PV)->Option R):Ai (some ⟨v,o⟩) K=K v o:=by exact id rfl
theorem Aep {α:Type}(K:Option R):Ac ([]:List α) K=K:=by exact id rfl
theorem YQ {α:Type}(a:α)(r:List α)(K:α->List α->Option R):Ab (a::r) K=K a r:=by exact id rfl
theorem ZZ (b:Bool)(K:Bool->Option R):Bn (.sc (.bool b)) K=K b:=by exact id rfl
theorem Adv (s:ByteArray)(K:ByteArray->Option R):Dp (.sc (.string s)) K=K s:=by exact id rfl
theorem NO (k:IntKind)(n:Int)(K:Int->Option R):Ad k (.sc (.int k n)) K=K n:=by unfold Ad;simp
theorem Ae0 (k:IntKind)(n:Int)(K:IntKind->Int->Option R):C8 (.sc (.int k n)) K=K k n:=by exact id rfl
theorem Ai0 (z:Bool)(es n:Nat)(c:List PV)(K:Bool->Nat->List PV->Option R):Gk es (.lst z es n c) K=K z n c:=by unfold Gk;simp
theorem Ait (es n:Nat)(c:List PV)(K:Nat->List PV->Option R):Eg es (.own es n c) K=K n c:=by unfold Eg;simp
theorem Aft (c:List PV)(K:List PV->Option R):Ez (.agg c) K=K c:=by exact id rfl
theorem ZN (c:List PV)(K:List PV->Option R):Vb (.pbox c) K=K c:=by exact id rfl
theorem Af2 {α:Type}(a:α)(K:α->Option R):D3 (some a) K=K a:=by exact id rfl
theorem F9 {α:Type}(a:α)(K:α->Option R):Aa a K=K a:=by exact id rfl
theorem Adf (K:Option R):Ao true K=K:=by exact id rfl
theorem PE (p:Prop) [Decidable p] (K:Option R)(h:p):Ao (decide p) K=K:=by simp [Ao,h]
theorem ZS (b c:Bool)(K:Option R):Ao (b&&c) K=Ao b (Ao c K):=by cases b<;>rfl
theorem VD (x y:Option R):Bc true x y=x:=by exact id rfl
theorem UM (x y:Option R):Bc false x y=y:=by exact id rfl
theorem GB (p:Prop) [Decidable p] (x y:Option R)(h:p):Bc (decide p) x y=x:=by simp [Bc,h]
theorem Dx (p:Prop) [Decidable p] (x y:Option R)(h:¬p):Bc (decide p) x y=y:=by simp [Bc,h]
theorem Z5 (p:Prop) [Decidable p] (x y:Option R):Bc (decide p) x y=if p then x else y:=by by_cases h:p<;>simp [Bc,h]
theorem Iv (a b:Int)(x y:Option R):Bc (a==b) x y=if a=b then x else y:=by
 rw [Abe,Z5]
theorem Ex (a b:Int)(x y:Option R):Bc (a != b) x y=if a=b then y else x:=by
 rw [DU,Z5];by_cases h:a=b<;>simp [h]
theorem YO (x:Option R):U9 x x=x:=by unfold U9;simp
end
theorem Aj {x:Int}(h1: -9223372036854775808<=x)(h2:x<=9223372036854775807):IntKind.wrap .i64 x=x:=by
 have:=IntWalk.i64_in x (by omega)
 exact this
theorem Dc {x:Int}(h1:0<=x)(h2:x<=18446744073709551615):IntKind.wrap .u64 x=x:=by
 simp only [IntKind.wrap,IntKind.signed,IntKind.bits];simp;omega
theorem Hu {x:Int}(h1:0<=x)(h2:x<=255):IntKind.wrap .u8 x=x:=by
 simp only [IntKind.wrap,IntKind.signed,IntKind.bits];simp;omega
theorem Ba (x:Int):0<=IntKind.wrap .u64 x∧IntKind.wrap .u64 x<=18446744073709551615:=by
 simp only [IntKind.wrap,IntKind.signed,IntKind.bits];simp;omega
theorem Co {α:Type}{l r:List α}{x:α}{i:Nat}(h:l.drop i=x::r):i<l.length∧l[i]?=some x∧l.drop (i+1)=r:=by
 have h1:i<l.length:=by
  rcases Nat.lt_or_ge i l.length with h1|h1
  ·exact h1
  ·rw [List.drop_of_length_le h1] at h;cases h
 rw [List.drop_eq_getElem_cons h1] at h;injection h with h2 h3;exact ⟨h1,by rw [List.getElem?_eq_getElem h1,h2],h3⟩
theorem drop_nil {α:Type}{l:List α}{i:Nat}(h:l.drop i=[]):l.length<=i:=by
 have:=congrArg List.length h;simp at this;omega
section
variable {α:Type} {f:α->List PV} {k:Nat}
theorem PN (hf:∀x,(f x).length=k):∀(l:List α),(l.flatMap f).length=l.length*k
 |[]=>by simp
 |x::l=>by simp [hf x,PN hf l,Nat.succ_mul];omega
theorem PR (hf:∀x,(f x).length=k):∀(l:List α)(i:Nat),(l.flatMap f).drop (i*k)=(l.drop i).flatMap f
 |l,0=>by simp
 |[],i+1=>by simp
 |x::l,i+1=>by
  rw [List.flatMap_cons,Nat.succ_mul,Nat.add_comm,←List.drop_drop,List.drop_append_of_le_length (by rw [hf x];omega)]
  rw [show (f x).drop k=[] from List.drop_of_length_le (by rw [hf x];omega),List.nil_append]
  exact PR hf l i
theorem ZV (hf:∀x,(f x).length=k):∀(l:List α)(i:Nat),(l.flatMap f).take (i*k)=(l.take i).flatMap f
 |l,0=>by simp
 |[],i+1=>by simp
 |x::l,i+1=>by
  rw [List.flatMap_cons,Nat.succ_mul,Nat.add_comm,List.take_succ_cons,List.flatMap_cons,←ZV hf l i];rw [show k+i*k=(f x).length+i*k by rw [hf x],List.take_length_add_append]
theorem D6 (hf:∀x,(f x).length=k) {l:List α}{i:Nat}{x:α}(h:l[i]?=some x) {j:Nat}(hj:j<k):(l.flatMap f).getD (i*k+j) .top=(f x).getD j .top:=by
 have h1:((l.flatMap f).drop (i*k))[j]?=(l.flatMap f)[i*k+j]?:=List.getElem?_drop;rw [PR hf] at h1
 have h2:i<l.length:=by
  rcases Nat.lt_or_ge i l.length with h1|h1
  ·exact h1
  ·rw [List.getElem?_eq_none h1] at h;cases h
 rw [List.drop_eq_getElem_cons h2,List.flatMap_cons] at h1;have h3:l[i]=x:=by rw [List.getElem?_eq_getElem h2] at h;injection h
 rw [h3,List.getElem?_append_left (by rw [hf x];exact hj)] at h1
 simp only [List.getD_eq_getElem?_getD,←h1]
theorem Eu {c:List PV}{p:PV}{i:Nat}(h:i<c.length):Bd c [p] i=c.set i p:=by
 unfold Bd;rw [List.set_eq_take_append_cons_drop,if_pos h];simp
end
theorem Ai9 {α:Type}{l:List α}{i:Nat}{x:α}(h:l[i]?=some x):i<l.length:=by
 rcases Nat.lt_or_ge i l.length with h1|h1
 ·exact h1
 ·rw [List.getElem?_eq_none h1] at h;cases h
abbrev Akm (k:IntKind)(n:Int):List PV:=[.sc (.int k n)]
abbrev Ag (k:IntKind)(l:List Int):List PV:=l.flatMap (Akm k)
theorem Za (k:IntKind)(n:Int):(Akm k n).length=1:=rfl
theorem V5 {k:IntKind}{l:List Int}{i:Nat}{n:Int}(h:l[i]?=some n):(Ag k l).getD i .top=.sc (.int k n):=by
 have:=D6 (Za k) h (j:=0) (by omega)
 simpa using this
theorem Al (k:IntKind)(l:List Int):(Ag k l).length=l.length:=by rw [PN (Za k)];omega
theorem G5 (k:IntKind)(l:List Int)(n:Int):Ag k l++[.sc (.int k n)]=Ag k (l++[n]):=by simp
theorem Nz (k:IntKind)(l:List Int):List.take l.length (Ag k l)=Ag k l:=List.take_of_length_le (by rw [Al];omega)
theorem Ca:type_of% @YY∧type_of% @Aep∧type_of% @YQ∧type_of% @ZZ∧type_of% @Adv∧type_of% @NO∧type_of% @Ae0∧type_of% @Ai0∧type_of% @Ait∧type_of% @Aft∧type_of% @ZN∧type_of% @Af2∧type_of% @F9∧type_of% @Adf∧type_of% @PE∧type_of% @ZS∧type_of% @VD∧type_of% @UM∧type_of% @GB∧type_of% @Dx∧type_of% @YO∧type_of% @Bool.not_true∧type_of% @Bool.not_false∧type_of% @Bool.false_eq_true∧type_of% @if_true.{1}∧type_of% @if_false.{1}∧type_of% @Bool.true_and∧type_of% @Bool.and_true∧type_of% @Bool.false_and∧type_of% @Bool.and_false∧type_of% @decide_true∧type_of% @decide_false:=
 ⟨@YY,@Aep,@YQ,@ZZ,@Adv,@NO,@Ae0,@Ai0,@Ait,@Aft,@ZN,@Af2,@F9,@Adf,@PE,@ZS,@VD,@UM,@GB,@Dx,@YO,@Bool.not_true,@Bool.not_false,@Bool.false_eq_true,@if_true.{1},@if_false.{1},@Bool.true_and,@Bool.and_true,@Bool.false_and,@Bool.and_false,@decide_true,@decide_false⟩
theorem gT:type_of% @Bool.and_eq_true∧type_of% @decide_eq_true_eq∧type_of% @beq_iff_eq.{0}∧type_of% @bne_iff_ne.{0}∧type_of% @ne_eq.{1}∧type_of% @Bool.not_eq_true'∧type_of% @true_and∧type_of% @and_true:=
 ⟨@Bool.and_eq_true,@decide_eq_true_eq,@beq_iff_eq.{0},@bne_iff_ne.{0},@ne_eq.{1},@Bool.not_eq_true',@true_and,@and_true⟩
theorem gF:type_of% @decide_eq_false_iff_not∧type_of% @beq_eq_false_iff_ne.{0}∧type_of% @bne_eq_false_iff_eq.{0}∧type_of% @ne_eq.{1}∧type_of% @Bool.not_eq_false':=
 ⟨@decide_eq_false_iff_not,@beq_eq_false_iff_ne.{0},@bne_eq_false_iff_eq.{0},@ne_eq.{1},@Bool.not_eq_false'⟩
end
section
open Go.RowKit
def Bi {α β:Type}(R:α->β->Prop):List α->List β->Prop
 |[],[]=>True
 |a::zs,b::bs=>R a b∧Bi R zs bs
 |_,_=>False
section
variable {α β γ:Type} {R S:α->β->Prop}
theorem Bi.len:∀{zs:List α}{bs:List β},Bi R zs bs->zs.length=bs.length
 |[],[],_=>rfl
 |_::_,_::_,h=>by simp [Bi.len h.2]
 |[],_::_,h=>h.elim
 |_::_,[],h=>h.elim
theorem Bi.at_:∀{zs:List α}{bs:List β},Bi R zs bs->∀{i:Nat} {a b},zs[i]?=some a->bs[i]?=some b->R a b
 |[],[],_,i,a,b,h,_=>by simp at h
 |_::_,_::_,h,0,a,b,ha,hb=>by simp at ha hb;subst ha;subst hb;exact h.1
 |_::_,_::_,h,i+1,a,b,ha,hb=>by simp at ha hb;exact Bi.at_ h.2 ha hb
 |[],_::_,h,_,_,_,_,_=>h.elim
 |_::_,[],h,_,_,_,_,_=>h.elim
theorem Bi.of_at:∀{zs:List α}{bs:List β},zs.length=bs.length->(∀(i:Nat) a b,zs[i]?=some a->bs[i]?=some b->R a b)->Bi R zs bs
 |[],[],_,_=>trivial
 |a::zs,b::bs,hl,h=>⟨h 0 a b rfl rfl,Bi.of_at (by simpa using hl) fun i x y hx hy=>h (i+1) x y hx hy⟩
 |[],_::_,hl,_=>by simp at hl
 |_::_,[],hl,_=>by simp at hl
theorem Bi.mono (hRS:∀a b,R a b->S a b):∀{zs:List α}{bs:List β},Bi R zs bs->Bi S zs bs
 |[],[],_=>trivial
 |_::_,_::_,h=>⟨hRS _ _ h.1,Bi.mono hRS h.2⟩
 |[],_::_,h=>h.elim
 |_::_,[],h=>h.elim
theorem Bi.mono_mem:∀{zs:List α}{bs:List β},(∀a∈zs,∀b,R a b->S a b)->Bi R zs bs->Bi S zs bs
 |[],[],_,_=>trivial
 |a::_,_::_,hRS,h=>⟨hRS a (by simp) _ h.1,Bi.mono_mem (fun x hx=>hRS x (by simp [hx])) h.2⟩
 |[],_::_,_,h=>h.elim
 |_::_,[],_,h=>h.elim
theorem Bi.app:∀{zs:List α}{bs:List β}{as':List α}{bs':List β},Bi R zs bs->Bi R as' bs'->Bi R (zs++as') (bs++bs')
 |[],[],_,_,_,h'=>h'
 |_::_,_::_,_,_,h,h'=>⟨h.1,Bi.app h.2 h'⟩
 |[],_::_,_,_,h,_=>h.elim
 |_::_,[],_,_,h,_=>h.elim
theorem Bi.take:∀(n:Nat){zs:List α}{bs:List β},Bi R zs bs->Bi R (zs.take n) (bs.take n)
 |0,_,_,_=>by simp [Bi]
 |_+1,[],[],_=>trivial
 |n+1,_::_,_::_,h=>⟨h.1,Bi.take n h.2⟩
 |_+1,[],_::_,h=>h.elim
 |_+1,_::_,[],h=>h.elim
theorem Bi.drop:∀(n:Nat){zs:List α}{bs:List β},Bi R zs bs->Bi R (zs.drop n) (bs.drop n)
 |0,_,_,h=>h
 |_+1,[],[],_=>trivial
 |n+1,_::_,_::_,h=>Bi.drop n h.2
 |_+1,[],_::_,h=>h.elim
 |_+1,_::_,[],h=>h.elim
end
inductive Av (w:World) (A:Nat->Prop):PV->Value->Prop where
 |sc (v:Value):Av w A (.sc v) v
 |top (v:Value):Av w A .top v
 |ub (b:Bool):Av w A .ub (.bool b)
 |lnil (z:Bool) (es:Nat):Av w A (.lst z es 0 []) (.slice none 0 0)
 |lemp (es:Nat) (a:Addr) (cap:Nat):Av w A (.lst false es 0 []) (.slice (some a) 0 cap)
 |lst (es n:Nat) (cells:List PV) (a:Addr) (cap:Nat) (f:Nat->Value) (hs:a.spot=none) (hb:a.block<w.heap.size) (hA:¬A a.block) (hn:n<=cap)
   (hc:∀j c,cells[j]?=some c->w.cell? (a.add j)=some (f j)) (h1:∀j c,cells[j]?=some c->(f j).oneCell'=true) (hr:∀j c,cells[j]?=some c->Av w A c (f j)):Av w A (.lst false es n cells) (.slice (some a) n cap)
def bsz (w:World)(b:Nat):Nat:=
 match w.heap[b]? with
 |some (.cells c _ _)=>c.size
 |_=>0
def LO (w:World)(A:Nat->Prop)(a:Addr)(cells:List PV):Prop:=∀j c,cells[j]?=some c->∃v,w.cell? (a.add j)=some v∧v.oneCell'=true∧Av w A c v
def Bx (w:World)(A:Nat->Prop)(β:Nat->Option (Nat × Nat)) (p:PV)(v:Value):Prop:=
 match p with
 |.view id es off n=>(β id=none∧off=0∧n=0∧v=.slice none 0 0) ∨
   ∃b o x cap,β id=some (b,o)∧v=.slice (some ⟨b,x,none⟩) n cap∧(x=o+off∨(n=0∧off≠0))∧n<=cap∧x+cap*es<=bsz w b∧b<w.heap.size
 |.ptr id off=>∃b o,β id=some (b,o)∧v=.pointer (some ⟨b,o+off,none⟩)
 |.iptr c off=>∃a:Addr,v=.pointer (some (a.add off))∧a.spot=none∧a.block<w.heap.size∧¬A a.block∧LO w A a c
 |p=>Av w A p v
def Fs (w:World)(A:Nat->Prop)(β:Nat->Option (Nat × Nat)) (p:PV)(v:Value):Prop:=
 match p with
 |.agg cs=>∃vs,v=.agg ⟨vs⟩∧Bi (Bx w A β) cs vs
 |p=>Bx w A β p v
def C9 (w:World)(A:Nat->Prop)(β:Nat->Option (Nat × Nat)) (p:PV)(v:Value):Prop:=
 match p with
 |.tup ps=>∃vs,v=.tuple ⟨vs⟩∧Bi (Fs w A β) ps vs
 |p=>Fs w A β p v
structure Bv (A:Nat->Prop) (w w':World):Prop where
 size:w.heap.size<=w'.heap.size
 keep:∀b,b<w.heap.size->¬A b->w'.heap[b]?=w.heap[b]?
 bs:∀b,b<w.heap.size->bsz w b<=bsz w' b
theorem E2 (a:Addr)(j:Nat):(a.add j).block=a.block:=by unfold Addr.add;split<;>rfl
theorem add_add (a:Addr)(i j:Nat):(a.add i).add j=a.add (i+j):=by
 unfold Addr.add;by_cases hi:i=0<;>by_cases hj:j=0<;>simp [hi,hj,Nat.add_assoc]
theorem Df (b o j:Nat):(⟨b,o,none⟩:Addr).add j=⟨b,o+j,none⟩:=by
 unfold Addr.add;by_cases hj:j=0<;>simp [hj]
theorem Aeq {a:Addr}(h:a.spot=none)(j:Nat):(a.add j).spot=none:=by unfold Addr.add;split<;>simp [h]
section
variable {w w':World} {A A':Nat->Prop} {β β':Nat->Option (Nat × Nat)}
theorem Bv.cell (h:Bv A w w'){a:Addr}(hb:a.block<w.heap.size)(hA:¬A a.block):w'.cell? a=w.cell? a:=
 World.cell?_of_block (h.keep a.block hb hA)
theorem Av.step (h:Bv A w w')(hA:∀b,b<w.heap.size->A' b->A b){p:PV}{v:Value}(t:Av w A p v):Av w' A' p v:=by
 induction t with
 |sc v=>exact .sc v
 |top v=>exact .top v
 |ub b=>exact .ub b
 |lnil z es=>exact .lnil z es
 |lemp es a cap=>exact .lemp es a cap
 |lst es n cells a cap f hs hb hA1 hn hc h1 hr ih=>
  refine .lst es n cells a cap f hs (Nat.lt_of_lt_of_le hb h.size) (fun x=>hA1 (hA _ hb x)) hn (fun j c hj=>?_) h1 (fun j c hj=>ih j c hj)
  rw [h.cell (by rw [E2];exact hb) (by rw [E2];exact hA1)]
  exact hc j c hj
theorem LO.step (h:Bv A w w')(hA:∀b,b<w.heap.size->A' b->A b){a:Addr}(hb:a.block<w.heap.size)(hn:¬A a.block){cells:List PV}(t:LO w A a cells):LO w' A' a cells:=by
 intro j c hj;obtain ⟨v,hv,h1,ht⟩:=t j c hj;exact ⟨v,by rw [h.cell (by rw [E2];exact hb) (by rw [E2];exact hn)];exact hv,h1,ht.step h hA⟩
theorem Bx.step (h:Bv A w w')(hA:∀b,b<w.heap.size->A' b->A b){p:PV}{v:Value}(hβ:∀id∈Aq p,β' id=β id)(t:Bx w A β p v):Bx w' A' β' p v:=by
 cases p with
 |view id es off n=>
  have e:=hβ id (by simp [Aq])
  rcases t with ⟨h1,h2,h3,h4⟩|⟨b,o,x,cap,h1,h2,hx,h3,h4,h5⟩
  ·exact .inl ⟨by rw [e];exact h1,h2,h3,h4⟩
  ·exact .inr ⟨b,o,x,cap,by rw [e];exact h1,h2,hx,h3,Nat.le_trans h4 (h.bs b h5),Nat.lt_of_lt_of_le h5 h.size⟩
 |ptr id off=>
  have e:=hβ id (by simp [Aq])
  obtain ⟨b,o,h1,h2⟩:=t;exact ⟨b,o,by rw [e];exact h1,h2⟩
 |iptr c off=>
  obtain ⟨a,h1,h2,h3,h4,h5⟩:=t;exact ⟨a,h1,h2,Nat.lt_of_lt_of_le h3 h.size,fun x=>h4 (hA _ h3 x),h5.step h hA h3 h4⟩
 |sc v=>exact Av.step h hA t
 |lst z es n c=>exact Av.step h hA t
 |own es n c=>exact Av.step h hA t
 |pbox c=>exact Av.step h hA t
 |agg c=>exact Av.step h hA t
 |tup c=>exact Av.step h hA t
 |top=>exact Av.step h hA t
 |ub=>exact Av.step h hA t
theorem Fs.step (h:Bv A w w')(hA:∀b,b<w.heap.size->A' b->A b){p:PV}{v:Value}(hβ:∀id∈B3 p,β' id=β id)(t:Fs w A β p v):Fs w' A' β' p v:=by
 cases p with
 |agg cs=>
  obtain ⟨vs,rfl,h2⟩:=t;exact ⟨vs,rfl,h2.mono_mem fun c hc v hv=>hv.step h hA fun id hid=>hβ id (by simp only [B3,List.mem_flatMap];exact ⟨c,hc,hid⟩)⟩
 |sc x=>exact Bx.step (p:=.sc x) h hA hβ t
 |lst x y z u=>exact Bx.step (p:=.lst x y z u) h hA hβ t
 |own x y z=>exact Bx.step (p:=.own x y z) h hA hβ t
 |view x y z u=>exact Bx.step (p:=.view x y z u) h hA hβ t
 |ptr x y=>exact Bx.step (p:=.ptr x y) h hA hβ t
 |iptr x y=>exact Bx.step (p:=.iptr x y) h hA hβ t
 |pbox x=>exact Bx.step (p:=.pbox x) h hA hβ t
 |tup x=>exact Bx.step (p:=.tup x) h hA hβ t
 |top=>exact Bx.step (p:=.top) h hA hβ t
 |ub=>exact Bx.step (p:=.ub) h hA hβ t
theorem C9.step (h:Bv A w w')(hA:∀b,b<w.heap.size->A' b->A b){p:PV}{v:Value}(hβ:∀id∈Bo p,β' id=β id)(t:C9 w A β p v):C9 w' A' β' p v:=by
 cases p with
 |tup cs=>
  obtain ⟨vs,rfl,h2⟩:=t;exact ⟨vs,rfl,h2.mono_mem fun c hc v hv=>hv.step h hA fun id hid=>hβ id (by simp only [Bo,List.mem_flatMap];exact ⟨c,hc,hid⟩)⟩
 |sc x=>exact Fs.step (p:=.sc x) h hA hβ t
 |lst x y z u=>exact Fs.step (p:=.lst x y z u) h hA hβ t
 |own x y z=>exact Fs.step (p:=.own x y z) h hA hβ t
 |view x y z u=>exact Fs.step (p:=.view x y z u) h hA hβ t
 |ptr x y=>exact Fs.step (p:=.ptr x y) h hA hβ t
 |iptr x y=>exact Fs.step (p:=.iptr x y) h hA hβ t
 |pbox x=>exact Fs.step (p:=.pbox x) h hA hβ t
 |top=>exact Fs.step (p:=.top) h hA hβ t
 |ub=>exact Fs.step (p:=.ub) h hA hβ t
 |agg x=>exact Fs.step (p:=.agg x) h hA hβ t
theorem Bv.refl (A:Nat->Prop)(w:World):Bv A w w:=⟨Nat.le_refl _,fun _ _ _=>rfl,fun _ _=>Nat.le_refl _⟩
theorem LO.weak (hA:∀b,b<w.heap.size->A' b->A b){a:Addr}{cells:List PV}(t:LO w A a cells):LO w A' a cells:=by
 intro j c hj;obtain ⟨v,hv,h1,ht⟩:=t j c hj;exact ⟨v,hv,h1,ht.step (Bv.refl A w) hA⟩
theorem Bv.trans {w'':World}(h:Bv A w w')(h':Bv A' w' w'')(hA:∀b,b<w.heap.size->A' b->A b):Bv A w w'':=
  ⟨Nat.le_trans h.size h'.size,fun b hb hn=>(h'.keep b (Nat.lt_of_lt_of_le hb h.size) (fun x=>hn (hA b hb x))).trans (h.keep b hb hn),
   fun b hb=>Nat.le_trans (h.bs b hb) (h'.bs b (Nat.lt_of_lt_of_le hb h.size))⟩
theorem Bv.weaken (h:Bv A w w')(hA:∀b,b<w.heap.size->A b->A' b):Bv A' w w':=⟨h.size,fun b hb hn=>h.keep b hb (fun x=>hn (hA b hb x)),h.bs⟩
end
section
variable {R:Type} {r:R}
theorem Gs {k:IntKind}{p:PV}{K:Int->Option R}(h:Ad k p K=some r):∃n,p=.sc (.int k n)∧K n=some r:=by
 unfold Ad at h;split at h
 ·split at h
  ·rename_i hk;subst hk;exact ⟨_,rfl,h⟩
  ·cases h
 ·cases h
theorem Ft {p:PV}{K:Bool->Option R}(h:Bn p K=some r):∃b,p=.sc (.bool b)∧K b=some r:=by
 unfold Bn at h;split at h
 ·exact ⟨_,rfl,h⟩
 ·cases h
theorem Fb {p:PV}{K:ByteArray->Option R}(h:Dp p K=some r):∃b,p=.sc (.string b)∧K b=some r:=by
 unfold Dp at h;split at h
 ·exact ⟨_,rfl,h⟩
 ·cases h
theorem C1 {p:PV}{K:IntKind->Int->Option R}(h:C8 p K=some r):∃k n,p=.sc (.int k n)∧K k n=some r:=by
 unfold C8 at h;split at h
 ·exact ⟨_,_,rfl,h⟩
 ·cases h
theorem Am {b:Bool}{K:Option R}(h:Ao b K=some r):b=true∧K=some r:=by
 unfold Ao at h;cases b
 ·cases h
 ·exact ⟨rfl,h⟩
theorem Cs {α:Type}{o:Option α}{K:α->Option R}(h:D3 o K=some r):∃a,o=some a∧K a=some r:=by
 unfold D3 at h;split at h
 ·exact ⟨_,rfl,h⟩
 ·cases h
theorem A8 {α:Type}{l:List α}{K:α->List α->Option R}(h:Ab l K=some r):∃a t,l=a::t∧K a t=some r:=by
 unfold Ab at h;split at h
 ·exact ⟨_,_,rfl,h⟩
 ·cases h
theorem C7 {α:Type}{l:List α}{K:Option R}(h:Ac l K=some r):l=[]∧K=some r:=by
 unfold Ac at h;split at h
 ·exact ⟨rfl,h⟩
 ·cases h
theorem Gz {p:PV}{K:List PV->Option R}(h:Ez p K=some r):∃c,p=.agg c∧K c=some r:=by
 unfold Ez at h;split at h
 ·exact ⟨_,rfl,h⟩
 ·cases h
theorem MD {p:PV}{K:List PV->Option R}(h:Vb p K=some r):∃c,p=.pbox c∧K c=some r:=by
 unfold Vb at h;split at h
 ·exact ⟨_,rfl,h⟩
 ·cases h
theorem ON {p:PV}{K:Value->Option R}(h:fnK p K=some r):∃f a b,p=.sc (.func f a b)∧K (.func f a b)=some r:=by
 unfold fnK at h;split at h
 ·exact ⟨_,_,_,rfl,h⟩
 ·cases h
theorem Ah2 {p:PV}{K:FuncId->Option R}(h:fvK p K=some r):∃f,p=.sc (.func (.func f) #[] #[])∧K f=some r:=by
 unfold fvK at h;split at h
 ·rename_i f a b;cases hb:(a.isEmpty&&b.isEmpty)<;>rw [hb] at h
  ·cases h
  ·simp only [Bool.and_eq_true,Array.isEmpty_iff] at hb;rw [hb.1,hb.2];exact ⟨f,rfl,h⟩
 ·cases h
theorem LH {o:Option Aw}{K:List PV->List (List PV)->Option R} (h:Ai o K=some r):∃v x,o=some ⟨v,x⟩∧K v x=some r:=by
 unfold Ai at h;split at h
 ·exact ⟨_,_,rfl,h⟩
 ·cases h
theorem Ml {b:Bool}{x y:Option R}(h:Bc b x y=some r):(b=true∧x=some r)∨(b=false∧y=some r):=by
 unfold Bc at h;cases b
 ·exact .inr ⟨rfl,h⟩
 ·exact .inl ⟨rfl,h⟩
theorem Fi {es:Nat}{p:PV}{K:Bool->Nat->List PV->Option R}(h:Gk es p K=some r):
  ∃z n c,K z n c=some r∧(p=.lst z es n c∨(p=.sc (.slice none 0 0)∧z=true∧n=0∧c=[])):=by
 unfold Gk at h;split at h
 ·rename_i z es' n c;cases hb:Nat.beq es' es
  ·rw [hb] at h;cases h
  ·rw [hb] at h;have:=Nat.eq_of_beq_eq_true hb;subst this;exact ⟨z,n,c,h,.inl rfl⟩
 ·exact ⟨true,0,[],h,.inr ⟨rfl,rfl,rfl,rfl⟩⟩
 ·cases h
def Va:PV->Prop
 |.sc _=>True
 |.lst _ _ _ _=>True
 |_=>False
def JW:PV->Prop
 |.sc _=>True
 |.lst _ _ _ _=>True
 |.view _ _ _ _=>True
 |_=>False
theorem Q4 {c:PV}(h:Va c):JW c:=by
 cases c<;>first|trivial|exact h.elim
theorem He {c:PV}(h:Va c):Aq c=[]:=by
 cases c<;>first|rfl|exact h.elim
variable {w:World} {A:Nat->Prop} {β:Nat->Option (Nat × Nat)}
theorem Ke {c:PV}{v:Value}(h:Va c):Bx w A β c v↔Av w A c v:=by
 cases c<;>first|exact Iff.rfl|exact h.elim
theorem Rg {c:PV}{v:Value}(h:∀cs,c ≠ .agg cs):Fs w A β c v↔Bx w A β c v:=by
 cases c<;>first|exact Iff.rfl|exact absurd rfl (h _)
theorem Mj {c:PV}{v:Value}(h:∀cs,c ≠ .tup cs):C9 w A β c v↔Fs w A β c v:=by
 cases c<;>first|exact Iff.rfl|exact absurd rfl (h _)
theorem Yt {c:PV}(h:Va c)(cs:List PV):c ≠ .agg cs:=by rintro rfl;exact h
theorem ZU {c:PV}(h:Va c)(cs:List PV):c ≠ .tup cs:=by rintro rfl;exact h
theorem Av.val {v u:Value}(h:Av w A (.sc v) u):u=v:=by cases h;rfl
theorem Wi {es n:Nat}{z:Bool}{c:List PV}{p:PV}{v:Value}(h:p=.lst z es n c∨(p=.sc (.slice none 0 0)∧z=true∧n=0∧c=[])) (hv:Bx w A β p v):Av w A (.lst z es n c) v:=by
 rcases h with rfl|⟨rfl,rfl,rfl,rfl⟩
 ·exact hv
 ·have:=Av.val (w:=w) (A:=A) hv;subst this;exact .lnil true es
theorem Mc {t:CT}{p:PV}{K:PV->Option R}(h:AY t p K=some r):
  ∃c,K c=some r∧Va c∧Va p∧∀(w:World) (A:Nat->Prop) (β:Nat->Option (Nat × Nat)) (v:Value),Bx w A β p v->Av w A c v∧v.oneCell'=true:=by
 cases t with
 |int k=>obtain ⟨n,rfl,h2⟩:=Gs h;exact ⟨_,h2,trivial,trivial,fun w A β v hv=>⟨hv,by have:=Av.val (w:=w) (A:=A) hv;subst this;rfl⟩⟩
 |bool=>obtain ⟨n,rfl,h⟩:=Ft h;exact ⟨_,h,trivial,trivial,fun w A β v hv=>⟨hv,by have:=Av.val (w:=w) (A:=A) hv;subst this;rfl⟩⟩
 |str=>obtain ⟨n,rfl,h⟩:=Fb h;exact ⟨_,h,trivial,trivial,fun w A β v hv=>⟨hv,by have:=Av.val (w:=w) (A:=A) hv;subst this;rfl⟩⟩
 |sl es=>
  obtain ⟨z,n,c,h,hp⟩:=Fi h;refine ⟨_,h,trivial,?_,fun w A β v hv=>⟨Wi hp hv,?_⟩⟩
  ·rcases hp with rfl|⟨rfl,_⟩<;>trivial
  ·have ht:=Wi hp hv;cases ht<;>rfl
 |any=>
  obtain ⟨f,a,b,rfl,h2⟩:=ON (show fnK p (fun v=>K (.sc v))=some r from h)
  exact ⟨_,h2,trivial,trivial,fun w A β v hv=>⟨hv,by have:=Av.val (w:=w) (A:=A) hv;subst this;rfl⟩⟩
theorem Aib {t:CT}{p:PV}{K:PV->Option R}(h:fcK t p K=some r):
  ∃c,K c=some r∧(Va c∨c=p)∧JW p∧p ≠ .top∧(∀cs,c ≠ .agg cs)∧(∀cs,c ≠ .tup cs)∧(∀id,id∈Aq c->id∈Aq p)∧∀(w:World) (A:Nat->Prop) (β:Nat->Option (Nat × Nat)) (v:Value),Bx w A β p v->Bx w A β c v∧v.oneCell'=true:=by
 have tree:∀t',AY t' p K=some r->∃c,K c=some r∧(Va c∨c=p)∧JW p∧p ≠ .top∧(∀cs,c ≠ .agg cs)∧(∀cs,c ≠ .tup cs)∧(∀id,id∈Aq c->id∈Aq p)∧∀(w:World) (A:Nat->Prop) (β:Nat->Option (Nat × Nat)) (v:Value),Bx w A β p v->Bx w A β c v∧v.oneCell'=true:=by
  intro t' h;obtain ⟨c,h,hc,hp,hv⟩:=Mc h;exact ⟨c,h,.inl hc,Q4 hp,by rintro rfl;exact hp,Yt hc,ZU hc,by rw [He hc];simp,fun w A β v h=>⟨(Ke hc).2 (hv w A β v h).1,(hv w A β v h).2⟩⟩
 cases t with
 |sl es=>
  unfold fcK fsK at h;dsimp only at h;split at h
  ·rename_i id es' off n;cases hb:Nat.beq es' es
   ·rw [hb] at h;cases h
   ·rw [hb] at h;have:=Nat.eq_of_beq_eq_true hb;subst this;exact ⟨_,h,.inr rfl,trivial,by simp,by simp,by simp,fun _ h=>h,fun _ _ _ _ h=>⟨h,by rcases h with ⟨_,_,_,rfl⟩|⟨_,_,_,_,_,rfl,_⟩<;>rfl⟩⟩
  ·exact tree (.sl es) h
 |int k=>exact tree (.int k) h
 |bool=>exact tree (.bool) h
 |str=>exact tree (.str) h
 |any=>exact tree (.any) h
theorem CN {cells:List PV}{i:Nat}{p:PV}(h:cells.getD i .top=p)(hp:p ≠ .top):cells[i]?=some p:=by
 rw [List.getD_eq_getElem?_getD] at h;cases hc:cells[i]? with
 |none=>rw [hc] at h;exact absurd h.symm hp
 |some q=>rw [hc] at h;simp at h;rw [h]
theorem S6:∀{ts:List CT}{cells:List PV}{off:Nat}{K:List PV->Option R},S2 ts cells off K=some r ->
  ∃cs,K cs=some r∧cs.length=ts.length∧∀j c,cs[j]?=some c->Va c∧∃p,cells[off+j]?=some p∧Va p ∧
   ∀(w:World) (A:Nat->Prop) (β:Nat->Option (Nat × Nat)) (v:Value),Bx w A β p v->Av w A c v∧v.oneCell'=true
 |[],_,_,_,h=>⟨[],h,rfl,fun j c hj=>by simp at hj⟩
 |t::ts,cells,off,K,h=>by
  unfold S2 at h;obtain ⟨c,h,hc,hp,hv⟩:=Mc h;obtain ⟨cs,h,hl,hcs⟩:=S6 h;refine ⟨c::cs,h,by simp [hl],fun j c' hj=>?_⟩
  cases j with
  |zero=>
   simp at hj;subst hj;refine ⟨hc,cells.getD off .top,CN rfl ?_,hp,hv⟩;intro e;rw [e] at hp;exact hp
  |succ j=>
   simp at hj;have:=hcs j c' hj
   rwa [Nat.add_right_comm,Nat.add_assoc] at this
theorem Te:∀{ts:List CT}{cells:List PV}{off:Nat}{K:List PV->Option R},Ps ts cells off K=some r ->
  ∃cs,K cs=some r∧cs.length=ts.length∧(∀c∈cs,(∀x,c ≠ .agg x)∧(∀x,c ≠ .tup x))∧∀j c,cs[j]?=some c->∃p,cells[off+j]?=some p∧JW p∧(∀id,id∈Aq c->id∈Aq p) ∧
   ∀(w:World) (A:Nat->Prop) (β:Nat->Option (Nat × Nat)) (v:Value),Bx w A β p v->Bx w A β c v∧v.oneCell'=true
 |[],_,_,_,h=>⟨[],h,rfl,by simp,fun j c hj=>by simp at hj⟩
 |t::ts,cells,off,K,h=>by
  unfold Ps at h;obtain ⟨c,h,hc,hf,hp,ha,ht,hr,hv⟩:=Aib h;obtain ⟨cs,h,hl,hna,hcs⟩:=Te h;refine ⟨c::cs,h,by simp [hl],?_,fun j c' hj=>?_⟩
  ·intro x hx;rcases List.mem_cons.1 hx with rfl|hx
   ·exact ⟨ha,ht⟩
   ·exact hna x hx
  ·cases j with
   |zero=>
    simp at hj;subst hj;exact ⟨cells.getD off .top,CN rfl hp,hf,hr,hv⟩
   |succ j=>
    simp at hj;have:=hcs j c' hj
    rwa [Nat.add_right_comm,Nat.add_assoc] at this
theorem PU {agg:Bool}{cells:List PV}{K:PV->Option R}(h:ZO agg cells K=some r):
  (agg=true∧K (.agg cells)=some r)∨(agg=false∧∃c,cells=[c]∧K c=some r):=by
 unfold ZO at h;cases agg
 ·obtain ⟨c,t,rfl,h⟩:=A8 h;obtain ⟨rfl,h⟩:=C7 h;exact .inr ⟨rfl,c,rfl,h⟩
 ·exact .inl ⟨rfl,h⟩
end
open Go.RowKit
def B4 (b:Option Bj):Prop:=
 match b with
 |some (.st _)=>True
 |some (.ar false _)=>True
 |_=>False
abbrev Bt:=Nat->Option (Nat × Nat)
def Yj (hp:Nat->Option Bj)(β:Bt)(b:Nat):Prop:=∃id o,B4 (hp id)∧β id=some (b,o)
def Ci (hp:Nat->Option Bj)(β:Bt)(Y:Nat->Prop)(b:Nat):Prop:=Yj hp β b∨Y b
def Pz (w:World)(A:Nat->Prop)(β:Bt)(id:Nat)(bx:Bj):Prop:=
 match bx with
 |.st cells=>∃b o,β id=some (b,o)∧(∀j c,cells[j]?=some c->∃v,w.cell? ⟨b,o+j,none⟩=some v∧Bx w A β c v)∧∀j,j<cells.length->w.frozen? ⟨b,o+j,none⟩=false
 |.ar fz cells=>(β id=none∧cells=[])∨∃b o,β id=some (b,o)∧LO w A ⟨b,o,none⟩ cells∧(fz=false->∀j,o<=j->j<bsz w b->w.frozen? ⟨b,j,none⟩=false)∧(fz=true->¬A b)
 |.mv=>True
structure Ef where
 X:Nat->Prop
 L:Nat->Nat->Prop
 pn:Nat->Prop
 pt:Nat->Option (Nat × Nat)
 p8:∀i,pn i->i<8
def BR (bx:Bj)(o j:Nat):Prop:=
 match bx with
 |.st c=>o<=j∧j<o+c.length
 |.ar _ _=>o<=j
 |.mv=>False
structure Fr (X0:Ef) (w0 w:World):Prop where
 os:w.os=w0.os
 tape:w.tape=w0.tape
 output:w.output=w0.output
 step:Bv X0.X w0 w
 rng:∀b j,b<w0.heap.size->¬X0.L b j->w.cell? ⟨b,j,none⟩=w0.cell? ⟨b,j,none⟩∧w.frozen? ⟨b,j,none⟩=w0.frozen? ⟨b,j,none⟩
structure Bp (N:Nat) (w0:World) (X0:Ef) (Y:Nat->Prop) (β:Bt) (s:St) (a:Act) (w:World):Prop where
 dfr:a.defers=[]
 tsz:a.tmps.size=N
 tmo:∀i,N<=i->s.tm i=.top
 tms:∀i,i<N->C9 w (Ci s.hp β Y) β (s.tm i) (a.tmps.getD i undef)
 box:∀id b,s.hp id=some b->Pz w (Ci s.hp β Y) β id b
 inj:∀id id' b o o',B4 (s.hp id)->B4 (s.hp id')->β id=some (b,o)->β id'=some (b,o')->id=id'
 blt:∀id b o,s.hp id≠none->β id=some (b,o)->b<w.heap.size
 wfT:∀i,i<N->∀id∈Bo (s.tm i),s.hp id≠none
 wfB:∀id cells,s.hp id=some (.st cells)->∀c∈cells,∀id'∈Aq c,s.hp id'≠none
 ownd:∀b,Yj s.hp β b->X0.X b∨w0.heap.size<=b
 rngB:∀id bx b o,s.hp id=some bx->B4 (some bx)->β id=some (b,o)->b<w0.heap.size->∀j,BR bx o j->X0.L b j
 pin:∀i,X0.pn i->s.hp (Cm N i)≠none∧β (Cm N i)=X0.pt i
 stp:∀id c b o,s.hp id=some (.st c)->β id=some (b,o)->b<w0.heap.size->∃i,id=Cm N i∧X0.pn i
 Yx:∀b,Y b->¬Yj s.hp β b
 Ylt:∀b,Y b->b<w0.heap.size
 fr:Fr X0 w0 w
theorem Cj {b:Option Bj}(h:B4 b):b≠none:=by rintro rfl;exact h
theorem Ap {α:Type}(f:Nat->α)(i:Nat)(v:α):Ch f i v i=v:=by simp [Ch,Nat.beq_refl]
theorem Ak {α:Type}(f:Nat->α){i j:Nat}(v:α)(h:j≠i):Ch f i v j=f j:=by
 have:Nat.beq j i=false:=by
  cases hb:Nat.beq j i
  ·rfl
  ·exact absurd (Nat.eq_of_beq_eq_true hb) h
 simp [Ch,this]
theorem Yu {α:Type}(f:Nat->α){i:Nat}{v:α}(h:f i=v):Ch f i v=f:=by
 funext j
 by_cases e:j=i
 ·subst e;rw [Ap];exact h.symm
 ·exact Ak f v e
theorem RZ {α:Type}(f:Nat->α){i j:Nat}(u v:α)(h:i≠j):Ch (Ch f i u) j v=Ch (Ch f j v) i u:=by
 funext k
 by_cases e:k=j
 ·subst e;rw [Ap,Ak _ _ (Ne.symm h),Ap]
 ·rw [Ak _ _ e];by_cases e':k=i
  ·subst e';rw [Ap,Ap]
  ·rw [Ak _ _ e',Ak _ _ e',Ak _ _ e]
theorem KA {a:Act}{d:Nat}{v:Value}(h:d<a.tmps.size):(a.put (some d) v).tmps.getD d undef=v:=by
 simp [Act.put,h]
theorem IG {a:Act}{d i:Nat}{v:Value}(h:i≠d):(a.put (some d) v).tmps.getD i undef=a.tmps.getD i undef:=by
 have h':d≠i:=fun e=>h e.symm
 simp [Act.put,Array.getElem?_setIfInBounds_ne h']
section
variable {N:Nat} {w0:World} {X0:Ef} {Y:Nat->Prop} {β β':Bt} {s:St} {a:Act} {w w':World}
theorem Hm (d:Option Tmp)(v:Value):(a.put d v).tmps.size=a.tmps.size:=by cases d<;>simp [Act.put]
theorem J4 (d:Option Tmp)(v:Value):(a.put d v).defers=a.defers:=by cases d<;>rfl
theorem Qd {d:Option Tmp}(h:F4 N d=true){i:Nat}(e:d=some i):i<N:=by
 subst e;exact Nat.lt_of_succ_le (Nat.le_of_ble_eq_true h)
theorem Ph {Q:Nat->PV->Value->Prop}{tm:Nat->PV}{d:Option Tmp}{v:PV}{val:Value}(hN:a.tmps.size=N)(hd:F4 N d=true)
  (h:∀i,i<N->Q i (tm i) (a.tmps.getD i undef)) (hv:∀i,Q i v val):∀i,i<N->Q i (Bk tm d v i) ((a.put d val).tmps.getD i undef):=by
 intro i hi;cases d with
 |none=>exact h i hi
 |some d=>
  have hlt:=Qd hd rfl;by_cases e:i=d
  ·subst e;show Q i (Ch tm i v i) _;rw [Ap,KA (by omega)]
   exact hv i
  ·show Q i (Ch tm d v i) _;rw [Ak _ _ e,IG e];exact h i hi
theorem OK {tm:Nat->PV}{d:Option Tmp}{v:PV}(hd:F4 N d=true)(h:∀i,N<=i->tm i=.top):∀i,N<=i->Bk tm d v i=.top:=by
 intro i hi;cases d with
 |none=>exact h i hi
 |some d=>
  have:=Qd hd rfl;show Ch tm d v i=_;rw [Ak _ _ (by omega)]
  exact h i hi
theorem Bp.put (h:Bp N w0 X0 Y β s a w){d:Option Tmp}{v:PV}{val:Value}(hd:F4 N d=true)(hv:C9 w (Ci s.hp β Y) β v val) (hr:∀id∈Bo v,s.hp id≠none):
  Bp N w0 X0 Y β ⟨Bk s.tm d v,s.hp⟩ (a.put d val) w where
 dfr:=by rw [J4];exact h.dfr
 tsz:=by rw [Hm];exact h.tsz
 tmo:=OK hd h.tmo
 tms:=Ph (Q:=fun _ p u=>C9 w (Ci s.hp β Y) β p u) h.tsz hd h.tms (fun _=>hv)
 box:=h.box
 inj:=h.inj
 blt:=h.blt
 wfT:=by
  have:=Ph (Q:=fun _ p _=>∀id∈Bo p,s.hp id≠none) (val:=val) h.tsz hd h.wfT (fun _=>hr)
  exact this
 wfB:=h.wfB
 ownd:=h.ownd
 rngB:=h.rngB
 pin:=h.pin
 stp:=h.stp
 Yx:=h.Yx
 Ylt:=h.Ylt
 fr:=h.fr
theorem Bu (hp:Nat->Option Bj)(ids:List Nat)(i:Nat):Af hp ids i=if i∈ids then (hp i).map Sq else hp i:=by
 unfold Af;by_cases hi:i∈ids
 ·have:ids.any (Nat.beq i)=true:=List.any_eq_true.2 ⟨i,hi,Nat.beq_refl i⟩;rw [this,if_pos hi];rfl
 ·have:ids.any (Nat.beq i)=false:=by
   cases hb:ids.any (Nat.beq i)
   ·rfl
   ·obtain ⟨j,hj,e⟩:=List.any_eq_true.1 hb;exact absurd (Nat.eq_of_beq_eq_true e ▸ hj) hi
  rw [this,if_neg hi];rfl
theorem Do {hp:Nat->Option Bj}{ids:List Nat}{i:Nat}:Af hp ids i=none↔hp i=none:=by
 rw [Bu];split<;>simp
theorem Pa {hp:Nat->Option Bj}{ids:List Nat}{i:Nat}(h:B4 (Af hp ids i)):B4 (hp i):=by
 rw [Bu] at h;split at h
 ·cases hb:hp i with
  |none=>rw [hb] at h;exact h
  |some b=>cases b with
   |st c=>trivial
   |ar fz c=>rw [hb] at h;exact h.elim
   |mv=>rw [hb] at h;exact h
 ·exact h
theorem Ia {hp:Nat->Option Bj}{ids:List Nat}{i:Nat}{bx:Bj}(h:Af hp ids i=some bx)(hl:B4 (some bx)):hp i=some bx:=by
 rw [Bu] at h;split at h
 ·cases hb:hp i with
  |none=>rw [hb] at h;cases h
  |some b=>
   rw [hb] at h;cases b with
   |st c=>exact h
   |ar fz c=>simp only [Option.map_some,Sq,Option.some.injEq] at h;subst h;exact hl.elim
   |mv=>simp only [Option.map_some,Sq,Option.some.injEq] at h;subst h;exact hl.elim
 ·exact h
theorem Qh {hp:Nat->Option Bj}{ids:List Nat}{b:Nat}(h:Yj (Af hp ids) β b):Yj hp β b:=by
 obtain ⟨id,o,hl,hb⟩:=h;exact ⟨id,o,Pa hl,hb⟩
theorem Pz.step' {A A':Nat->Prop}{id:Nat}{bx:Bj}(hA:∀b,A' b->A b)(h:Pz w A β id bx):Pz w A' β id bx:=by
 have hs:=Bv.refl A w;cases bx with
 |st c=>
  obtain ⟨b,o,h1,h2,h3⟩:=h;exact ⟨b,o,h1,fun j c hj=>let ⟨v,hv,hc⟩:=h2 j c hj;⟨v,hv,hc.step hs (fun b _=>hA b) (fun _ _=>rfl)⟩,h3⟩
 |ar fz c=>
  rcases h with h|⟨b,o,h1,h2,h3,h4⟩
  ·exact .inl h
  ·exact .inr ⟨b,o,h1,h2.weak (fun b _=>hA b),h3,fun e x=>h4 e (hA b x)⟩
 |mv=>trivial
theorem Bp.freeze (h:Bp N w0 X0 Y β s a w){fz:List Nat}(hfz:∀id∈fz,∃f c,s.hp id=some (.ar f c)):Bp N w0 X0 Y β ⟨s.tm,Af s.hp fz⟩ a w:=by
 have hA:∀b,Ci (Af s.hp fz) β Y b->Ci s.hp β Y b:=fun b hb=>hb.imp Qh id
 refine ⟨h.dfr,h.tsz,h.tmo,fun i hi=>(h.tms i hi).step (Bv.refl _ _) (fun b _=>hA b) (fun _ _=>rfl),fun id b hb=>?_,fun id id' b o o' h1 h2=>h.inj id id' b o o' (Pa h1) (Pa h2),
  fun id b o hn=>h.blt id b o (fun e=>hn (Do.2 e)),fun i hi id hid e=>h.wfT i hi id hid (Do.1 e),fun id cells hc c hcm id' hid e=>?_,fun b hb=>h.ownd b (Qh hb),
  fun id bx b o hb hl=>h.rngB id bx b o (Ia hb hl) hl,fun i hi=>⟨fun e=>(h.pin i hi).1 (Do.1 e),(h.pin i hi).2⟩,fun id c b o hc=>h.stp id c b o (Ia hc trivial),fun b hb x=>h.Yx b hb (Qh x),h.Ylt,h.fr⟩
 ·simp only at hb;rw [Bu] at hb;split at hb
  ·rename_i hm;obtain ⟨f,c,hc⟩:=hfz id hm;rw [hc] at hb;simp only [Option.map_some,Sq,Option.some.injEq] at hb;subst hb;have hbx:=h.box id _ hc;rcases hbx with hbx|⟨b,o,h1,h2,h3,h4⟩
   ·exact .inl hbx
   ·refine .inr ⟨b,o,h1,h2.weak (fun b _=>hA b),(fun e=>by cases e),fun _ hb=>?_⟩
    rcases hb with ⟨id',o',hl,hb⟩|hY
    ·have hl0:=Pa hl;cases f with
     |true=>exact h4 rfl (.inl ⟨id',o',hl0,hb⟩)
     |false=>
      have e:=h.inj id' id b o' o hl0 (by rw [hc];trivial) hb h1
      subst e;simp only at hl;rw [Bu,if_pos hm,hc] at hl;exact hl
    ·cases f with
     |true=>exact h4 rfl (.inr hY)
     |false=>exact h.Yx b hY ⟨id,o,by rw [hc];trivial,h1⟩
  ·exact (h.box id b hb).step' hA
 ·simp only at hc;rw [Bu] at hc;refine h.wfB id cells ?_ c hcm id' hid (Do.1 e);split at hc
  ·rename_i hm;obtain ⟨f,c,hc'⟩:=hfz id hm;rw [hc'] at hc;cases hc
  ·exact hc
theorem Bm:∀{nw:List (Nat × Bj)} {hp:Nat->Option Bj},Bq hp nw=true ->
  (∀id bx,(id,bx)∈nw->hp id=none)∧(∀id bx bx',(id,bx)∈nw->(id,bx')∈nw->bx=bx')
 |[],_,_=>⟨by simp,by simp⟩
 |(i,b)::r,hp,h=>by
  simp only [Bq,Bool.and_eq_true,Option.isNone_iff_eq_none,Bool.not_eq_true'] at h;obtain ⟨⟨h1,h2⟩,h3⟩:=h;obtain ⟨h4,h5⟩:=Bm h3
  have hne:∀bx,(i,bx) ∉ r:=by
   intro bx hm;have:r.any (fun q=>Nat.beq q.1 i)=true:=List.any_eq_true.2 ⟨_,hm,Nat.beq_refl i⟩
   rw [this] at h2;cases h2
  refine ⟨fun id bx hm=>?_,fun id bx bx' hm hm'=>?_⟩
  ·rcases List.mem_cons.1 hm with e|hm
   ·cases e;exact h1
   ·exact h4 id bx hm
  ·rcases List.mem_cons.1 hm with e|hm
   ·cases e;rcases List.mem_cons.1 hm' with e|hm'
    ·cases e;rfl
    ·exact absurd hm' (hne _)
   ·rcases List.mem_cons.1 hm' with e|hm'
    ·cases e;exact absurd hm (hne _)
    ·exact h5 id bx bx' hm hm'
theorem D0:∀{nw:List (Nat × Bj)} {hp:Nat->Option Bj},(∀id bx bx',(id,bx)∈nw->(id,bx')∈nw->bx=bx') ->
  (∀id bx,(id,bx)∈nw->At hp nw id=some bx)∧(∀id,(∀bx,(id,bx) ∉ nw)->At hp nw id=hp id)
 |[],_,_=>⟨by simp,fun _ _=>rfl⟩
 |(i,b)::r,hp,h=>by
  obtain ⟨h1,h2⟩:=D0 (nw:=r) (hp:=Ch hp i (some b)) (fun id bx bx' hm hm'=>h id bx bx' (by simp [hm]) (by simp [hm']))
  refine ⟨fun id bx hm=>?_,fun id hn=>?_⟩
  ·by_cases hr:∃bx',(id,bx')∈r
   ·obtain ⟨bx',hr⟩:=hr;have:=h id bx bx' hm (by simp [hr])
    subst this;exact h1 id bx hr
   ·rcases List.mem_cons.1 hm with e|hm
    ·cases e;show At (Ch hp i (some b)) r i=_;rw [h2 i (fun bx' hb=>hr ⟨bx',hb⟩),Ap]
    ·exact absurd ⟨bx,hm⟩ hr
  ·show At (Ch hp i (some b)) r id=_;rw [h2 id (fun bx hb=>hn bx (by simp [hb])),Ak]
   rintro rfl
   exact hn b (by simp)
structure MQ (Y:Nat->Prop) (β:Bt) (s:St) (w:World) (v:PV) (nw:List (Nat × Bj)) (val:Value) (w':World) (β':Bt):Prop where
 os:w'.os=w.os
 tape:w'.tape=w.tape
 output:w'.output=w.output
 ext:Bv (fun _=>False) w w'
 old:∀id,s.hp id≠none->β' id=β id
 nlive:∀id bx,(id,bx)∈nw->B4 (some bx)
 nbox:∀id bx,(id,bx)∈nw->Pz w' (Ci (At s.hp nw) β' Y) β' id bx
 nblk:∀id bx b o,(id,bx)∈nw->β' id=some (b,o)->w.heap.size<=b∧b<w'.heap.size
 ninj:∀id bx id' bx' b o o',(id,bx)∈nw->(id',bx')∈nw->β' id=some (b,o)->β' id'=some (b,o')->id=id'
 nwf:∀id cells,(id,.st cells)∈nw->∀c∈cells,∀id'∈Aq c,s.hp id'≠none∨∃bx,(id',bx)∈nw
 val:C9 w' (Ci (At s.hp nw) β' Y) β' v val
 vwf:∀id∈Bo v,s.hp id≠none∨∃bx,(id,bx)∈nw
theorem Bp.stepR (h:Bp N w0 X0 Y β s a w){d:Option Tmp}{v:PV}{nw:List (Nat × Bj)} {val:Value}(hd:F4 N d=true)(hab:Bq s.hp nw=true)
  (st:MQ Y β s w v nw val w' β'):Bp N w0 X0 Y β' ⟨Bk s.tm d v,At s.hp nw⟩ (a.put d val) w':=by
 obtain ⟨ha1,ha2⟩:=Bm hab;obtain ⟨hg1,hg2⟩:=D0 (hp:=s.hp) ha2
 have hcase:∀id,(∃bx,(id,bx)∈nw)∨At s.hp nw id=s.hp id:=fun id=>by
  by_cases hx:∃bx,(id,bx)∈nw
  ·exact .inl hx
  ·exact .inr (hg2 id fun bx hb=>hx ⟨bx,hb⟩)
 have hpres:∀id,s.hp id≠none->At s.hp nw id=s.hp id:=fun id hn=>by
  rcases hcase id with ⟨bx,hx⟩|e
  ·exact absurd (ha1 id bx hx) hn
  ·exact e
 have hnn:∀id,(s.hp id≠none∨∃bx,(id,bx)∈nw)->At s.hp nw id≠none:=by
  rintro id (hn|⟨bx,hx⟩)
  ·rw [hpres id hn];exact hn
  ·rw [hg1 id bx hx];simp
 have hXold:∀b,b<w.heap.size->Yj (At s.hp nw) β' b->Yj s.hp β b:=by
  rintro b hb ⟨id,o,hl,hβ⟩
  rcases hcase id with ⟨bx,hx⟩|e
  ·have:=(st.nblk id bx b o hx hβ).1;omega
  ·rw [e] at hl;exact ⟨id,o,hl,by rw [←st.old id (Cj hl)];exact hβ⟩
 have hAold:∀b,b<w.heap.size->Ci (At s.hp nw) β' Y b->Ci s.hp β Y b:=fun b hb hA=>hA.imp (hXold b hb) id
 have hstep:Bv (Ci s.hp β Y) w w':=st.ext.weaken (fun _ _ x=>x.elim)
 refine ⟨by rw [J4];exact h.dfr,by rw [Hm];exact h.tsz,OK hd h.tmo,?_,?_,?_,?_,?_,?_,?_,?_,?_,?_,?_,h.Ylt,?_⟩
 ·refine Ph (Q:=fun _ p u=>C9 w' (Ci (At s.hp nw) β' Y) β' p u) h.tsz hd (fun i hi=>?_) (fun _=>st.val)
  exact (h.tms i hi).step hstep hAold fun id hid=>st.old id (h.wfT i hi id hid)
 ·intro id b hb;simp only at hb;rcases hcase id with ⟨bx,hx⟩|e
  ·rw [hg1 id bx hx] at hb;cases hb;exact st.nbox id _ hx
  ·rw [e] at hb;have hβ:=st.old id (by rw [hb];simp)
   have hbx:=h.box id b hb;have hlt:=h.blt id;have hne:s.hp id≠none:=by rw [hb];simp
   cases b with
   |st c=>
    obtain ⟨b,o,h1,h2,h3⟩:=hbx;have hb':=hlt b o hne h1;have hbl:=st.ext.keep b hb' (fun x=>x)
    refine ⟨b,o,by rw [hβ];exact h1,fun j c hj=>?_,fun j hj=>?_⟩
    ·obtain ⟨v,hv,hc⟩:=h2 j c hj;refine ⟨v,by rw [World.cell?_of_block (w:=w) hbl];exact hv,hc.step hstep hAold fun id' hid=>st.old id' ?_⟩
     exact h.wfB id _ hb c (List.mem_of_getElem? hj) id' hid
    ·rw [World.frozen?_of_block (w:=w) hbl];exact h3 j hj
   |ar fz c=>
    rcases hbx with ⟨h1,h2⟩|⟨b,o,h1,h2,h3,h4⟩
    ·exact .inl ⟨by rw [hβ];exact h1,h2⟩
    ·have hb':=hlt b o hne h1;have hbl:=st.ext.keep b hb' (fun x=>x)
     have hbs:bsz w' b=bsz w b:=by unfold bsz;rw [hbl]
     refine .inr ⟨b,o,by rw [hβ];exact h1,fun j c hj=>?_,fun e j hj hj'=>?_,fun e x=>h4 e (hAold b hb' x)⟩
     ·obtain ⟨v,hv,h5,hc⟩:=h2 j c hj;exact ⟨v,by rw [World.cell?_of_block (w:=w) (by rw [E2];exact hbl)];exact hv,h5,hc.step hstep hAold⟩
     ·rw [World.frozen?_of_block (w:=w) hbl];exact h3 e j hj (by rw [←hbs];exact hj')
   |mv=>trivial
 ·intro id id' b o o' hl hl' hb hb';simp only at hl hl';rcases hcase id with ⟨bx,hx⟩|e
  ·rcases hcase id' with ⟨bx',hx'⟩|e'
   ·exact st.ninj id bx id' bx' b o o' hx hx' hb hb'
   ·rw [e'] at hl';have h1:=(st.nblk id bx b o hx hb).1;have h2:=h.blt id' b o' (Cj hl') (by rw [←st.old id' (Cj hl')];exact hb')
    omega
  ·rw [e] at hl;rcases hcase id' with ⟨bx',hx'⟩|e'
   ·have h1:=(st.nblk id' bx' b o' hx' hb').1;have h2:=h.blt id b o (Cj hl) (by rw [←st.old id (Cj hl)];exact hb)
    omega
   ·rw [e'] at hl';exact h.inj id id' b o o' hl hl' (by rw [←st.old id (Cj hl)];exact hb) (by rw [←st.old id' (Cj hl')];exact hb')
 ·intro id b o hn hb;simp only at hn;rcases hcase id with ⟨bx,hx⟩|e
  ·exact (st.nblk id bx b o hx hb).2
  ·rw [e] at hn;exact Nat.lt_of_lt_of_le (h.blt id b o hn (by rw [←st.old id hn];exact hb)) st.ext.size
 ·have:=Ph (Q:=fun _ p _=>∀id∈Bo p,At s.hp nw id≠none) (val:=val) (d:=d) (v:=v) h.tsz hd (fun i hi id hid=>hnn id (.inl (h.wfT i hi id hid))) (fun _ id hid=>hnn id (st.vwf id hid))
  exact this
 ·intro id cells hc c hcm id' hid;simp only at hc;rcases hcase id with ⟨bx,hx⟩|e
  ·rw [hg1 id bx hx] at hc;cases hc;exact hnn id' (st.nwf id _ hx c hcm id' hid)
  ·rw [e] at hc;exact hnn id' (.inl (h.wfB id cells hc c hcm id' hid))
 ·rintro b ⟨id,o,hl,hb⟩
  simp only at hl;rcases hcase id with ⟨bx,hx⟩|e
  ·exact .inr (Nat.le_trans h.fr.step.size (st.nblk id bx b o hx hb).1)
  ·rw [e] at hl;exact h.ownd b ⟨id,o,hl,by rw [←st.old id (Cj hl)];exact hb⟩
 ·intro id bx b o hb hl hβ hlt;simp only at hb;rcases hcase id with ⟨bx',hx⟩|e
  ·have:=(st.nblk id bx' b o hx hβ).1;have:=h.fr.step.size;omega
  ·rw [e] at hb;exact h.rngB id bx b o hb hl (by rw [←st.old id (by rw [hb];simp)];exact hβ) hlt
 ·intro i hi;obtain ⟨h1,h2⟩:=h.pin i hi;exact ⟨hnn _ (.inl h1),by rw [st.old _ h1];exact h2⟩
 ·intro id c b o hb hβ hlt;simp only at hb;rcases hcase id with ⟨bx',hx⟩|e
  ·have:=(st.nblk id bx' b o hx hβ).1;have:=h.fr.step.size;omega
  ·rw [e] at hb;exact h.stp id c b o hb (by rw [←st.old id (by rw [hb];simp)];exact hβ) hlt
 ·rintro b hY hX
  have hb:b<w.heap.size:=Nat.lt_of_lt_of_le (h.Ylt b hY) h.fr.step.size;exact h.Yx b hY (hXold b hb hX)
 ·refine ⟨st.os.trans h.fr.os,st.tape.trans h.fr.tape,st.output.trans h.fr.output,h.fr.step.trans st.ext (fun _ _ x=>x.elim),fun b j hb hL=>?_⟩
  have hbl:=st.ext.keep b (Nat.lt_of_lt_of_le hb h.fr.step.size) (fun x=>x)
  have hc:w'.cell? ⟨b,j,none⟩=w.cell? ⟨b,j,none⟩:=World.cell?_of_block (w:=w) hbl;have hf:w'.frozen? ⟨b,j,none⟩=w.frozen? ⟨b,j,none⟩:=World.frozen?_of_block (w:=w) hbl;rw [hc,hf];exact h.fr.rng b j hb hL
end
open Go.RowKit
section
variable {P:Program} {N:Nat} {w0:World} {X0:Ef} {Y:Nat->Prop} {β β':Bt} {s:St} {a:Act} {w w':World} {o:Oper}
theorem TO (cs:List Value)(A:Nat->Prop):Bi (Bx w A β) (cs.map PV.sc) cs:=by
 induction cs with
 |nil=>trivial
 |cons v r ih=>exact ⟨Av.sc v,ih⟩
theorem WY (cs:List Value):(cs.map PV.sc).flatMap Aq=[]:=by
 induction cs with
 |nil=>rfl
 |cons v r ih=>exact ih
theorem Ct (h:Bp N w0 X0 Y β s a w)(x:Operand):C9 w (Ci s.hp β Y) β (B7 s.tm x) (a.eval x):=by
 cases x with
 |tmp t=>
  show C9 _ _ _ (s.tm t) (a.tmps.getD t undef);by_cases ht:t<N
  ·exact h.tms t ht
  ·rw [h.tmo t (Nat.le_of_not_lt ht)];exact Av.top _
 |const v=>
  cases v with
  |agg cs=>exact ⟨cs.toList,by simp [Act.eval],TO cs.toList _⟩
  |_=>exact Av.sc _
 |func f=>exact Av.sc _
 |global g=>exact Av.sc _
theorem Eo (h:Bp N w0 X0 Y β s a w)(x:Operand):∀id∈Bo (B7 s.tm x),s.hp id≠none:=by
 cases x with
 |tmp t=>
  show ∀id∈Bo (s.tm t),_;by_cases ht:t<N
  ·exact h.wfT t ht
  ·rw [h.tmo t (Nat.le_of_not_lt ht)];intro id hid;cases hid
 |const v=>
  cases v with
  |agg cs=>
   intro id hid;have:Bo (.agg (cs.toList.map .sc))=[]:=WY cs.toList;simp only [B7] at hid;rw [this] at hid;cases hid
  |_=>intro id hid;cases hid
 |func f=>intro id hid;cases hid
 |global g=>intro id hid;cases hid
theorem Na {A:Nat->Prop}{v u:Value}(h:C9 w A β (.sc v) u):u=v:=Av.val h
theorem Cf (h:Bp N w0 X0 Y β s a w){x:Operand}{v:Value}(e:B7 s.tm x=.sc v):a.eval x=v:=by
 have:=Ct h x;rw [e] at this;exact Na this
def Ee (P:Program)(a:Act)(w:World)(o:Oper)(Y:Nat->Prop)(β:Bt)(s:St)(v:PV)(fz:List Nat)(nw:List (Nat × Bj)):Prop:=
 (∀id∈fz,∃f c,s.hp id=some (.ar f c))∧∃val w',(execOp a.eval o).run P w=.ok (.value val) w'∧(Bq s.hp nw=true->∃β',MQ Y β ⟨s.tm,Af s.hp fz⟩ w v nw val w' β')
theorem WW {v:PV}{val:Value}(hv:C9 w (Ci s.hp β Y) β v val) (hr:∀id∈Bo v,s.hp id≠none):MQ Y β s w v [] val w β:=
 ⟨rfl,rfl,rfl,Bv.refl _ _,fun _ _=>rfl,by simp,by simp,by simp,by simp,by simp,hv,fun id hid=>.inl (hr id hid)⟩
theorem B5 {v:PV}{val:Value}(hrun:(execOp a.eval o).run P w=.ok (.value val) w) (hv:C9 w (Ci s.hp β Y) β v val) (hr:∀id∈Bo v,s.hp id≠none):Ee P a w o Y β s v [] []:=
 ⟨by simp,val,w,hrun,fun _=>⟨β,WW (s:=⟨s.tm,Af s.hp []⟩) hv hr⟩⟩
theorem Cn {v:Value}(hrun:(execOp a.eval o).run P w=.ok (.value v) w):Ee P a w o Y β s (.sc v) [] []:=B5 hrun (Av.sc v) (by intro id hid;cases hid)
structure F5 (w w':World) (c:Array Value) (e:TypeId):Prop where
 os:w'.os=w.os
 tape:w'.tape=w.tape
 output:w'.output=w.output
 old:∀b,b<w.heap.size->w'.heap[b]?=w.heap[b]?
 size:w'.heap.size=w.heap.size+1
 new:∃fz:Nat × Nat,w'.heap[w.heap.size]?=some (.cells c e fz)∧(fz.1=fz.2∨c.size<=fz.1)
theorem F5.alloc (w:World)(c:Array Value)(e:TypeId):F5 w (w.alloc (.cells c e)) c e:=
 ⟨rfl,rfl,rfl,fun b hb=>Below.heap_alloc w _ b hb,by show (w.heap.push _).size=_;simp,(0,0),by show (w.heap.push _)[w.heap.size]?=_;simp,.inl rfl⟩
theorem F5.drew {c:Array Value}{e:TypeId}(h:F5 w w' c e):F5 w w'.drew c e:=⟨h.os,h.tape,h.output,h.old,h.size,h.new⟩
section
variable {c:Array Value} {e:TypeId}
theorem F5.step (h:F5 w w' c e):Bv (fun _=>False) w w':=
 ⟨by rw [h.size];omega,fun b hb _=>h.old b hb,fun b hb=>by unfold bsz;rw [h.old b hb];exact Nat.le_refl _⟩
theorem F5.cell (h:F5 w w' c e)(j:Nat):w'.cell? ⟨w.heap.size,j,none⟩=c[j]?:=by
 obtain ⟨fz,hn,_⟩:=h.new;simp [World.cell?,hn]
theorem F5.frozen (h:F5 w w' c e){j:Nat}(hj:j<c.size):w'.frozen? ⟨w.heap.size,j,none⟩=false:=by
 obtain ⟨fz,hn,hf⟩:=h.new;simp only [World.frozen?,hn];rcases hf with hf|hf<;>simp<;>omega
theorem F5.bsz (h:F5 w w' c e):bsz w' w.heap.size=c.size:=by
 obtain ⟨fz,hn,_⟩:=h.new;simp [Pv.bsz,hn]
end
theorem Qp {c:Array Value}{e:TypeId}{d:Nat}{bx:Bj}{v:PV}{val:Value}(hg:F5 w w' c e)(hd:s.hp d=none)(hl:B4 (some bx))
  (hbx:Pz w' (Ci (Ch s.hp d (some bx)) (Ch β d (some (w.heap.size,0))) Y) (Ch β d (some (w.heap.size,0))) d bx)
  (hcw:∀cells,bx=.st cells->∀x∈cells,∀id'∈Aq x,s.hp id'≠none)
  (hv:C9 w' (Ci (Ch s.hp d (some bx)) (Ch β d (some (w.heap.size,0))) Y) (Ch β d (some (w.heap.size,0))) v val)
  (hvr:∀id∈Bo v,s.hp id≠none∨id=d):MQ Y β s w v [(d,bx)] val w' (Ch β d (some (w.heap.size,0))) where
 os:=hg.os
 tape:=hg.tape
 output:=hg.output
 ext:=hg.step
 old:=fun id hn=>Ak _ _ (by rintro rfl;exact hn hd)
 nlive:=by intro id b hm;simp at hm;obtain ⟨rfl,rfl⟩:=hm;exact hl
 nbox:=by intro id b hm;simp at hm;obtain ⟨rfl,rfl⟩:=hm;exact hbx
 nblk:=by
  intro id b x y hm hb;simp at hm;obtain ⟨rfl,rfl⟩:=hm;rw [Ap] at hb;simp at hb;have:=hg.size;omega
 ninj:=by intro id b id' b' x y z hm hm' _ _;simp at hm hm';rw [hm.1,hm'.1]
 nwf:=by intro id cells hm x hx id' hid;simp at hm;exact .inl (hcw cells hm.2.symm x hx id' hid)
 val:=hv
 vwf:=by
  intro id hid;rcases hvr id hid with h|rfl
  ·exact .inl h
  ·exact .inr ⟨bx,by simp⟩
theorem ZR {c:Array Value}{e:TypeId}(hg:F5 w w' c e){A A':Nat->Prop}(hA:∀b,b<w.heap.size->A' b->A b){cells:List PV}
  (h:∀(j:Nat) p,cells[j]?=some p->∃v,c[j]?=some v∧v.oneCell'=true∧Av w A p v):LO w' A' ⟨w.heap.size,0,none⟩ cells:=by
 intro j p hj;obtain ⟨v,hv,h1,ht⟩:=h j p hj;exact ⟨v,by rw [Df,Nat.zero_add,hg.cell];exact hv,h1,ht.step (hg.step.weaken (fun _ _ x=>x.elim)) hA⟩
theorem ZM {d:Nat}{bx:Bj}(hwf:s.hp d=none):∀b,b<w.heap.size->Ci (Ch s.hp d (some bx)) (Ch β d (some (w.heap.size,0))) Y b->Ci s.hp β Y b:=by
 intro b hb hA;rcases hA with ⟨id,o,hl,hβ⟩|hY
 ·by_cases e:id=d
  ·subst e;rw [Ap] at hβ;simp at hβ;omega
  ·rw [Ak _ _ e] at hl hβ;exact .inl ⟨id,o,hl,hβ⟩
 ·exact .inr hY
theorem P6 {c:Array Value}{e:TypeId}{d:Nat}{cells:List PV}{fz:List Nat}{v:PV}{val:Value}
  (hfz:∀id∈fz,∃f c,s.hp id=some (.ar f c))
  (hrun:(execOp a.eval o).run P w=.ok (.value val) w') (hg:F5 w w' c e)
  (hc:∀(j:Nat) p,cells[j]?=some p->∃u,c[j]?=some u∧u.oneCell'=true∧Av w (Ci (Af s.hp fz) β Y) p u)
  (hv:(v=.ptr d 0∧val=.pointer (some ⟨w.heap.size,0,none⟩))∨∃es n cap,v=.view d es 0 n∧val=.slice (some ⟨w.heap.size,0,none⟩) n cap∧n<=cap∧cap*es<=c.size):
  Ee P a w o Y β s v fz [(d,.ar false cells)]:=by
 refine ⟨hfz,val,w',hrun,fun hab=>⟨Ch β d (some (w.heap.size,0)),?_⟩⟩
 have hd:s.hp d=none:=(Bm hab).1 d (.ar false cells) (by simp)
 have hd':Af s.hp fz d=none:=Do.2 hd;refine Qp (s:=⟨s.tm,Af s.hp fz⟩) hg hd' trivial ?_ (fun cells hx=>by cases hx) ?_ ?_
 ·refine .inr ⟨w.heap.size,0,Ap _ _ _,?_,fun _ j _ hj=>?_,(fun x=>by cases x)⟩
  ·exact ZR hg (ZM (s:=⟨s.tm,Af s.hp fz⟩) hd') hc
  ·rw [hg.bsz] at hj;exact hg.frozen hj
 ·rcases hv with ⟨rfl,rfl⟩|⟨es,n,cap,rfl,rfl,hn,hcap⟩
  ·exact ⟨w.heap.size,0,Ap _ _ _,rfl⟩
  ·exact .inr ⟨w.heap.size,0,0,cap,Ap _ _ _,rfl,.inl rfl,hn,by rw [hg.bsz];omega,by rw [hg.size];omega⟩
 ·intro id hid;rcases hv with ⟨rfl,_⟩|⟨es,n,cap,rfl,_⟩<;>(simp [Bo,B3,Aq] at hid;exact .inr hid)
theorem KR {c:Array Value}{e:TypeId}{d:Nat}{cells:List PV}
  (hrun:(execOp a.eval o).run P w=.ok (.value (.pointer (some ⟨w.heap.size,0,none⟩))) w') (hg:F5 w w' c e)
  (hc:∀(j:Nat) p,cells[j]?=some p->∃u,c[j]?=some u∧Bx w (Ci s.hp β Y) β p u) (hr:∀x∈cells,∀id∈Aq x,s.hp id≠none):
  Ee P a w o Y β s (.ptr d 0) [] [(d,.st cells)]:=by
 refine ⟨by simp,_,w',hrun,fun hab=>⟨Ch β d (some (w.heap.size,0)),?_⟩⟩
 have hd:s.hp d=none:=(Bm hab).1 d (.st cells) (by simp)
 refine Qp (s:=⟨s.tm,Af s.hp []⟩) hg hd trivial ?_ (fun cs hx x hxm id hid=>?_) ?_ ?_
 ·refine ⟨w.heap.size,0,Ap _ _ _,fun j p hj=>?_,fun j hj=>?_⟩
  ·obtain ⟨u,hu,hp⟩:=hc j p hj;refine ⟨u,by rw [Nat.zero_add,hg.cell];exact hu,hp.step (hg.step.weaken (fun _ _ x=>x.elim)) (ZM (s:=⟨s.tm,Af s.hp []⟩) hd) fun id hid=>Ak _ _ ?_⟩
   rintro rfl
   exact hr p (List.mem_of_getElem? hj) id hid hd
  ·rw [Nat.zero_add];obtain ⟨u,hu,_⟩:=hc j _ (List.getElem?_eq_getElem hj)
   exact hg.frozen (by
    rcases Nat.lt_or_ge j c.size with h|h
    ·exact h
    ·rw [Array.getElem?_eq_none h] at hu;cases hu)
 ·injection hx with hx;subst hx;exact hr x hxm id hid
 ·exact ⟨w.heap.size,0,Ap _ _ _,rfl⟩
 ·intro id hid;simp [Bo,B3,Aq] at hid;exact .inr hid
end
open Go.RowKit
section
variable {R:Type} {r:R} {P:Program} {N:Nat} {w0:World} {X0:Ef} {Y:Nat->Prop} {β β':Bt} {s:St} {a:Act} {w w':World} {o:Oper}
theorem Jz {t:TypeId}{n:Nat}(h:(P.info? t).map (·.size)=some n) (w:World):(sizeOf t).run P w=.ok n w:=by
 cases hi:P.info? t with
 |none=>rw [hi] at h;cases h
 |some i=>rw [hi] at h;simp at h;simp [sizeOf,typeInfo,hi,h]
theorem Aee {t:TypeId}{n:Nat}(h:Bf P t=n)(hn:0<n):(P.info? t).map (·.size)=some n:=by
 unfold Bf at h;cases hi:(P.info? t).map (·.size) with
 |none=>rw [hi] at h;simp at h;omega
 |some i=>rw [hi] at h;simp at h;rw [h]
theorem Qk {t:TypeId}{d:TypeDesc}(h:P.underlying t=some d)(w:World):(isAgg t).run P w=.ok (Ck P t) w:=by
 unfold isAgg Ck;rw [h];simp only [Sem.run_bind,run_underlying h,Result.andThen_ok];cases d<;>rfl
theorem Aid {t:TypeId}{v:Value}{K:PV->Option R}(h:cvK P t v K=some r):∃p,K p=some r∧Bo p=[]∧∀(w:World)(A:Nat->Prop)(β:Bt),C9 w A β p v:=by
 have sc:∀v:Value,K (.sc v)=some r->∃p,K p=some r∧Bo p=[]∧∀(w:World) (A:Nat->Prop) (β:Bt),C9 w A β p v:=fun v h=>⟨_,h,rfl,fun w A β=>Av.sc v⟩
 unfold cvK at h;split at h
 ·rename_i cs;obtain ⟨hl,h⟩:=Am h;obtain ⟨xs,h,hxl,hx⟩:=S6 h;have hl:=Nat.eq_of_beq_eq_true hl;refine ⟨_,h,?_,fun w A β=>⟨cs.toList,by simp,?_⟩⟩
  ·show xs.flatMap Aq=[];rw [List.flatMap_eq_nil_iff];intro c hc;obtain ⟨j,hj⟩:=List.mem_iff_getElem?.1 hc;exact He (hx j c hj).1
  ·refine Bi.of_at (by rw [hxl,hl]) fun i c u hc hu=>?_
   obtain ⟨hT,p,hp,_,hpv⟩:=hx i c hc;refine (Ke hT).2 (hpv w A β u ?_).1;rw [Nat.zero_add,List.getElem?_map,hu] at hp;simp at hp;subst hp;exact Av.sc u
 ·split at h
  ·exact ⟨_,h,rfl,fun w A β=>Av.lnil true _⟩
  ·cases h
 ·exact sc _ h
theorem X8 (h:Bp N w0 X0 Y β s a w){x:Operand}(hrun:(execOp a.eval o).run P w=.ok (.value (a.eval x)) w) {K:PV->Option R}(hk:Zo P o.type s.tm x K=some r):
  ∃v,K v=some r∧Ee P a w o Y β s v [] []:=by
 have dflt:K (B7 s.tm x)=some r->∃v,K v=some r∧Ee P a w o Y β s v [] []:=fun hk=>⟨_,hk,B5 hrun (Ct h x) (Eo h x)⟩
 cases x with
 |const v=>
  obtain ⟨p,hk,hr,hv⟩:=Aid hk;exact ⟨p,hk,B5 hrun (hv _ _ _) (by rw [hr];simp)⟩
 |tmp t=>exact dflt hk
 |func f=>exact dflt hk
 |global g=>exact dflt hk
theorem Acb {x:Operand}(ho:o.op=.move x):(execOp a.eval o).run P w=.ok (.value (a.eval x)) w:=by unfold execOp;rw [ho];rfl
theorem RM {x:Operand}(ho:o.op=.assign x):(execOp a.eval o).run P w=.ok (.value (a.eval x)) w:=by unfold execOp;rw [ho];rfl
theorem VY (h:Bp N w0 X0 Y β s a w){c x y:Operand}(ho:o.op=.pick c x y){K:PV->Option R}(hk:(Bn (B7 s.tm c) fun t=>Bc t (K (B7 s.tm x)) (K (B7 s.tm y)))=some r):
  ∃v,K v=some r∧Ee P a w o Y β s v [] []:=by
 obtain ⟨b,hb,hk⟩:=Ft hk;have hc:=Cf h hb;rcases Ml hk with ⟨rfl,hk⟩|⟨rfl,hk⟩
 ·exact ⟨_,hk,B5 (by unfold execOp;rw [ho];simp [asBool,hc]) (Ct h x) (Eo h x)⟩
 ·exact ⟨_,hk,B5 (by unfold execOp;rw [ho];simp [asBool,hc]) (Ct h y) (Eo h y)⟩
theorem Om {t:TypeId}{K:List PV->Option R}(h:Gl P t K=some r):∃(v:Value)(cs:List PV),K cs=some r∧Vs P t=some v∧cs.length=(Hl P t).length∧cs.length=v.cells.toList.length∧cs.length=Bf P t ∧
  ∀(j:Nat) c,cs[j]?=some c->Va c∧∃u,v.cells.toList[j]?=some u∧u.oneCell'=true∧∀(w:World) (A:Nat->Prop),Av w A c u:=by
 unfold Gl at h;obtain ⟨v,hz,h⟩:=Cs h;obtain ⟨hl,h⟩:=Am h;obtain ⟨cs,h,hcl,hc⟩:=S6 h;simp only [Bool.and_eq_true] at hl;have hl1:=Nat.eq_of_beq_eq_true hl.1
 have hl2:(Hl P t).length=Bf P t:=by
  have:=hl.2;simp only [Ib,Bool.and_eq_true] at this;exact Nat.eq_of_beq_eq_true this.2
 refine ⟨v,cs,h,hz,hcl,by rw [hcl,hl1],by rw [hcl,hl2],fun j c hj=>?_⟩
 obtain ⟨hT,p,hp,_,hpv⟩:=hc j c hj;rw [Nat.zero_add,List.getElem?_map] at hp;cases hu:v.cells.toList[j]? with
 |none=>rw [hu] at hp;cases hp
 |some u=>
  rw [hu] at hp;simp at hp;subst hp;exact ⟨hT,u,rfl,(hpv default (fun _=>False) (fun _=>none) u (Av.sc u)).2,fun w A=>(hpv w A (fun _=>none) u (Av.sc u)).1⟩
theorem Vi {t:TypeId}{v:Value}(h:Vs P t=some v)(w:World):(zeroValue t).run P w=.ok v w:=by
 unfold Vs at h;cases hi:P.info? t with
 |none=>rw [hi] at h;cases h
 |some i=>rw [hi] at h;simp at h;simp [zeroValue,typeInfo,hi,h]
theorem TP {t:TypeId}(ho:o.op=.alloc t){d:Nat}{K:PV->List Nat->List (Nat × Bj)->Option R}
  (hk:(Gl P t fun cs=>K (.ptr d 0) [] [(d,Afy P t cs)])=some r):∃v fz nw,K v fz nw=some r∧Ee P a w o Y β s v fz nw:=by
 obtain ⟨z,cs,hk,hz,_,hl,_,hc⟩:=Om hk
 have hrun:(execOp a.eval o).run P w=.ok (.value (.pointer (some ⟨w.heap.size,0,none⟩))) (w.alloc (.cells z.cells t)):=by
  unfold execOp;rw [ho];simp [Instr.alloc,Vi hz,newVar,newRow]
 have hg:=F5.alloc w z.cells t;refine ⟨_,_,_,hk,?_⟩;unfold Afy;cases Ss P t
 ·refine KR hrun hg (fun j p hj=>?_) fun x hx id hid=>?_
  ·obtain ⟨hT,u,hu,_,hv⟩:=hc j p hj;exact ⟨u,by simpa using hu,(Ke hT).2 (hv _ _)⟩
  ·obtain ⟨j,hj⟩:=List.mem_iff_getElem?.1 hx;rw [He (hc j x hj).1] at hid;cases hid
 ·refine P6 (by simp) hrun hg (fun j p hj=>?_) (.inl ⟨rfl,rfl⟩)
  obtain ⟨hT,u,hu,h1,hv⟩:=hc j p hj;exact ⟨u,by simpa using hu,h1,hv _ _⟩
end
open Go.RowKit
section
variable {R:Type} {r:R} {P:Program} {N:Nat} {w0:World} {X0:Ef} {Y:Nat->Prop} {β β':Bt} {s:St} {a:Act} {w w':World} {o:Oper} {A:Nat->Prop}
theorem Px {t:TypeId}(h:Ib P t=true):(∃d,P.underlying t=some d)∧(Hl P t).length=Bf P t∧(P.info? t).map (·.size)=some (Bf P t):=by
 simp only [Ib,Bool.and_eq_true] at h;refine ⟨Option.isSome_iff_exists.1 h.1,Nat.eq_of_beq_eq_true h.2,?_⟩;unfold Bf;cases hi:P.info? t with
 |none=>unfold Program.underlying at h;rw [hi] at h;cases h.1
 |some i=>simp
theorem Mn {v:Value}(h:v.oneCell'=true):v.cells = #[v]:=by cases v<;>first|rfl|cases h
theorem XW {p:PV}{v:Value}{ts:List CT}{K:List PV->Option R}(hv:C9 w A β p v)(hl:(cellsOf p).length=ts.length) (h:Ps ts (cellsOf p) 0 K=some r):
  ∃cs,K cs=some r∧cs.length=ts.length∧Bi (Bx w A β) cs v.cells.toList∧(∀u∈v.cells.toList,u.oneCell'=true)∧(∀c∈cs,∀id∈Aq c,id∈Bo p)∧∀c∈cs,(∀x,c ≠ .agg x)∧(∀x,c ≠ .tup x):=by
 obtain ⟨cs,h,hcl,hna,hc⟩:=Te h;refine ⟨cs,h,hcl,?_⟩
 have single:(∀x,p ≠ .agg x)->cellsOf p=[p]:=by
  intro hp;cases p<;>first|rfl|exact absurd rfl (hp _)
 by_cases hagg:∃x,p=.agg x
 ·obtain ⟨x,rfl⟩:=hagg;obtain ⟨vs,rfl,h2⟩:=hv;have hlen:cs.length=vs.length:=by rw [hcl,←hl];exact h2.len
  have key:∀(i:Nat) c u,cs[i]?=some c->vs[i]?=some u->Bx w A β c u∧u.oneCell'=true:=by
   intro i c u hc' hu;obtain ⟨q,hq,_,_,hqv⟩:=hc i c hc';rw [Nat.zero_add] at hq;exact hqv w A β u (h2.at_ hq hu)
  refine ⟨Bi.of_at hlen fun i c u hc' hu=>(key i c u hc' hu).1,?_,?_,hna⟩
  ·intro u hu;obtain ⟨i,hi⟩:=List.mem_iff_getElem?.1 (show u∈vs from hu)
   have hlt:i<vs.length:=by
    rcases Nat.lt_or_ge i vs.length with h|h
    ·exact h
    ·rw [List.getElem?_eq_none h] at hi;cases hi
   exact (key i _ u (List.getElem?_eq_getElem (by omega)) hi).2
  ·intro c hcm id hid;obtain ⟨i,hi⟩:=List.mem_iff_getElem?.1 hcm;obtain ⟨q,hq,_,hr,_⟩:=hc i c hi;rw [Nat.zero_add] at hq;show id∈x.flatMap Aq;exact List.mem_flatMap.2 ⟨q,List.mem_of_getElem? hq,hr id hid⟩
 ·have hp:∀x,p ≠ .agg x:=fun x e=>hagg ⟨x,e⟩
  rw [single hp] at hl hc;have hl1:cs.length=1:=by rw [hcl,←hl];rfl
  match cs,hl1 with
  |[c],_=>
   obtain ⟨q,hq,hf,hr,hqv⟩:=hc 0 c rfl;simp at hq;subst hq;have htup:∀x,p ≠ .tup x:=by rintro x rfl;exact hf
   have hv':Bx w A β p v:=(Rg hp).1 ((Mj htup).1 hv);obtain ⟨h5,h6⟩:=hqv w A β v hv';rw [Mn h6];refine ⟨⟨h5,trivial⟩,?_,?_,hna⟩
   ·intro u hu;simp at hu;subst hu;exact h6
   ·intro c' hc' id hid;simp at hc';subst hc';have:=hr id hid;cases p<;>first|exact this|exact absurd rfl (hp _)|exact absurd rfl (htup _)
end
open Go.RowKit
section
variable {R:Type} {r:R} {P:Program} {N:Nat} {w0:World} {X0:Ef} {Y:Nat->Prop} {β β':Bt} {s:St} {a:Act} {w w':World} {o:Oper} {A:Nat->Prop}
theorem Bi.get {α β':Type}{R':α->β'->Prop}{zs:List α}{bs:List β'}(h:Bi R' zs bs){i:Nat}{x:α}(hx:zs[i]?=some x):∃y,bs[i]?=some y∧R' x y:=by
 have hlt:i<zs.length:=by
  rcases Nat.lt_or_ge i zs.length with h|h
  ·exact h
  ·rw [List.getElem?_eq_none h] at hx;cases hx
 have hb:bs[i]?=some (bs[i]'(by rw [←h.len];exact hlt)):=List.getElem?_eq_getElem _
 exact ⟨_,hb,h.at_ hx hb⟩
theorem Ah3 {p:PV}{v:Value}{ts:List CT}{K:List PV->Option R}(hv:C9 w A β p v)(hl:(cellsOf p).length=ts.length) (h:S2 ts (cellsOf p) 0 K=some r):
  ∃cs,K cs=some r∧cs.length=ts.length∧Bi (Av w A) cs v.cells.toList∧∀u∈v.cells.toList,u.oneCell'=true:=by
 obtain ⟨cs,h,hcl,hc⟩:=S6 h;refine ⟨cs,h,hcl,?_⟩;by_cases hagg:∃x,p=.agg x
 ·obtain ⟨x,rfl⟩:=hagg;obtain ⟨vs,rfl,h2⟩:=hv;have hlen:cs.length=vs.length:=by rw [hcl,←hl];exact h2.len
  have key:∀(i:Nat) c u,cs[i]?=some c->vs[i]?=some u->Av w A c u∧u.oneCell'=true:=by
   intro i c u hc' hu;obtain ⟨_,q,hq,_,hqv⟩:=hc i c hc';rw [Nat.zero_add] at hq;exact hqv w A β u (h2.at_ hq hu)
  refine ⟨Bi.of_at hlen fun i c u hc' hu=>(key i c u hc' hu).1,?_⟩
  intro u hu;obtain ⟨i,hi⟩:=List.mem_iff_getElem?.1 (show u∈vs from hu)
  have hlt:i<vs.length:=by
   rcases Nat.lt_or_ge i vs.length with h|h
   ·exact h
   ·rw [List.getElem?_eq_none h] at hi;cases hi
  exact (key i _ u (List.getElem?_eq_getElem (by omega)) hi).2
 ·have hp:∀x,p ≠ .agg x:=fun x e=>hagg ⟨x,e⟩
  have single:cellsOf p=[p]:=by cases p<;>first|rfl|exact absurd rfl (hp _)
  rw [single] at hl hc;have hl1:cs.length=1:=by rw [hcl,←hl];rfl
  match cs,hl1 with
  |[c],_=>
   obtain ⟨_,q,hq,hf,hqv⟩:=hc 0 c rfl;simp at hq;subst hq;have htup:∀x,p ≠ .tup x:=by rintro x rfl;exact hf
   have hv':Bx w A β p v:=(Rg hp).1 ((Mj htup).1 hv);obtain ⟨h5,h6⟩:=hqv w A β v hv';rw [Mn h6];exact ⟨⟨h5,trivial⟩,fun u hu=>by simp at hu;subst hu;exact h6⟩
theorem Abr (h:Bp N w0 X0 Y β s a w){t:TypeId}{x:Operand}(ho:o.op=.box t x){d:Nat}{K:PV->List Nat->List (Nat × Bj)->Option R}
    (hk:(Ao (Ib P t&&Nat.beq (cellsOf (B7 s.tm x)).length (Hl P t).length)
      (bif Ss P t then S2 (Hl P t) (cellsOf (B7 s.tm x)) 0 fun cs=>K (.ptr d 0) [] [(d,.ar false cs)]
       else Ps (Hl P t) (cellsOf (B7 s.tm x)) 0 fun cs=>K (.ptr d 0) [] [(d,.st cs)]))=some r):∃v fz nw,K v fz nw=some r∧Ee P a w o Y β s v fz nw:=by
  obtain ⟨hl,hk⟩:=Am hk
  simp only [Bool.and_eq_true] at hl
  have hl:=Nat.eq_of_beq_eq_true hl.2
  have hrun:(execOp a.eval o).run P w=.ok (.value (.pointer (some ⟨w.heap.size,0,none⟩))) (w.alloc (.cells (a.eval x).cells t)):=by
    unfold execOp
    rw [ho]
    simp [Instr.box,newVar,newRow]
  have hg:=F5.alloc w (a.eval x).cells t
  cases ha:Ss P t
  · rw [ha] at hk
    obtain ⟨cs,hk,_,h2,_,hr,_⟩:=XW (Ct h x) hl hk
    refine ⟨_,_,_,hk,KR hrun hg (fun j p hj=>?_) fun c hc id hid=>Eo h x id (hr c hc id hid)⟩
    obtain ⟨u,hu,hp⟩:=h2.get hj
    exact ⟨u,by simpa using hu,hp⟩
  · rw [ha] at hk
    obtain ⟨cs,hk,_,h2,h1⟩:=Ah3 (Ct h x) hl hk
    refine ⟨_,_,_,hk,P6 (by simp) hrun hg (fun j p hj=>?_) (.inl ⟨rfl,rfl⟩)⟩
    obtain ⟨u,hu,hp⟩:=h2.get hj
    exact ⟨u,by simpa using hu,h1 u (List.mem_of_getElem? hu),hp⟩
theorem WR {c:PV}(h1:∀x,c ≠ .agg x)(h2:∀x,c ≠ .tup x):Bo c=Aq c:=by
 cases c<;>first|rfl|exact absurd rfl (h1 _)|exact absurd rfl (h2 _)
theorem Xo {t:TypeId}{ad:Addr}{cs:List PV}{p:PV}(hok:Ib P t=true)(hlen:cs.length=(Hl P t).length)
  (hna:∀c∈cs,(∀x,c ≠ .agg x)∧(∀x,c ≠ .tup x))
  (hc:∀(j:Nat) c,cs[j]?=some c->∃v,w.cell? (ad.add j)=some v∧Bx w A β c v)
  (hp:(Ck P t=true∧p=.agg cs)∨(Ck P t=false∧cs=[p])):∃val,(loadVar t ad).run P w=.ok val w∧C9 w A β p val:=by
 obtain ⟨⟨d,hd⟩,hl,hi⟩:=Px hok;rcases hp with ⟨hagg,rfl⟩|⟨hagg,rfl⟩
 ·have hf:∀j,j<Bf P t->w.cell? (ad.add j)=some ((w.cell? (ad.add j)).getD undef):=by
   intro j hj;obtain ⟨v,hv,_⟩:=hc j _ (List.getElem?_eq_getElem (by omega))
   rw [hv];rfl
  refine ⟨_,?_,(List.range (Bf P t)).map (fun j=>(w.cell? (ad.add j)).getD undef),rfl,?_⟩
  ·simp only [loadVar,Sem.run_bind,Qk hd,hagg,Result.andThen_ok,if_true,Jz hi,run_loadCells w ad (Bf P t) _ hf];simp
  ·refine Bi.of_at (by simp;omega) fun i c u hc' hu=>?_
   obtain ⟨v,hv,hcv⟩:=hc i c hc'
   have hlt:i<Bf P t:=by
    rcases Nat.lt_or_ge i cs.length with h|h
    ·omega
    ·rw [List.getElem?_eq_none h] at hc';cases hc'
   rw [List.getElem?_map,List.getElem?_range hlt] at hu;simp [hv] at hu;subst hu;exact hcv
 ·obtain ⟨v,hv,hcv⟩:=hc 0 p rfl;have hn:=hna p (by simp)
  have h0:ad.add 0=ad:=by simp [Addr.add]
  rw [h0] at hv;refine ⟨v,?_,(Mj hn.2).2 ((Rg hn.1).2 hcv)⟩;simp only [loadVar,Sem.run_bind,Qk hd,hagg,Result.andThen_ok];simp [hv]
theorem Adj {hp:Nat->Option Bj}{id:Nat}{c:List PV}(h:rd hp id=some c):hp id=some (.st c)∨∃f,hp id=some (.ar f c):=by
 unfold rd at h;split at h
 ·rename_i e;simp at h;subst h;exact .inl e
 ·rename_i f _ e;simp at h;subst h;exact .inr ⟨_,e⟩
 ·cases h
theorem PJ {hp:Nat->Option Bj}{id:Nat}{c:List PV}(h:I5 hp id=some c):∃f,hp id=some (.ar f c):=by
 unfold I5 at h;split at h
 ·rename_i e;simp at h;subst h;exact ⟨_,e⟩
 ·cases h
theorem EX (h:Bp N w0 X0 Y β s a w){id:Nat}{c:List PV}(hr:rd s.hp id=some c){b ob:Nat}(hβ:β id=some (b,ob)) {j:Nat}{p:PV}(hj:c[j]?=some p):
  ∃v,w.cell? ⟨b,ob+j,none⟩=some v∧Bx w (Ci s.hp β Y) β p v:=by
 rcases Adj hr with hb|⟨f,hb⟩
 ·obtain ⟨b',o',h1,h2,_⟩:=h.box id _ hb;rw [hβ] at h1;simp at h1;obtain ⟨rfl,rfl⟩:=h1;exact h2 j p hj
 ·rcases h.box id _ hb with ⟨h1,_⟩|⟨b',o',h1,h2,_⟩
  ·rw [hβ] at h1;cases h1
  ·rw [hβ] at h1;simp at h1;obtain ⟨rfl,rfl⟩:=h1
   obtain ⟨v,hv,_,ht⟩:=h2 j p hj;rw [Df] at hv;refine ⟨v,hv,?_⟩;cases ht with
   |sc=>exact Av.sc _
   |top=>exact Av.top _
   |ub=>exact Av.ub _
   |lnil=>exact Av.lnil _ _
   |lemp=>exact Av.lemp _ _ _
   |lst es n cells a cap f hs hb hA hn hc h1 hr=>exact Av.lst es n cells a cap f hs hb hA hn hc h1 hr
theorem Jq:∀{ts:List CT}{cells:List PV}{off:Nat}{K:List PV->Option R},S2 ts cells off K=some r->Ps ts cells off K=some r
 |[],_,_,_,h=>h
 |.int k::ts,cells,off,K,h=>by
  obtain ⟨n,hp,h⟩:=Gs (show Ad k (cells.getD off .top) _=some r from h)
  show Ad k _ _=_;rw [hp];simp only [Ad,if_true];exact Jq h
 |.bool::ts,cells,off,K,h=>by
  obtain ⟨n,hp,h⟩:=Ft (show Bn (cells.getD off .top) _=some r from h)
  show Bn _ _=_;rw [hp];exact Jq h
 |.str::ts,cells,off,K,h=>by
  obtain ⟨n,hp,h⟩:=Fb (show Dp (cells.getD off .top) _=some r from h)
  show Dp _ _=_;rw [hp];exact Jq h
 |.sl es::ts,cells,off,K,h=>by
  obtain ⟨z,n,c,h,hp⟩:=Fi (show Gk es (cells.getD off .top) _=some r from h)
  change fcK (.sl es) (cells.getD off .top) (fun c=>Ps ts cells (off+1) fun r=>K (c::r))=some r
  unfold fcK;dsimp only;unfold fsK;rcases hp with hp|⟨hp,rfl,rfl,rfl⟩
  ·rw [hp];simp only [Gk,Nat.beq_refl,cond_true];exact Jq h
  ·rw [hp];exact Jq h
 |.any::ts,cells,off,K,h=>by
  obtain ⟨f,a,b,hp,h⟩:=ON (show fnK (cells.getD off .top) (fun v=>S2 ts cells (off+1) fun r=>K (.sc v::r))=some r from h)
  show fnK (cells.getD off .top) (fun v=>Ps ts cells (off+1) fun r=>K (.sc v::r))=some r
  rw [hp];exact Jq h
theorem Av.unz {w:World}{A:Nat->Prop}{z:Bool}{es n:Nat}{c:List PV}{u:Value}(h:Av w A (.lst z es n c) u):Av w A (.lst false es n c) u:=by
 cases h with
 |lnil z es=>exact .lnil false es
 |lemp es a cap=>exact .lemp es a cap
 |lst es n c a cap f h1 h2 h3 h4 h5 h6 h7=>exact .lst es n c a cap f h1 h2 h3 h4 h5 h6 h7
theorem Abm {w:World}{A:Nat->Prop}{β:Bt}{p:PV}{u:Value}(h:Bx w A β p u):Bx w A β (OZ p) u:=by
 cases p with
 |lst z es n c=>exact Av.unz h
 |_=>exact h
theorem WK (p:PV):Aq (OZ p)=Aq p:=by cases p<;>rfl
theorem KK {w:World}{A:Nat->Prop}{β:Bt}:∀{cs:List PV}{vs:List Value},Bi (Bx w A β) cs vs->Bi (Bx w A β) (cs.map OZ) vs
 |[],[],_=>trivial
 |_::_,_::_,h=>⟨Abm h.1,KK h.2⟩
 |[],_::_,h=>h.elim
 |_::_,[],h=>h.elim
theorem Aaw {w:World}{A:Nat->Prop}{β:Bt}{p:PV}{u:Value}(h:C9 w A β p u):C9 w A β (Aah p) u:=by
 cases p with
 |agg cs=>
  obtain ⟨vs,h1,h2⟩:=(show Fs w A β (.agg cs) u from h)
  exact ⟨vs,h1,KK h2⟩
 |lst z es n c=>exact Av.unz (show Av w A (.lst z es n c) u from h)
 |_=>exact h
theorem Abu (p:PV):Bo (Aah p)=Bo p:=by
 cases p with
 |agg cs=>
  show (cs.map OZ).flatMap Aq=cs.flatMap Aq
  induction cs with
  |nil=>rfl
  |cons a l ih=>rw [List.map_cons,List.flatMap_cons,List.flatMap_cons,ih,WK]
 |_=>rfl
theorem Ahr {hp:Nat->Option Bj}{t:TypeId}{x:PV}{K:PV->Option R}(h:Xf P (rd hp) (I5 hp) t x K=some r):
  IC P (rd hp) t x K=some r∨IC P (rd hp) t x (fun v=>K (Aah v))=some r:=by
 unfold Xf at h;unfold IC;split at h
 ·rename_i id off;obtain ⟨hb,h⟩:=Am h;rw [hb];show D3 _ _=_∨D3 _ _=_;split at h
  ·rename_i c hc;obtain ⟨f,hbx⟩:=PJ hc;have:rd hp id=some c:=by unfold rd;rw [hbx]
   rw [this];exact .inr (Jq h)
  ·exact .inl h
 ·exact .inr h
 ·cases h
theorem NC (h:Bp N w0 X0 Y β s a w){t:TypeId}{x:PV}{u:Value}(hx:C9 w (Ci s.hp β Y) β x u) {K:PV->Option R}(hk:IC P (rd s.hp) t x K=some r):
  ∃v ad val,K v=some r∧u=.pointer (some ad)∧(loadVar t ad).run P w=.ok val w∧C9 w (Ci s.hp β Y) β v val∧∀i∈Bo v,s.hp i≠none:=by
 unfold IC at hk;split at hk
 ·rename_i id off;obtain ⟨hok,hk⟩:=Am hk;obtain ⟨c,hr,hk⟩:=Cs hk;obtain ⟨cs,hk,hl,hna,hc⟩:=Te hk;obtain ⟨b,ob,hβ,hax⟩:=hx
  have hcell:∀(j:Nat) q,cs[j]?=some q->∃v,w.cell? ((⟨b,ob+off,none⟩:Addr).add j)=some v∧Bx w (Ci s.hp β Y) β q v:=by
   intro j q hq;obtain ⟨p,hp,_,_,hpv⟩:=hc j q hq;obtain ⟨v,hv,hcv⟩:=EX h hr hβ hp;exact ⟨v,by rw [Df,Nat.add_assoc];exact hv,(hpv _ _ _ _ hcv).1⟩
  have hrefs:∀q∈cs,∀i∈Aq q,s.hp i≠none:=by
   intro q hq i hi;obtain ⟨j,hj⟩:=List.mem_iff_getElem?.1 hq;obtain ⟨p,hp,_,hpr,_⟩:=hc j q hj;rcases Adj hr with hb|⟨f,hb⟩
   ·exact h.wfB id c hb p (List.mem_of_getElem? hp) i (hpr i hi)
   ·obtain ⟨v,hv,hcv⟩:=EX h hr hβ hp;exfalso;have hp':=hpr i hi;rcases h.box id _ hb with ⟨_,rfl⟩|⟨b',o',h1,h2,_⟩
    ·simp at hp
    ·obtain ⟨v',_,_,ht⟩:=h2 _ p hp;cases ht<;>cases hp'
  rcases PU hk with ⟨hagg,hk2⟩|⟨hagg,q,rfl,hk2⟩
  ·obtain ⟨val,hlv,hv⟩:=Xo hok hl hna hcell (.inl ⟨hagg,rfl⟩);refine ⟨_,_,val,hk2,hax,hlv,hv,fun i hi=>?_⟩
   obtain ⟨q,hq,hi⟩:=List.mem_flatMap.1 (show i∈cs.flatMap Aq from hi)
   exact hrefs q hq i hi
  ·obtain ⟨val,hlv,hv⟩:=Xo hok hl hna hcell (.inr ⟨hagg,rfl⟩);refine ⟨_,_,val,hk2,hax,hlv,hv,fun i hi=>hrefs q (by simp) i ?_⟩
   have hn:=hna q (by simp)
   rw [WR hn.1 hn.2] at hi;exact hi
 ·rename_i c off;obtain ⟨hok,hk⟩:=Am hk;obtain ⟨cs,hk,hl,hc⟩:=S6 hk;obtain ⟨ad,hax,hs,hb,hA,hrd⟩:=hx
  have hna:∀q∈cs,(∀x,q ≠ .agg x)∧(∀x,q ≠ .tup x):=by
   intro q hq;obtain ⟨j,hj⟩:=List.mem_iff_getElem?.1 hq;exact ⟨Yt (hc j q hj).1,ZU (hc j q hj).1⟩
  have hcell:∀(j:Nat) q,cs[j]?=some q->∃v,w.cell? ((ad.add off).add j)=some v∧Bx w (Ci s.hp β Y) β q v:=by
   intro j q hq;obtain ⟨hT,p,hp,hpT,hpv⟩:=hc j q hq;obtain ⟨v,hv,_,ht⟩:=hrd (off+j) p hp;exact ⟨v,by rw [add_add];exact hv,(Ke hT).2 (hpv w (Ci s.hp β Y) β v ((Ke hpT).2 ht)).1⟩
  have hrefs:∀q∈cs,Aq q=[]:=by
   intro q hq;obtain ⟨j,hj⟩:=List.mem_iff_getElem?.1 hq;exact He (hc j q hj).1
  rcases PU hk with ⟨hagg,hk2⟩|⟨hagg,q,rfl,hk2⟩
  ·obtain ⟨val,hlv,hv⟩:=Xo hok hl hna hcell (.inl ⟨hagg,rfl⟩);refine ⟨_,_,val,hk2,hax,hlv,hv,fun i hi=>?_⟩
   obtain ⟨q,hq,hi⟩:=List.mem_flatMap.1 (show i∈cs.flatMap Aq from hi)
   rw [hrefs q hq] at hi;cases hi
  ·obtain ⟨val,hlv,hv⟩:=Xo hok hl hna hcell (.inr ⟨hagg,rfl⟩);refine ⟨_,_,val,hk2,hax,hlv,hv,fun i hi=>?_⟩
   have hn:=hna q (by simp)
   rw [WR hn.1 hn.2,hrefs q (by simp)] at hi
   cases hi
 ·cases hk
theorem SV (h:Bp N w0 X0 Y β s a w){t:TypeId}{x:PV}{u:Value}(hx:C9 w (Ci s.hp β Y) β x u) {K:PV->Option R}(hk:Xf P (rd s.hp) (I5 s.hp) t x K=some r):
  ∃v ad val,K v=some r∧u=.pointer (some ad)∧(loadVar t ad).run P w=.ok val w∧C9 w (Ci s.hp β Y) β v val∧∀i∈Bo v,s.hp i≠none:=by
 rcases Ahr hk with hk|hk
 ·exact NC h hx hk
 ·obtain ⟨v,ad,val,h1,h2,h3,h4,h5⟩:=NC h hx hk;exact ⟨Aah v,ad,val,h1,h2,h3,Aaw h4,by rw [Abu];exact h5⟩
theorem WZ (h:Bp N w0 X0 Y β s a w){t:TypeId}{x:Operand}(ho:o.op=.load t x){K:PV->Option R}(hk:Xf P (rd s.hp) (I5 s.hp) t (B7 s.tm x) K=some r):
  ∃v,K v=some r∧Ee P a w o Y β s v [] []:=by
 obtain ⟨v,ad,val,hk1,hax,hl,hv,hr⟩:=SV h (Ct h x) hk;refine ⟨v,hk1,B5 ?_ hv hr⟩;unfold execOp;rw [ho];simp [Instr.loadAt,Instr.sureAddr,hax,hl]
theorem Acq {x:PV}{d:Nat}{K:PV->Option R}(h:Si x d K=some r):(∃id off,x=.ptr id off∧K (.ptr id (off+d))=some r)∨∃c off,x=.iptr c off∧K (.iptr c (off+d))=some r:=by
 unfold Si at h;split at h
 ·exact .inl ⟨_,_,rfl,h⟩
 ·exact .inr ⟨_,_,rfl,h⟩
 ·cases h
theorem Vo (h:Bp N w0 X0 Y β s a w){x:Operand}{d:Nat}{K:PV->Option R}(hk:Si (B7 s.tm x) d K=some r)
  (hrun:∀ad:Addr,a.eval x=.pointer (some ad)->(execOp a.eval o).run P w=.ok (.value (.pointer (some (ad.add d)))) w):∃v,K v=some r∧Ee P a w o Y β s v [] []:=by
 have hx:=Ct h x;have hxr:=Eo h x;rcases Acq hk with ⟨id,off,e,hk⟩|⟨c,off,e,hk⟩
 ·rw [e] at hx hxr;obtain ⟨b,ob,hβ,hax⟩:=hx;refine ⟨_,hk,B5 (hrun _ hax) ⟨b,ob,hβ,by rw [Df,Nat.add_assoc]⟩ hxr⟩
 ·rw [e] at hx;obtain ⟨ad,hax,h1,h2,h3,h4⟩:=hx;exact ⟨_,hk,B5 (hrun _ hax) ⟨ad,by rw [add_add],h1,h2,h3,h4⟩ (by intro i hi;cases hi)⟩
theorem IH (h:Bp N w0 X0 Y β s a w){x:Operand}(ho:o.op=.nilCheck x){K:PV->Option R}(hk:Si (B7 s.tm x) 0 K=some r):∃v,K v=some r∧Ee P a w o Y β s v [] []:=by
 refine Vo h hk fun ad hax=>?_
 unfold execOp;rw [ho];simp [hax,Addr.add]
theorem Y6 {t:TypeId}{f:Nat}{q:Nat × TypeId}(h:Qy P t f=some q):∃fs g,P.underlying t=some (.struct fs)∧fs[f]?=some g∧q=(g.offset,g.type):=by
 unfold Qy at h;split at h
 ·rename_i fs e;cases hg:fs[f]? with
  |none=>rw [hg] at h;cases h
  |some g=>rw [hg] at h;simp at h;exact ⟨fs,g,e,hg,h.symm⟩
 ·cases h
theorem DW (h:Bp N w0 X0 Y β s a w){t:TypeId}{x:Operand}{f:Nat}(ho:o.op=.fieldAddr t x f){K:PV->Option R}
  (hk:(D3 (Qy P t f) fun q=>Ao (Nat.ble 1 (Bf P q.2)) (Si (B7 s.tm x) q.1 K))=some r):∃v,K v=some r∧Ee P a w o Y β s v [] []:=by
 obtain ⟨q,hq,hk⟩:=Cs hk;obtain ⟨hs,hk⟩:=Am hk;obtain ⟨fs,g,hu,hg,rfl⟩:=Y6 hq;have hs:1<=Bf P g.type:=Nat.le_of_ble_eq_true hs;have hsz:=Aee (P:=P) (t:=g.type) rfl (by omega)
 refine Vo h hk fun ad hax=>?_
 unfold execOp;rw [ho];have hne:¬Bf P g.type=0:=by omega
 simp [Instr.fieldAt,run_underlying hu,hg,Instr.sureAddr,hax,fieldPlace,Jz hsz,hne]
end
open Go.RowKit
section
variable {R:Type} {r:R} {P:Program} {N:Nat} {w0:World} {X0:Ef} {Y:Nat->Prop} {β β':Bt} {s:St} {a:Act} {w w':World} {o:Oper} {A:Nat->Prop}
theorem HA (h:Bp N w0 X0 Y β s a w){t:TypeId}{cs:List PV}{vs:List Value}{off:Nat}{K:PV->Option R}{x:Operand}(hx:B7 s.tm x=.agg cs)(hv:Bi (Bx w (Ci s.hp β Y) β) cs vs)
  (hk:Ao (Ib P t) (Ps (Hl P t) cs off fun c=>ZO (Ck P t) c K)=some r)
  (hrun:∀val,(part t ⟨vs⟩ off).run P w=.ok val w->(execOp a.eval o).run P w=.ok (.value val) w):∃v,K v=some r∧Ee P a w o Y β s v [] []:=by
 obtain ⟨hok,hk⟩:=Am hk;obtain ⟨⟨d,hd⟩,hl,hi⟩:=Px hok;obtain ⟨qs,hk,hql,hna,hq⟩:=Te hk;have hxr:=Eo h x;rw [hx] at hxr
 have hcell:∀(j:Nat) q,qs[j]?=some q->∃v,vs[off+j]?=some v∧Bx w (Ci s.hp β Y) β q v:=by
  intro j q hj;obtain ⟨p,hp,_,_,hpv⟩:=hq j q hj;obtain ⟨v,hv',hc⟩:=hv.get hp;exact ⟨v,hv',(hpv _ _ _ _ hc).1⟩
 have hrefs:∀q∈qs,∀i∈Aq q,s.hp i≠none:=by
  intro q hqm i hi;obtain ⟨j,hj⟩:=List.mem_iff_getElem?.1 hqm;obtain ⟨p,hp,_,hpr,_⟩:=hq j q hj;exact hxr i (List.mem_flatMap.2 ⟨p,List.mem_of_getElem? hp,hpr i hi⟩)
 rcases PU hk with ⟨hagg,hk2⟩|⟨hagg,q,rfl,hk2⟩
 ·have hle:Bf P t=0∨off+Bf P t<=vs.length:=by
   rcases Nat.eq_zero_or_pos (Bf P t) with h0|h0
   ·exact .inl h0
   ·obtain ⟨v,hv',_⟩:=hcell (Bf P t-1) _ (List.getElem?_eq_getElem (by omega))
    have:off+(Bf P t-1)<vs.length:=by
     rcases Nat.lt_or_ge (off+(Bf P t-1)) vs.length with h|h
     ·exact h
     ·rw [List.getElem?_eq_none h] at hv';cases hv'
    exact .inr (by omega)
  refine ⟨_,hk2,B5 (hrun (.agg ⟨(vs.drop off).take (Bf P t)⟩) ?_) ⟨(vs.drop off).take (Bf P t),rfl,?_⟩ fun i hi=>?_⟩
  ·simp only [part,Sem.run_bind,Qk hd,hagg,Result.andThen_ok,if_true,Jz hi];simp [List.extract_eq_take_drop]
  ·refine Bi.of_at ?_ fun i c u hc hu=>?_
   ·simp only [List.length_take,List.length_drop];omega
   ·obtain ⟨v,hv',hcv⟩:=hcell i c hc
    have hlt:i<Bf P t:=by
     rcases Nat.lt_or_ge i qs.length with h|h
     ·omega
     ·rw [List.getElem?_eq_none h] at hc;cases hc
    rw [List.getElem?_take_of_lt hlt,List.getElem?_drop,hv'] at hu;cases hu;exact hcv
  ·obtain ⟨q,hqm,hi⟩:=List.mem_flatMap.1 (show i∈qs.flatMap Aq from hi)
   exact hrefs q hqm i hi
 ·obtain ⟨v,hv',hcv⟩:=hcell 0 q rfl;have hn:=hna q (by simp)
  refine ⟨_,hk2,B5 (hrun v ?_) ((Mj hn.2).2 ((Rg hn.1).2 hcv)) fun i hi=>?_⟩
  ·simp only [part,Sem.run_bind,Qk hd,hagg,Result.andThen_ok];rw [Nat.add_zero] at hv';simp [hv']
  ·rw [WR hn.1 hn.2] at hi;exact hrefs q (by simp) i hi
theorem TW (h:Bp N w0 X0 Y β s a w){t:TypeId}{x:Operand}{f:Nat}(ho:o.op=.field t x f){K:PV->Option R}
  (hk:(D3 (Qy P t f) fun q=>Ao (Ib P q.2)<|Ez (B7 s.tm x) fun cs=>Ps (Hl P q.2) cs q.1 fun c=>ZO (Ck P q.2) c K)=some r):∃v,K v=some r∧Ee P a w o Y β s v [] []:=by
 obtain ⟨q,hq,hk⟩:=Cs hk;obtain ⟨hok,hk⟩:=Am hk;obtain ⟨cs,hx,hk⟩:=Gz hk;obtain ⟨fs,g,hu,hg,rfl⟩:=Y6 hq;have hxv:=Ct h x;rw [hx] at hxv;obtain ⟨vs,hax,hv⟩:=hxv;refine HA (t:=g.type) (off:=g.offset) h hx hv (by rw [show Ib P g.type=true from hok];exact hk) fun val hp=>?_
 unfold execOp;rw [ho];simp [Instr.field,run_underlying hu,hg,asAgg,hax,hp]
theorem JD (h:Bp N w0 X0 Y β s a w){x:Operand}{i:Nat}(ho:o.op=.extract x i){K:PV->Option R}
  (hk:(match B7 s.tm x with | .tup vs=>D3 vs[i]? K|_=>none)=some r):∃v,K v=some r∧Ee P a w o Y β s v [] []:=by
 have hx:=Ct h x;have hxr:=Eo h x;split at hk
 ·rename_i ps e;rw [e] at hx hxr;obtain ⟨p,hp,hk⟩:=Cs hk;obtain ⟨vs,hax,hv⟩:=hx;obtain ⟨v,hv',hpv⟩:=hv.get hp
  have hntup:∀y,p ≠ .tup y:=by
   rintro y rfl
   have hpv':Av _ _ (.tup y) v:=hpv;cases hpv'
  refine ⟨p,hk,B5 (val:=v) ?_ ((Mj hntup).2 hpv) fun id hid=>hxr id ?_⟩
  ·unfold execOp;rw [ho];simp [Instr.extract,hax,hv']
  ·refine List.mem_flatMap.2 ⟨p,List.mem_of_getElem? hp,?_⟩;cases p<;>first|exact hid|exact absurd rfl (hntup _)
 ·cases hk
theorem Gu {es:Nat}{p:PV}{z:Bool}{n:Nat}{c:List PV}{v:Value}(hp:p=.lst z es n c∨(p=.sc (.slice none 0 0)∧z=true∧n=0∧c=[])) (hv:C9 w A β p v):
  (v=.slice none 0 0∧n=0∧c=[])∨(∃ad cap,v=.slice (some ad) n cap∧z=false∧n<=cap∧ad.spot=none∧ad.block<w.heap.size∧¬A ad.block∧LO w A ad c)∨∃ad cap,v=.slice (some ad) 0 cap∧z=false∧n=0∧c=[]:=by
 have hv':Bx w A β p v:=by rcases hp with rfl|⟨rfl,_⟩<;>exact hv
 have ht:=Wi hp hv';cases ht with
 |lnil=>exact .inl ⟨rfl,rfl,rfl⟩
 |lst _ _ _ ad cap f hs hb hA hn hc h1 hr=>exact .inr (.inl ⟨ad,cap,rfl,rfl,hn,hs,hb,hA,fun j q hj=>⟨f j,hc j q hj,h1 j q hj,hr j q hj⟩⟩)
 |lemp _ ad cap=>exact .inr (.inr ⟨ad,cap,rfl,rfl,rfl,rfl⟩)
theorem DI (h:Bp N w0 X0 Y β s a w){t:TypeId}{x i:Operand}(ho:o.op=.indexAddr t x i){K:PV->Option R}
  (hk:(C8 (B7 s.tm i) fun _ n=>Jl P t (B7 s.tm x) n K)=some r):∃v,K v=some r∧Ee P a w o Y β s v [] []:=by
 obtain ⟨ik,n,hi,hk⟩:=C1 hk;have hai:=Cf h hi;have hx:=Ct h x;have hxr:=Eo h x;unfold Jl at hk;split at hk
 ·rename_i len e hu;obtain ⟨hz,hk⟩:=Am hk;obtain ⟨hb,hk⟩:=Am hk;simp only [Bool.and_eq_true,decide_eq_true_eq] at hb;obtain ⟨inf,hinf⟩:=Option.isSome_iff_exists.1 hz;refine Vo h hk fun ad hax=>?_
  unfold execOp;rw [ho];simp [Instr.indexAt,asIntOf,hai,hax,run_underlying hu,Instr.sureAddr,hb.1,hb.2,sizeOf,typeInfo,hinf,Bf]
 ·rename_i e hu;obtain ⟨hz,hk⟩:=Am hk;obtain ⟨inf,hinf⟩:=Option.isSome_iff_exists.1 hz;have hsz:Bf P e=inf.size:=by simp [Bf,hinf]
  split at hk
  ·rename_i id es off n' e';rw [e'] at hx hxr;obtain ⟨hes,hk⟩:=Am hk;have hes:=Nat.eq_of_beq_eq_true hes;subst hes;obtain ⟨hb,hk⟩:=Am hk;simp only [Bool.and_eq_true,decide_eq_true_eq] at hb;rcases hx with ⟨_,_,rfl,_⟩|⟨b,ob,y,cap,hβ,hax,hy,_⟩
   ·omega
   ·have hy:y=ob+off:=by rcases hy with hy|⟨rfl,_⟩<;>omega
    subst hy;refine ⟨_,hk,B5 (val:=.pointer (some ⟨b,ob+(off+n.toNat*Bf P e),none⟩)) ?_ ⟨b,ob,hβ,rfl⟩ hxr⟩;unfold execOp;rw [ho];simp [Instr.indexAt,asIntOf,hai,hax,run_underlying hu,hb.1,hb.2,sizeOf,typeInfo,hinf,hsz,Df,Nat.add_assoc]
  ·obtain ⟨z,n',c,hk,hp⟩:=Fi hk;obtain ⟨hb,hk⟩:=Am hk;simp only [Bool.and_eq_true,decide_eq_true_eq] at hb;rcases Gu hp hx with ⟨_,rfl,_⟩|⟨ad,cap,hax,_,_,h1,h2,h3,h4⟩|⟨_,_,_,_,rfl,_⟩
   ·omega
   rotate_left
   ·omega
   ·refine ⟨_,hk,B5 (val:=.pointer (some (ad.add (n.toNat*Bf P e)))) ?_ ⟨ad,rfl,h1,h2,h3,h4⟩ (by intro i hi;cases hi)⟩
    unfold execOp;rw [ho];simp [Instr.indexAt,asIntOf,hai,hax,run_underlying hu,hb.1,hb.2,sizeOf,typeInfo,hinf,hsz]
 ·cases hk
theorem SP (h:Bp N w0 X0 Y β s a w){t:TypeId}{x i:Operand}(ho:o.op=.index t x i){K:PV->Option R}
  (hk:(C8 (B7 s.tm i) fun _ n=>
   match P.underlying t with
   |some .string=>Dp (B7 s.tm x) fun s=>Ao (decide (0<=n)) (D3 (s.data.toList[n.toNat]?) fun b=>K (.sc (.int .u8 b.toNat)))
   |some (.array len e)=>Ez (B7 s.tm x) fun cs=>Ao (decide (0<=n)&&decide (n<len)&&Ib P e) (Ps (Hl P e) cs (n.toNat*Bf P e) fun c=>ZO (Ck P e) c K)
   |_=>none)=some r):∃v,K v=some r∧Ee P a w o Y β s v [] []:=by
 obtain ⟨ik,n,hi,hk⟩:=C1 hk;have hai:=Cf h hi;split at hk
 ·rename_i hu;obtain ⟨sb,hx,hk⟩:=Fb hk;have hax:=Cf h hx;obtain ⟨h0,hk⟩:=Am hk;obtain ⟨b,hb,hk⟩:=Cs hk;have h0:=of_decide_eq_true h0;refine ⟨_,hk,Cn ?_⟩
  have hlt:n.toNat<sb.size:=by
   rcases Nat.lt_or_ge n.toNat sb.data.toList.length with h|h
   ·simpa using h
   ·rw [List.getElem?_eq_none h] at hb;cases hb
  have hb':sb[n.toNat]=b:=by
   have:sb.data.toList[n.toNat]?=some sb[n.toNat]:=by
    rw [List.getElem?_eq_getElem (by simpa using hlt)]
    rfl
   rw [hb] at this;injection this with this;exact this.symm
  unfold execOp;rw [ho];simp [Instr.index,asIntOf,hai,hax,run_underlying hu,h0,hlt,hb']
 ·rename_i len e hu;obtain ⟨cs,hx,hk⟩:=Gz hk;obtain ⟨hb,hk⟩:=Am hk;simp only [Bool.and_eq_true,decide_eq_true_eq] at hb;have hxv:=Ct h x;rw [hx] at hxv;obtain ⟨vs,hax,hv⟩:=hxv;obtain ⟨_,_,hsz⟩:=Px hb.2;refine HA (t:=e) (off:=n.toNat*Bf P e) h hx hv (by rw [hb.2];exact hk) fun val hp=>?_
  unfold execOp;rw [ho];simp [Instr.index,asIntOf,hai,hax,run_underlying hu,hb.1.1,hb.1.2,Jz hsz,hp]
 ·cases hk
end
open Go.RowKit
section
variable {R:Type} {r:R} {P:Program} {N:Nat} {w0:World} {X0:Ef} {Y:Nat->Prop} {β β':Bt} {s:St} {a:Act} {w w':World} {o:Oper} {A:Nat->Prop}
theorem Gy (h:Bp N w0 X0 Y β s a w){x:Option Operand}{dflt:Nat}{K:Nat->Option R}(hk:Kz (x.map (B7 s.tm)) dflt K=some r):
  ∃l,K l=some r∧((x=none∧l=dflt)∨∃y k,x=some y∧a.eval y=.int k (l:Int)):=by
 cases x with
 |none=>exact ⟨dflt,hk,.inl ⟨rfl,rfl⟩⟩
 |some y=>
  obtain ⟨k,i,hi,hk⟩:=C1 (show C8 (B7 s.tm y) _=some r from hk)
  obtain ⟨h0,hk⟩:=Am hk;have h0:=of_decide_eq_true h0;exact ⟨i.toNat,hk,.inr ⟨y,k,rfl,by rw [Cf h hi,Int.toNat_of_nonneg h0]⟩⟩
theorem H3 {lo hi:Option Operand}{isS:Bool}{len cap l u:Nat}(hl:(lo=none∧l=0)∨∃y k,lo=some y∧a.eval y=.int k (l:Int))
  (hu:(hi=none∧u=len)∨∃y k,hi=some y∧a.eval y=.int k (u:Int)) (h1:l<=u)(h2:u<=cap):
  (Instr.sliceBounds isS len cap (lo.map a.eval) (hi.map a.eval) none).run P w=.ok (l,u,cap) w:=by
 rcases hl with ⟨rfl,rfl⟩|⟨y,k,rfl,hy⟩<;>rcases hu with ⟨rfl,rfl⟩|⟨y',k',rfl,hy'⟩
 ·simp [Instr.sliceBounds]
 ·simp [Instr.sliceBounds,Instr.sliceBound,asIntOf,hy',h2]
 ·simp [Instr.sliceBounds,Instr.sliceBound,asIntOf,hy,h1]
 ·simp [Instr.sliceBounds,Instr.sliceBound,asIntOf,hy,hy',h1,h2]
theorem Dn {e:TypeId}(h:(P.info? e).isSome=true) (w:World):(sizeOf e).run P w=.ok (Bf P e) w:=by
 obtain ⟨i,hi⟩:=Option.isSome_iff_exists.1 h;exact Jz (by simp [Bf,hi]) w
theorem GN {b j:Nat}{v:Value}(h:w.cell? ⟨b,j,none⟩=some v):j<bsz w b:=by
 unfold World.cell? at h;unfold bsz;split at h
 ·rename_i c e fz hb;simp only at hb;rw [hb];simp only [Option.isSome_none,Bool.false_eq_true,if_false] at h;rcases Nat.lt_or_ge j c.size with hlt|hge
  ·exact hlt
  ·rw [Array.getElem?_eq_none hge] at h;cases h
 ·cases h
theorem RY (h:Bp N w0 X0 Y β s a w){t:TypeId}{x:Operand}{lo hi:Option Operand}(ho:o.op=.slice t x lo hi none){K:PV->Option R}
  (hk:Zj P (rd s.hp) t (B7 s.tm x) (lo.map (B7 s.tm)) (hi.map (B7 s.tm)) K=some r):∃v,K v=some r∧Ee P a w o Y β s v [] []:=by
 have hx:=Ct h x;have hxr:=Eo h x;unfold Zj at hk;split at hk
 ·rename_i hu;obtain ⟨sb,hxs,hk⟩:=Fb hk;have hax:=Cf h hxs;obtain ⟨l,hk,hl⟩:=Gy h hk;obtain ⟨u,hk,hu'⟩:=Gy h hk;obtain ⟨hb,hk⟩:=Am hk;simp only [Bool.and_eq_true,decide_eq_true_eq] at hb;refine ⟨_,hk,Cn ?_⟩;unfold execOp;rw [ho];simp [Instr.sliceAt,Instr.slice,run_underlying hu,hax,H3 hl hu' hb.1 hb.2]
 ·rename_i e hu;obtain ⟨hinf,hk⟩:=Am hk;split at hk
  ·rename_i id es off n e';rw [e'] at hx hxr;obtain ⟨hes,hk⟩:=Am hk;have hes:=Nat.eq_of_beq_eq_true hes;subst hes;obtain ⟨l,hk,hl⟩:=Gy h hk;obtain ⟨u,hk,hu'⟩:=Gy h hk;obtain ⟨hb,hk⟩:=Am hk;simp only [Bool.and_eq_true,decide_eq_true_eq] at hb;rcases hx with ⟨hβ,rfl,rfl,hax⟩|⟨b,ob,y,cap,hβ,hax,hy,hn,hcap,hlt⟩
   ·have hu0:u=0:=by omega
    have hl0:l=0:=by omega
    subst hu0 hl0;refine ⟨_,hk,B5 (val:=.slice none 0 0) ?_ (.inl ⟨hβ,by simp,rfl,rfl⟩) hxr⟩
    unfold execOp;rw [ho];simp [Instr.sliceAt,Instr.slice,run_underlying hu,hax,H3 hl hu' (Nat.le_refl 0) (Nat.le_refl 0),Dn hinf]
   ·have hrun:(execOp a.eval o).run P w=.ok (.value (.slice (some (if cap=l then ⟨b,y,none⟩ else ⟨b,y+l*Bf P e,none⟩)) (u-l) (cap-l))) w:=by
     unfold execOp;rw [ho];have hbr:=H3 (P:=P) (w:=w) (isS:=true) hl hu' hb.1 (Nat.le_trans hb.2 hn);simp [Instr.sliceAt,Instr.slice,run_underlying hu,hax,hbr,Dn hinf,Df];split<;>rfl
    refine ⟨_,hk,B5 hrun (.inr ?_) hxr⟩;by_cases hc:cap=l
    ·rw [if_pos hc];refine ⟨b,ob,y,cap-l,hβ,rfl,?_,by omega,by rw [hc,Nat.sub_self];omega,hlt⟩
     by_cases h0:l*Bf P e=0
     ·rw [h0,Nat.add_zero];rcases hy with hy|⟨hn0,hoff⟩
      ·exact .inl hy
      ·exact .inr ⟨by omega,hoff⟩
     ·exact .inr ⟨by omega,by omega⟩
    ·rw [if_neg hc];refine ⟨b,ob,y+l*Bf P e,cap-l,hβ,rfl,?_,by omega,?_,hlt⟩
     ·rcases hy with hy|⟨hn0,hoff⟩
      ·exact .inl (by omega)
      ·exact .inr ⟨by omega,by omega⟩
     ·have:l*Bf P e+(cap-l)*Bf P e=cap*Bf P e:=by
       rw [←Nat.add_mul]
       congr 1
       omega
      omega
  ·obtain ⟨z,n,c,hk,hp⟩:=Fi hk;obtain ⟨l,hk,hl⟩:=Gy h hk;obtain ⟨u,hk,hu'⟩:=Gy h hk;obtain ⟨hb,hk⟩:=Am hk;simp only [Bool.and_eq_true,decide_eq_true_eq] at hb;rcases Gu hp hx with ⟨hax,rfl,rfl⟩|⟨ad,cap,hax,rfl,hn,h1,h2,h3,h4⟩|⟨ad,cap,hax,rfl,rfl,rfl⟩
   rotate_right
   ·have hu0:u=0:=by omega
    have hl0:l=0:=by omega
    subst hu0 hl0;refine ⟨_,hk,B5 (val:=.slice (some (if cap=0 then ad else ad.add (0*Bf P e))) (0-0) (cap-0)) ?_ ?_ (by intro i hi;cases hi)⟩
    ·unfold execOp;rw [ho];have hbr:=H3 (P:=P) (w:=w) (isS:=true) hl hu' (Nat.le_refl 0) (Nat.zero_le cap);simp [Instr.sliceAt,Instr.slice,run_underlying hu,hax,hbr,Dn hinf];split<;>rfl
    ·have:((([]:List PV).drop (0*Bf P e)).take ((0-0)*Bf P e))=[]:=by simp
     rw [this];exact Av.lemp _ _ _
   ·have hu0:u=0:=by omega
    have hl0:l=0:=by omega
    subst hu0 hl0;refine ⟨_,hk,B5 (val:=.slice none 0 0) ?_ ?_ (by intro i hi;cases hi)⟩
    ·unfold execOp;rw [ho];simp [Instr.sliceAt,Instr.slice,run_underlying hu,hax,H3 hl hu' (Nat.le_refl 0) (Nat.le_refl 0),Dn hinf]
    ·have:((([]:List PV).drop (0*Bf P e)).take ((0-0)*Bf P e))=[]:=by simp
     rw [this];exact Av.lnil z _
   ·have hrun:(execOp a.eval o).run P w=.ok (.value (.slice (some (if cap=l then ad else ad.add (l*Bf P e))) (u-l) (cap-l))) w:=by
     unfold execOp;rw [ho];have hbr:=H3 (P:=P) (w:=w) (isS:=true) hl hu' hb.1 (Nat.le_trans hb.2 hn);simp [Instr.sliceAt,Instr.slice,run_underlying hu,hax,hbr,Dn hinf];split<;>rfl
    refine ⟨_,hk,B5 hrun ?_ (by intro i hi;cases hi)⟩
    by_cases hc:cap=l
    ·rw [if_pos hc];have:u-l=0:=by omega
     rw [this];simp only [Nat.zero_mul,List.take_zero];exact Av.lst _ _ [] ad _ (fun _=>undef) h1 h2 h3 (by omega) (by simp) (by simp) (by simp)
    ·rw [if_neg hc]
     have hcell:∀(j:Nat) q,((c.drop (l*Bf P e)).take ((u-l)*Bf P e))[j]?=some q->c[l*Bf P e+j]?=some q:=by
      intro j q hq;rw [List.getElem?_take] at hq;split at hq
      ·rw [List.getElem?_drop] at hq;exact hq
      ·cases hq
     refine Av.lst _ _ _ (ad.add (l*Bf P e)) _ (fun j=>(w.cell? (ad.add (l*Bf P e+j))).getD undef) (Aeq h1 _) (by rw [E2];exact h2) (by rw [E2];exact h3) (by omega) (fun j q hq=>?_) (fun j q hq=>?_) (fun j q hq=>?_)
     ·obtain ⟨v,hv,_⟩:=h4 _ q (hcell j q hq);rw [add_add,hv];rfl
     ·obtain ⟨v,hv,h5,_⟩:=h4 _ q (hcell j q hq);rw [hv];exact h5
     ·obtain ⟨v,hv,_,ht⟩:=h4 _ q (hcell j q hq);rw [hv];exact ht
 ·rename_i n e hu;obtain ⟨hinf,hk⟩:=Am hk;split at hk
  ·rename_i id off e';rw [e'] at hx hxr;obtain ⟨c,hrc,hk⟩:=Cs hk;obtain ⟨hlen,hk⟩:=Am hk;simp only [Bool.and_eq_true,decide_eq_true_eq] at hlen;obtain ⟨l,hk,hl⟩:=Gy h hk;obtain ⟨u,hk,hu'⟩:=Gy h hk;obtain ⟨hb,hk⟩:=Am hk;simp only [Bool.and_eq_true,decide_eq_true_eq] at hb;obtain ⟨b,ob,hβ,hax⟩:=hx
   have hbs:ob+off+n*Bf P e<=bsz w b:=by
    obtain ⟨v,hv,_⟩:=EX h hrc hβ (j:=off+n*Bf P e-1) (List.getElem?_eq_getElem (by omega))
    have:=GN hv;omega
   have hlt:b<w.heap.size:=h.blt id b ob (hxr id (by simp [Bo,B3,Aq])) hβ
   have hrun:(execOp a.eval o).run P w=.ok (.value (.slice (some (if n=l then ⟨b,ob+off,none⟩ else ⟨b,ob+off+l*Bf P e,none⟩)) (u-l) (n-l))) w:=by
    unfold execOp;rw [ho];have hbr:=H3 (P:=P) (w:=w) (isS:=false) hl hu' hb.1 hb.2;simp [Instr.sliceAt,Instr.sureAddr,run_underlying hu,hax,hbr,Dn hinf,Df]
   refine ⟨_,hk,B5 hrun (.inr ?_) hxr⟩;by_cases hc:n=l
   ·rw [if_pos hc];refine ⟨b,ob,ob+off,n-l,hβ,rfl,?_,by omega,by rw [hc,Nat.sub_self];omega,hlt⟩
    by_cases h0:l*Bf P e=0
    ·rw [h0,Nat.add_zero];exact .inl rfl
    ·exact .inr ⟨by omega,by omega⟩
   ·rw [if_neg hc];refine ⟨b,ob,ob+off+l*Bf P e,n-l,hβ,rfl,.inl (by omega),by omega,?_,hlt⟩
    have:l*Bf P e+(n-l)*Bf P e=n*Bf P e:=by
     rw [←Nat.add_mul]
     congr 1
     omega
    omega
  ·cases hk
 ·cases hk
end
open Go.RowKit
section
variable {R:Type} {r:R} {P:Program} {N:Nat} {w0:World} {X0:Ef} {Y:Nat->Prop} {β β':Bt} {s:St} {a:Act} {w w':World} {o:Oper} {A:Nat->Prop}
theorem Aba (h:Bp N w0 X0 Y β s a w){c:Call}(ho:o.op=.call c)(hc:c.callee=.builtin .len){K:PV->Option R}
  (hk:(Ab c.args.toList fun x _=>Ab c.argTypes.toList fun t _=>Abk P t (B7 s.tm x) fun n=>K (.sc (.int .i64 n)))=some r):∃v,K v=some r∧Ee P a w o Y β s v [] []:=by
 obtain ⟨x,xs,hxs,hk⟩:=A8 hk;obtain ⟨t,ts,hts,hk⟩:=A8 hk;have hx:=Ct h x;have hargs:c.args=(x::xs).toArray:=by rw [←hxs]
 have htys:c.argTypes=(t::ts).toArray:=by rw [←hts]
 have hrun:∀n:Nat,(Builtin.len_ c.argTypes o.type (c.args.map a.eval)).run P w=.ok (.int .i64 n) w->(execOp a.eval o).run P w=.ok (.value (.int .i64 n)) w:=by
  intro n hl;unfold execOp;rw [ho];simp only [resolve,hc,invoke,builtin,Sem.run_bind,Sem.run_pure,Result.andThen_ok,hl]
 unfold Abk at hk;split at hk
 ·rename_i hu;obtain ⟨sb,hxs',hk⟩:=Fb hk;have hax:=Cf h hxs';refine ⟨_,hk,Cn (hrun _ ?_)⟩;simp [Builtin.len_,hargs,htys,run_underlying hu,hax,goInt]
 ·rename_i n e hu;refine ⟨_,hk,Cn (hrun _ ?_)⟩;simp [Builtin.len_,hargs,htys,run_underlying hu,goInt]
 ·rename_i e hu;split at hk
  ·rename_i id es off n e';rw [e'] at hx;obtain ⟨_,hk⟩:=Am hk;refine ⟨_,hk,Cn (hrun _ ?_)⟩;rcases hx with ⟨_,_,rfl,hax⟩|⟨b,ob,y,cap,_,hax,_⟩<;>simp [Builtin.len_,hargs,htys,run_underlying hu,hax,goInt]
  ·obtain ⟨z,n,cc,hk,hp⟩:=Fi hk;refine ⟨_,hk,Cn (hrun _ ?_)⟩;rcases Gu hp hx with ⟨hax,rfl,_⟩|⟨ad,cap,hax,_⟩|⟨ad,cap,hax,_,rfl,_⟩<;>simp [Builtin.len_,hargs,htys,run_underlying hu,hax,goInt]
 ·cases hk
theorem Abb (h:Bp N w0 X0 Y β s a w){c:Call}(ho:o.op=.call c)(hc:c.callee=.builtin .cap){K:PV->Option R}
  (hk:(Ab c.args.toList fun x _=>Ab c.argTypes.toList fun t _=>Ab1 P t (B7 s.tm x) fun n=>K (.sc (.int .i64 n)))=some r):∃v,K v=some r∧Ee P a w o Y β s v [] []:=by
 obtain ⟨x,xs,hxs,hk⟩:=A8 hk;obtain ⟨t,ts,hts,hk⟩:=A8 hk;have hx:=Ct h x;have hargs:c.args=(x::xs).toArray:=by rw [←hxs]
 have htys:c.argTypes=(t::ts).toArray:=by rw [←hts]
 have hrun:∀n:Nat,(Builtin.cap_ c.argTypes o.type (c.args.map a.eval)).run P w=.ok (.int .i64 n) w->(execOp a.eval o).run P w=.ok (.value (.int .i64 n)) w:=by
  intro n hl;unfold execOp;rw [ho];simp only [resolve,hc,invoke,builtin,Sem.run_bind,Sem.run_pure,Result.andThen_ok,hl]
 unfold Ab1 at hk;split at hk
 ·rename_i e hu;obtain ⟨z,n,cc,hk,hp⟩:=Fi hk;obtain ⟨hz,hk⟩:=Am hk;refine ⟨_,hk,Cn (hrun _ ?_)⟩;rcases Gu hp hx with ⟨hax,rfl,_⟩|⟨ad,cap,hax,hzf,_⟩|⟨ad,cap,hax,hzf,_,_⟩
  ·simp [Builtin.cap_,hargs,htys,run_underlying hu,hax,goInt]
  ·rw [hz] at hzf;cases hzf
  ·rw [hz] at hzf;cases hzf
 ·cases hk
theorem Abs (h:Bp N w0 X0 Y β s a w){c:Call}(ho:o.op=.call c)(hc:c.callee=.builtin .min){K:PV->Option R}
  (hk:(Ab c.args.toList fun x r=>Ab r fun y r'=>Ac r' (Ag6 (B7 s.tm x) (B7 s.tm y) K))=some r):∃v,K v=some r∧Ee P a w o Y β s v [] []:=by
 obtain ⟨x,xs,hxs,hk⟩:=A8 hk;obtain ⟨y,ys,rfl,hk⟩:=A8 hk;obtain ⟨rfl,hk⟩:=C7 hk;obtain ⟨k,n,hx,hk⟩:=C1 hk;obtain ⟨m,hy,hk⟩:=Gs hk
 have hargs:c.args = #[x,y]:=by
  have:c.args=([x,y]:List Operand).toArray:=by rw [←hxs]
  exact this
 refine ⟨_,hk,Cn ?_⟩;unfold execOp;rw [ho];simp [resolve,hc,invoke,builtin,hargs,Builtin.min_,Builtin.min2,Cf h hx,Cf h hy]
theorem Ach (h:Bp N w0 X0 Y β s a w){c:Call}(ho:o.op=.call c)(hc:c.callee=.builtin .max){K:PV->Option R}
  (hk:(Ab c.args.toList fun x r=>Ab r fun y r'=>Ac r' (Ahg (B7 s.tm x) (B7 s.tm y) K))=some r):∃v,K v=some r∧Ee P a w o Y β s v [] []:=by
 obtain ⟨x,xs,hxs,hk⟩:=A8 hk;obtain ⟨y,ys,rfl,hk⟩:=A8 hk;obtain ⟨rfl,hk⟩:=C7 hk;obtain ⟨k,n,hx,hk⟩:=C1 hk;obtain ⟨m,hy,hk⟩:=Gs hk
 have hargs:c.args = #[x,y]:=by
  have:c.args=([x,y]:List Operand).toArray:=by rw [←hxs]
  exact this
 refine ⟨_,hk,Cn ?_⟩;unfold execOp;rw [ho];simp [resolve,hc,invoke,builtin,hargs,Builtin.max_,Builtin.max2,Cf h hx,Cf h hy]
theorem VF (h:Bp N w0 X0 Y β s a w){op:UnOp}{t:TypeId}{x:Operand}(ho:o.op=.unOp op t x){K:PV->Option R}(hk:unK op (B7 s.tm x) K=some r):
  ∃v,K v=some r∧Ee P a w o Y β s v [] []:=by
 unfold unK at hk;split at hk
 ·obtain ⟨b,hb,hk⟩:=Ft hk;refine ⟨_,hk,Cn ?_⟩;unfold execOp;rw [ho];simp [Op.unary,Cf h hb]
 ·obtain ⟨k,n,hb,hk⟩:=C1 hk;refine ⟨_,hk,Cn ?_⟩;unfold execOp;rw [ho];simp [Op.unary,Op.intArith,Cf h hb]
 ·obtain ⟨k,n,hb,hk⟩:=C1 hk;refine ⟨_,hk,Cn ?_⟩;unfold execOp;rw [ho];simp [Op.unary,Op.intBits,Cf h hb,Alv]
 ·cases hk
theorem Aaq {op:BinOp}{k:IntKind}{m n:Int}{t:TypeId}{x y:Operand}{K:PV->Option R}(hs1:op ≠ .shl)(hs2:op ≠ .shr)(hk:GD op k m n K=some r):
  ∃v,K (.sc v)=some r∧(do eqGuard op t x y (.int k m) (.int k n);binOp op t (.int k m) (.int k n)).run P w=.ok v w:=by
 cases op<;>first
  |exact absurd rfl hs1
  |exact absurd rfl hs2
  |(obtain ⟨hb,hk⟩:=Am hk;have hb:=of_decide_eq_true hb;exact ⟨_,hk,by simp [eqGuard,binOp,Op.intDiv,hb]⟩)
  |exact ⟨_,hk,by simp [eqGuard,binOp,-BitVec.toNat_and,-BitVec.toNat_or,-BitVec.toNat_xor,-gt_iff_lt,-ge_iff_le]<;>rfl⟩
theorem Acg {op:BinOp}{m n:ByteArray}{t:TypeId}{x y:Operand}{K:PV->Option R}(hk:IM op m n K=some r):
  ∃v,K (.sc v)=some r∧(do eqGuard op t x y (.string m) (.string n);binOp op t (.string m) (.string n)).run P w=.ok v w:=by
 cases op<;>first
  |cases hk
  |(obtain ⟨hb,hk⟩:=Am hk;have hb:=of_decide_eq_true hb;exact ⟨_,hk,by
    have hb':¬(((m.size+n.size:Nat):Int)>IntKind.i64.max):=by
     have:IntKind.i64.max=9223372036854775807:=rfl;rw [this];omega
    simp only [eqGuard,binOp,Op.stringOp,if_neg hb'];rfl⟩)
  |exact ⟨_,hk,by simp only [eqGuard,binOp,Op.stringOp,ByteArray.toList_eq];rfl⟩
end
open Go.RowKit
section
variable {R:Type} {r:R} {P:Program} {N:Nat} {w0:World} {X0:Ef} {Y:Nat->Prop} {β β':Bt} {s:St} {a:Act} {w w':World} {o:Oper} {A:Nat->Prop}
theorem EY {t:TypeId}(hu:P.underlying t=some .bool)(x y:Bool):(Op.equal t (.bool x) (.bool y)).run P w=.ok (x==y) w:=by
 have h:∀d,(Op.equalIn (d+1) t (.bool x) (.bool y)).run P w=.ok (x==y) w:=fun d=>by simp [Op.equalIn,run_underlying hu]
 exact h 9999
theorem Uh {t e:TypeId}(hu:P.underlying t=some (.slice e)) (x:Option Addr)(n c:Nat):(Op.equal t (.slice x n c) (.slice none 0 0)).run P w=.ok x.isNone w:=by
 have h:∀d,(Op.equalIn (d+1) t (.slice x n c) (.slice none 0 0)).run P w=.ok x.isNone w:=fun d=>by
  cases x<;>simp [Op.equalIn,run_underlying hu]
 exact h 9999
theorem Tp {t:TypeId}(d:Nat){v u:Value}(hv:(∃k m n,P.underlying t=some (.int k)∧v=.int k m∧u=.int k n)∨(∃m n,P.underlying t=some .bool∧v=.bool m∧u=.bool n)∨∃m n,P.underlying t=some .string∧v=.string m∧u=.string n) {b:Bool}
  (hb:∀k m n,v=.int k m->u=.int k n->b=(m==n)) (hb':∀m n,v=.bool m->u=.bool n->b=(m==n)) (hb'':∀m n,v=.string m->u=.string n->b=(m==n)):(Op.equalIn (d+1) t v u).run P w=.ok b w:=by
 rcases hv with ⟨k,m,n,hu,rfl,rfl⟩|⟨m,n,hu,rfl,rfl⟩|⟨m,n,hu,rfl,rfl⟩
 ·rw [hb k m n rfl rfl];simp [Op.equalIn,run_underlying hu]
 ·rw [hb' m n rfl rfl];simp [Op.equalIn,run_underlying hu]
 ·rw [hb'' m n rfl rfl];simp [Op.equalIn,run_underlying hu]
theorem IF {t:TypeId}{dsc:TypeDesc}(hu:P.underlying t=some dsc)(hd:Ck P t=false){xs:Array Value}{i:Nat}{v:Value}(hv:xs[i]?=some v):(part t xs i).run P w=.ok v w:=by
 simp only [part,Sem.run_bind,Qk hu,hd,Result.andThen_ok];simp [hv]
theorem YM (d : Nat) : ∀ (fs : List Field) (i : Nat) (xs ys : Array Value) (ps qs : List PV) (K : Bool -> Option R), HH P fs i = true -> HR (fs.map (fty P)) ps qs K = some r ->
    (∀ (j : Nat) p, ps[j]? = some p -> ∃ v, xs[i + j]? = some v ∧ Bx w A β p v) -> (∀ (j : Nat) p, qs[j]? = some p -> ∃ v, ys[i + j]? = some v ∧ Bx w A β p v) ->
    ∃ b, K b = some r ∧ (forIn fs ((none, ()) : Option Bool × Unit) fun (f : Field) (_ : Option Bool × Unit) =>
            if f.name = "_" then pure (ForInStep.yield ((none, ()) : Option Bool × Unit))
            else do
              let x ← part f.type xs f.offset
              let y ← part f.type ys f.offset
              let e ← Op.equalIn (d + 1) f.type x y
              if e = false then pure (ForInStep.done ((some false, ()) : Option Bool × Unit)) else pure (ForInStep.yield ((none, ()) : Option Bool × Unit)) : Sem (Option Bool × Unit)).run P w = .ok (if b then (none, ()) else (some false, ())) w
  | [], i, xs, ys, ps, qs, K, _, hk, _, _ => by
    cases ps with
    | nil => cases qs with
      | nil => exact ⟨true, hk, by simp⟩
      | cons q qs => cases hk
    | cons p ps => cases hk
  | f :: fs, i, xs, ys, ps, qs, K, hfl, hk, hp, hq => by
    simp only [HH, Bool.and_eq_true] at hfl
    obtain ⟨⟨⟨hoff, hname⟩, hty⟩, hrest⟩ := hfl
    have hoff := Nat.eq_of_beq_eq_true hoff
    have hname' : f.name ≠ "_" := by simpa using hname
    cases ps with
    | nil =>
      simp only [List.map_cons] at hk
      cases hfty : fty P f <;> rw [hfty] at hk <;> cases hk
    | cons p ps =>
      cases qs with
      | nil =>
        simp only [List.map_cons] at hk
        cases hfty : fty P f <;> rw [hfty] at hk <;> cases hk
      | cons q qs =>
        obtain ⟨v, hv, hpv⟩ := hp 0 p rfl
        obtain ⟨u, hu, hqu⟩ := hq 0 q rfl
        rw [Nat.add_zero] at hv hu
        have main : ∃ b0 dsc, P.underlying f.type = some dsc ∧ Ck P f.type = false ∧ (Op.equalIn (d + 1) f.type v u).run P w = .ok b0 w ∧ HR (fs.map (fty P)) ps qs (fun r => K (b0 && r)) = some r := by
          simp only [List.map_cons] at hk
          unfold fty at hk
          split at hk
          · rename_i k hun
            obtain ⟨m, hpm, hk1⟩ := Gs (show Ad k p _ = some r from hk)
            obtain ⟨n, hqn, hk2⟩ := Gs hk1
            subst hpm hqn
            have hv' : v = .int k m := Av.val (w := w) (A := A) hpv
            have hu' : u = .int k n := Av.val (w := w) (A := A) hqu
            subst hv' hu'
            refine ⟨m == n, _, hun, by simp [Ck, hun], Tp d (.inl ⟨k, m, n, hun, rfl, rfl⟩) ?_ ?_ ?_, hk2⟩
            · intro k' m' n' h1 h2; injection h1 with _ h1; injection h2 with _ h2; rw [h1, h2]
            · intro m' n' h1; cases h1
            · intro m' n' h1; cases h1
          · rename_i hun
            obtain ⟨m, hpm, hk1⟩ := Ft (show Bn p _ = some r from hk)
            obtain ⟨n, hqn, hk2⟩ := Ft hk1
            subst hpm hqn
            have hv' : v = .bool m := Av.val (w := w) (A := A) hpv
            have hu' : u = .bool n := Av.val (w := w) (A := A) hqu
            subst hv' hu'
            refine ⟨m == n, _, hun, by simp [Ck, hun], Tp d (.inr (.inl ⟨m, n, hun, rfl, rfl⟩)) ?_ ?_ ?_, hk2⟩
            · intro k' m' n' h1; cases h1
            · intro m' n' h1 h2; injection h1 with h1; injection h2 with h2; rw [h1, h2]
            · intro m' n' h1; cases h1
          · rename_i hun
            obtain ⟨m, hpm, hk1⟩ := Fb (show Dp p _ = some r from hk)
            obtain ⟨n, hqn, hk2⟩ := Fb hk1
            subst hpm hqn
            have hv' : v = .string m := Av.val (w := w) (A := A) hpv
            have hu' : u = .string n := Av.val (w := w) (A := A) hqu
            subst hv' hu'
            refine ⟨m == n, _, hun, by simp [Ck, hun], Tp d (.inr (.inr ⟨m, n, hun, rfl, rfl⟩)) ?_ ?_ ?_, hk2⟩
            · intro k' m' n' h1; cases h1
            · intro m' n' h1; cases h1
            · intro m' n' h1 h2; injection h1 with h1; injection h2 with h2; rw [h1, h2]
          · cases hk
        obtain ⟨b0, dsc, hun, hagg, he, hk⟩ := main
        obtain ⟨b, hkb, hrun⟩ := YM d fs (i + 1) xs ys ps qs _ hrest hk (fun j p' hj => by have := hp (j + 1) p' hj; rwa [Nat.add_assoc, Nat.add_comm 1 j]) (fun j p' hj => by have := hq (j + 1) p' hj; rwa [Nat.add_assoc, Nat.add_comm 1 j])
        refine ⟨b0 && b, hkb, ?_⟩
        have hpx : (part f.type xs f.offset).run P w = .ok v w := IF hun hagg (by rw [hoff]; exact hv)
        have hpy : (part f.type ys f.offset).run P w = .ok u w := IF hun hagg (by rw [hoff]; exact hu)
        cases b0
        · simp [List.forIn_cons, hname', hpx, hpy, he]
        · simp only [Bool.true_and]
          rw [← hrun]
          simp [List.forIn_cons, hname', hpx, hpy, he]
theorem GW (d:Nat){t:TypeId}{fs:Array Field}(hu:P.underlying t=some (.struct fs)) (hst:P.stoodInHeld t=false)(hfl:HH P fs.toList 0=true){xs ys:List PV}{vx vy:List Value}
  (hvx:Bi (Bx w A β) xs vx) (hvy:Bi (Bx w A β) ys vy) {K:Bool->Option R}(hk:HR (fs.toList.map (fty P)) xs ys K=some r):
  ∃b,K b=some r∧(Op.equalIn (d+2) t (.agg ⟨vx⟩) (.agg ⟨vy⟩)).run P w=.ok b w:=by
 obtain ⟨b,hkb,hrun⟩:=YM (P:=P) (w:=w) (A:=A) (β:=β) d fs.toList 0 ⟨vx⟩ ⟨vy⟩ xs ys K hfl hk (fun j p hj=>by
   obtain ⟨v,hv,hc⟩:=hvx.get hj;exact ⟨v,by simpa using hv,hc⟩) (fun j p hj=>by
   obtain ⟨v,hv,hc⟩:=hvy.get hj;exact ⟨v,by simpa using hv,hc⟩)
 refine ⟨b,hkb,?_⟩;rw [Array.forIn_toList] at hrun;rw [Op.equalIn];simp [run_underlying hu,hst];rw [hrun];cases b<;>simp
theorem MX (h:Bp N w0 X0 Y β s a w){t:TypeId}{fs:Array Field}{x y:Operand}{op:BinOp}(hop:op=.eql∨op=.neq)(hu:P.underlying t=some (.struct fs)) (hfl:PI P t fs=true){xs ys:List PV}
  (hx:B7 s.tm x=.agg xs)(hy:B7 s.tm y=.agg ys){K:Bool->Option R}(hk:HR (fs.toList.map (fty P)) xs ys K=some r):
  ∃b,K b=some r∧(do eqGuard op t x y (a.eval x) (a.eval y);binOp op t (a.eval x) (a.eval y)).run P w=.ok (.bool (if op=.eql then b else !b)) w:=by
 have hxv:=Ct h x;have hyv:=Ct h y;rw [hx] at hxv;rw [hy] at hyv;obtain ⟨vx,hax,hvx⟩:=hxv;obtain ⟨vy,hay,hvy⟩:=hyv;simp only [PI,Bool.and_eq_true,Bool.not_eq_true'] at hfl;obtain ⟨⟨hfl,hst⟩,heg⟩:=hfl;obtain ⟨b,hkb,heq⟩:=GW 9998 hu hst hfl hvx hvy hk;have heq:(Op.equal t (.agg ⟨vx⟩) (.agg ⟨vy⟩)).run P w=.ok b w:=heq;refine ⟨b,hkb,?_⟩;rw [hax,hay];rcases hop with rfl|rfl
 ·simp [eqGuard,binOp,heq,heg]
 ·simp [eqGuard,binOp,heq,heg]
theorem QT (h:Bp N w0 X0 Y β s a w){op:BinOp}{t ty:TypeId}{x y:Operand}(ho:o.op=.binOp op t x y ty){K:PV->Option R}
  (hk:Tx P op t (B7 s.tm x) (B7 s.tm y) K=some r):∃v,K v=some r∧Ee P a w o Y β s v [] []:=by
 have hrun:∀v,(do eqGuard op t x y (a.eval x) (a.eval y);binOp op t (a.eval x) (a.eval y)).run P w=.ok v w->(execOp a.eval o).run P w=.ok (.value v) w:=by
  intro v hv;unfold execOp;rw [ho];simp only [Sem.run_bind] at hv ⊢;rw [hv];rfl
 unfold Tx at hk;split at hk
 ·rename_i fs hu;split at hk
  ·obtain ⟨hfl,hk⟩:=Am hk;obtain ⟨xs,hx,hk⟩:=Gz hk;obtain ⟨ys,hy,hk⟩:=Gz hk;obtain ⟨b,hk,hr⟩:=MX h (.inl rfl) hu hfl hx hy hk;exact ⟨_,hk,Cn (hrun _ (by rw [hr];rfl))⟩
  ·obtain ⟨hfl,hk⟩:=Am hk;obtain ⟨xs,hx,hk⟩:=Gz hk;obtain ⟨ys,hy,hk⟩:=Gz hk;obtain ⟨b,hk,hr⟩:=MX h (.inr rfl) hu hfl hx hy hk;exact ⟨_,hk,Cn (hrun _ (by rw [hr];rfl))⟩
  ·cases hk
 ·unfold Aed at hk;split at hk
  ·rename_i k hu;split at hk
   ·obtain ⟨m,hx,hk⟩:=Gs hk;obtain ⟨k2,n,hy,hk⟩:=C1 hk;obtain ⟨hb,hk⟩:=Am hk;have hb:=of_decide_eq_true hb;refine ⟨_,hk,Cn (hrun _ ?_)⟩;have:¬n<0:=by omega
    simp [eqGuard,binOp,Op.shift,Cf h hx,Cf h hy,this]
   ·obtain ⟨m,hx,hk⟩:=Gs hk;obtain ⟨k2,n,hy,hk⟩:=C1 hk;obtain ⟨hb,hk⟩:=Am hk;have hb:=of_decide_eq_true hb;refine ⟨_,hk,Cn (hrun _ ?_)⟩;have:¬n<0:=by omega
    simp [eqGuard,binOp,Op.shift,Cf h hx,Cf h hy,this]
   ·rename_i hs1 hs2;obtain ⟨m,hx,hk⟩:=Gs hk;obtain ⟨n,hy,hk⟩:=Gs hk;obtain ⟨v,hk,hr⟩:=Aaq (P:=P) (w:=w) (t:=t) (x:=x) (y:=y) hs1 hs2 hk;exact ⟨_,hk,Cn (hrun _ (by rw [Cf h hx,Cf h hy];exact hr))⟩
  ·rename_i hu;obtain ⟨m,hx,hk⟩:=Fb hk;obtain ⟨n,hy,hk⟩:=Fb hk;obtain ⟨v,hk,hr⟩:=Acg (P:=P) (w:=w) (t:=t) (x:=x) (y:=y) hk;exact ⟨_,hk,Cn (hrun _ (by rw [Cf h hx,Cf h hy];exact hr))⟩
  ·rename_i hu;split at hk
   ·obtain ⟨m,hx,hk⟩:=Ft hk;obtain ⟨n,hy,hk⟩:=Ft hk;refine ⟨_,hk,Cn (hrun _ ?_)⟩;simp [eqGuard,binOp,Cf h hx,Cf h hy,EY hu]
   ·obtain ⟨m,hx,hk⟩:=Ft hk;obtain ⟨n,hy,hk⟩:=Ft hk;refine ⟨_,hk,Cn (hrun _ ?_)⟩;simp [eqGuard,binOp,Cf h hx,Cf h hy,EY hu]
   ·cases hk
  ·rename_i e hu;have hx:=Ct h x
   have nilQ:∀{e:Bool} {K':PV->Option R},HX e (B7 s.tm x) K'=some r->∃q ad n c,K' q=some r∧a.eval x=.slice ad n c∧(q=.sc (.bool (if ad.isNone then e else !e))∨q=.ub):=by
    intro e K' hq;unfold HX at hq;split at hq
    ·rename_i e';exact ⟨_,none,0,0,hq,Cf h e',.inl rfl⟩
    ·rename_i z es n c e';rcases Gu (.inl e') hx with ⟨hax,rfl,_⟩|⟨ad,cap,hax,rfl,_⟩|⟨ad,cap,hax,rfl,rfl,_⟩
     ·rcases Ml hq with ⟨_,hq⟩|⟨_,hq⟩
      ·exact ⟨_,none,0,0,hq,hax,.inl rfl⟩
      ·rcases Ml hq with ⟨hb,_⟩|⟨_,hq⟩
       ·exact absurd (of_decide_eq_true hb) (by omega)
       ·exact ⟨_,none,0,0,hq,hax,.inr rfl⟩
     ·rcases Ml hq with ⟨hz,_⟩|⟨_,hq⟩
      ·cases hz
      ·rcases Ml hq with ⟨_,hq⟩|⟨_,hq⟩
       ·exact ⟨_,some ad,n,cap,hq,hax,.inl rfl⟩
       ·exact ⟨_,some ad,n,cap,hq,hax,.inr rfl⟩
     ·rcases Ml hq with ⟨hz,_⟩|⟨_,hq⟩
      ·cases hz
      ·rcases Ml hq with ⟨hb,_⟩|⟨_,hq⟩
       ·exact absurd (of_decide_eq_true hb) (by omega)
       ·exact ⟨_,some ad,0,cap,hq,hax,.inr rfl⟩
    ·rename_i id es off n e';rw [e'] at hx;rcases hx with ⟨_,_,rfl,hax⟩|⟨b,ob,y',cap,_,hax,_⟩
     ·rcases Ml hq with ⟨hb,_⟩|⟨_,hq⟩
      ·exact absurd (of_decide_eq_true hb) (by omega)
      ·exact ⟨_,none,0,0,hq,hax,.inr rfl⟩
     ·rcases Ml hq with ⟨_,hq⟩|⟨_,hq⟩
      ·exact ⟨_,_,n,cap,hq,hax,.inl rfl⟩
      ·exact ⟨_,_,n,cap,hq,hax,.inr rfl⟩
    ·cases hq
   split at hk
   ·rename_i hy;obtain ⟨q,ad,n,c,hk,hax,hb⟩:=nilQ hk;rcases hb with rfl|rfl
    ·refine ⟨_,hk,Cn (hrun _ ?_)⟩;cases ad<;>simp [eqGuard,binOp,hax,Cf h hy,Uh hu]
    ·refine ⟨_,hk,B5 (val:=.bool ad.isNone) (hrun _ ?_) (Av.ub _) (by intro i hi;cases hi)⟩
     simp [eqGuard,binOp,hax,Cf h hy,Uh hu]
   ·rename_i hy;obtain ⟨q,ad,n,c,hk,hax,hb⟩:=nilQ hk;rcases hb with rfl|rfl
    ·refine ⟨_,hk,Cn (hrun _ ?_)⟩;cases ad<;>simp [eqGuard,binOp,hax,Cf h hy,Uh hu]
    ·refine ⟨_,hk,B5 (val:=.bool !ad.isNone) (hrun _ ?_) (Av.ub _) (by intro i hi;cases hi)⟩
     simp [eqGuard,binOp,hax,Cf h hy,Uh hu]
   ·cases hk
  ·cases hk
end
open Go.RowKit
section
variable {R:Type} {r:R} {P:Program} {N:Nat} {w0:World} {X0:Ef} {Y:Nat->Prop} {β β':Bt} {s:St} {a:Act} {w w':World} {o:Oper} {A:Nat->Prop}
theorem Sw:∀{c:List PV}{l:List UInt8},bytesOf c=some l->∃ns:List Int,c=ns.map (fun n=>.sc (.int .u8 n))∧l=ns.map fun n=>n.toNat.toUInt8
 |[],l,h=>⟨[],rfl,by simp [bytesOf] at h;subst h;rfl⟩
 |p::c,l,h=>by
  unfold bytesOf at h;split at h
  ·rename_i e;cases e
  ·rename_i n r e;cases e;cases hr:bytesOf c with
   |none=>rw [hr] at h;cases h
   |some l'=>
    rw [hr] at h;simp at h;obtain ⟨ns,rfl,rfl⟩:=Sw hr;exact ⟨n::ns,rfl,h.symm⟩
  ·cases h
theorem R3:∀(ns:List Int)(b:ByteArray),ns.foldl (fun r n=>r.push (UInt8.ofNat n.toNat)) b=⟨b.data++(ns.map fun n=>n.toNat.toUInt8).toArray⟩
 |[],b=>by simp
 |n::ns,b=>by
  simp only [List.foldl_cons];rw [R3 ns];simp [ByteArray.push]
theorem SX (h:Bp N w0 X0 Y β s a w){es:Nat}{x:Operand}{K:Nat->List PV->Option R}(hk:UK (I5 s.hp) es (B7 s.tm x) K=some r):
  ∃n c,K n c=some r∧((a.eval x=.slice none 0 0∧n=0∧c=[])∨∃ad cap,a.eval x=.slice (some ad) n cap∧n<=cap∧(c=[]∨ad.block<w.heap.size)∧LO w (Ci s.hp β Y) ad c):=by
 have hx:=Ct h x;have hxr:=Eo h x;unfold UK at hk;split at hk
 ·rename_i id es' off n e;rw [e] at hx hxr;cases hb:Nat.beq es' es
  ·rw [hb] at hk;cases hk
  ·rw [hb] at hk;obtain ⟨c,hc,hk⟩:=Cs (show D3 _ _=some r from hk)
   obtain ⟨hl,hk⟩:=Am hk;have hl:=of_decide_eq_true hl;obtain ⟨f,hbox⟩:=PJ hc;refine ⟨_,_,hk,?_⟩;rcases hx with ⟨_,rfl,rfl,hax⟩|⟨b,ob,y,cap,hβ,hax,hy,hn,_,hlt⟩
   ·exact .inl ⟨hax,rfl,by simp⟩
   ·refine .inr ⟨_,cap,hax,hn,.inr hlt,fun j p hj=>?_⟩
    have hpos:0<n*es:=by
     rcases Nat.eq_zero_or_pos (n*es) with h0|h0
     ·rw [h0] at hj;simp at hj
     ·exact h0
    have hn0:n≠0:=by rintro rfl;simp at hpos
    have hy:y=ob+off:=by rcases hy with hy|⟨h0,_⟩<;>omega
    subst hy;rw [List.getElem?_take] at hj;split at hj
    ·rw [List.getElem?_drop] at hj;rcases h.box id _ hbox with ⟨h1,_⟩|⟨b',o',h1,h2,_⟩
     ·rw [hβ] at h1;cases h1
     ·rw [hβ] at h1;simp at h1;obtain ⟨rfl,rfl⟩:=h1
      obtain ⟨v,hv,h3,ht⟩:=h2 (off+j) p hj;rw [Df] at hv;exact ⟨v,by rw [Df,Nat.add_assoc];exact hv,h3,ht⟩
    ·cases hj
 ·obtain ⟨z,n,c,hk,hp⟩:=Fi hk;refine ⟨n,c,hk,?_⟩;rcases Gu hp hx with h1|⟨ad,cap,hax,_,hn,h1,h2,_,h4⟩|⟨ad,cap,hax,_,rfl,rfl⟩
  ·exact .inl h1
  ·exact .inr ⟨ad,cap,hax,hn,.inr h2,h4⟩
  ·exact .inr ⟨ad,cap,hax,Nat.zero_le _,.inl rfl,fun j c hj=>by simp at hj⟩
theorem Aao (b:ByteArray)(j:Nat)(p:PV)(h:(Ds b)[j]?=some p):∃x,b.data[j]?=some x∧p=.sc (.int .u8 x.toNat):=by
 unfold Ds at h;rw [List.getElem?_map] at h;cases hx:b.data.toList[j]? with
 |none=>rw [hx] at h;cases h
 |some x=>
  rw [hx] at h;simp at h;exact ⟨x,by simpa using hx,h.symm⟩
theorem XD (h:Bp N w0 X0 Y β s a w){src dst:TypeId}{x:Operand}(ho:o.op=.convert src dst x){d:Nat}{K:PV->List (Nat × Bj)->Option R}
  (hk:FF P (I5 s.hp) d src dst (B7 s.tm x) K=some r):∃v nw,K v nw=some r∧Ee P a w o Y β s v [] nw:=by
 have hrun:∀v w',(convert src dst (a.eval x)).run P w=.ok v w'->(execOp a.eval o).run P w=.ok (.value v) w':=by
  intro v w' hv;unfold execOp;rw [ho];simp [hv]
 unfold FF at hk;split at hk
 ·rename_i k hu;obtain ⟨hs,hk⟩:=Am hk;obtain ⟨k',n,hx,hk⟩:=C1 hk;exact ⟨_,_,hk,Cn (hrun _ _ (by rw [Cf h hx];obtain ⟨ds,hds⟩:=Option.isSome_iff_exists.1 hs;cases ds<;>simp [convert,run_underlying hds,run_underlying hu,Conv.intToInt]))⟩
 ·rename_i hu;split at hk
  ·rename_i hs;obtain ⟨b,hx,hk⟩:=Fb hk;exact ⟨_,_,hk,Cn (hrun _ _ (by rw [Cf h hx];simp [convert,run_underlying hs,run_underlying hu]))⟩
  ·rename_i e hs;split at hk
   ·rename_i he;obtain ⟨n,c,hk,hc⟩:=SX h hk;obtain ⟨hl,hk⟩:=Am hk;have hl:=of_decide_eq_true hl;obtain ⟨l,hb,hk⟩:=Cs hk;obtain ⟨ns,rfl,rfl⟩:=Sw hb;refine ⟨_,_,hk,Cn (hrun _ _ ?_)⟩;rcases hc with ⟨hax,rfl,hn⟩|⟨ad,cap,hax,_,_,hrd⟩
    ·have:ns=[]:=by simpa using hn
     subst this;rw [hax,run_convert_bytes_string w src dst e none 0 0 hs he hu];rfl
    ·rw [hax,run_convert_bytes_string w src dst e _ _ _ hs he hu]
     have hld:(loadCells ad n).run P w=.ok (ns.map (Value.int .u8)).toArray w:=by
      have:=run_loadCells_list (P:=P) w ad (ns.map (Value.int .u8)) (fun j v hj=>by
       rw [List.getElem?_map] at hj;cases hn:ns[j]? with
       |none=>rw [hn] at hj;cases hj
       |some m=>
        rw [hn] at hj;simp at hj;subst hj;obtain ⟨v,hv,_,ht⟩:=hrd j (.sc (.int .u8 m)) (by rw [List.getElem?_map,hn];rfl)
        rw [ht.val] at hv;exact hv)
      simp only [List.length_map] at this hl;rw [hl] at this;exact this
     rw [run_bytesToString w ad n cap ns hld,R3];simp
   ·cases hk
  ·cases hk
 ·rename_i e hu;split at hk
  ·rename_i he hs;obtain ⟨b,hx,hk⟩:=Fb hk;obtain ⟨hsz,hk⟩:=Am hk;have hr:=run_bytes_of_string (P:=P) w src dst e b hs hu he;rw [←Cf h hx] at hr
   have hcap:b.size<=grownCap w b.size 0 e:=by
    unfold grownCap;simp [Question.cut]
   have hsize:(bytesRow b (grownCap w b.size 0 e)).size=grownCap w b.size 0 e:=by
    simp only [bytesRow,Array.size_append,Array.size_map,Array.size_replicate];have:b.data.size=b.size:=rfl;omega
   refine ⟨_,_,hk,P6 (c:=bytesRow b (grownCap w b.size 0 e)) (e:=e) (by simp) (hrun _ _ hr) ?_ (fun j p hj=>?_) (.inr ⟨1,b.size,grownCap w b.size 0 e,rfl,rfl,hcap,by rw [hsize];omega⟩)⟩
   ·exact ⟨rfl,rfl,rfl,fun i hi=>Below.heap_alloc w.drew _ i hi,by show (w.heap.push _).size=_;simp,_,by show (w.heap.push _)[w.heap.size]?=_;simp;rfl,.inr (Nat.le_refl _)⟩
   ·obtain ⟨y,hy,rfl⟩:=Aao b j p hj;refine ⟨.int .u8 y.toNat,?_,rfl,Av.sc _⟩
    have hlt:j<b.data.size:=by
     rcases Nat.lt_or_ge j b.data.size with h|h
     ·exact h
     ·rw [Array.getElem?_eq_none h] at hy;cases hy
    simp only [bytesRow];rw [Array.getElem?_append_left (by simpa using hlt),Array.getElem?_map,hy]
    rfl
  ·cases hk
 ·cases hk
end
open Go.RowKit
section
variable {R:Type} {r:R} {P:Program} {N:Nat} {w0:World} {X0:Ef} {Y:Nat->Prop} {β β':Bt} {s:St} {a:Act} {w w':World} {o:Oper} {A:Nat->Prop}
theorem Yf:∀{n:Nat}{l:List PV}{j:Nat}{c:PV},(Qv n l)[j]?=some c->j<n*l.length∧l[j % l.length]?=some c
 |0,l,j,c,h=>by simp [Qv] at h
 |n+1,l,j,c,h=>by
  have e:Qv (n+1) l=l++Qv n l:=by simp [Qv,List.replicate_succ]
  rw [e] at h;by_cases hj:j<l.length
  ·rw [List.getElem?_append_left hj] at h;refine ⟨by rw [Nat.add_mul];omega,?_⟩
   rw [Nat.mod_eq_of_lt hj];exact h
  ·rw [List.getElem?_append_right (by omega)] at h
   obtain ⟨h1,h2⟩:=Yf h;refine ⟨by rw [Nat.add_mul];omega,?_⟩
   rw [Nat.mod_eq_sub_mod (by omega)];exact h2
theorem TH (n:Nat)(l:List PV):(Qv n l).length=n*l.length:=by
 induction n with
 |zero=>simp [Qv]
 |succ n ih=>
  have e:Qv (n+1) l=l++Qv n l:=by simp [Qv,List.replicate_succ]
  rw [e,List.length_append,ih,Nat.add_mul];omega
theorem UA {z:Array Value}{n j:Nat}(hj:j<n){v:Value}(hv:z[j % z.size]?=some v):(madeCells z n)[j]?=some v:=by
 unfold madeCells;rw [Array.getElem?_map,Array.getElem?_range,if_pos hj];simp only [Option.map_some];rw [getElem!_def,hv]
theorem UX (h:Bp N w0 X0 Y β s a w){t:TypeId}{x y:Operand}(ho:o.op=.makeSlice t x y){d:Nat}{K:PV->List Nat->List (Nat × Bj)->Option R}
  (hk:(match P.underlying t with
   |some (.slice e)=>C8 (B7 s.tm x) fun _ n=>C8 (B7 s.tm y) fun _ m=>
     Ao (decide (0<=n)&&decide (n<=m)&&decide (m*((P.info? e).map (·.bytes)).getD 0<=1099511627776)&&decide (m<=1099511627776))
      (Gl P e fun z=>K (.view d (Bf P e) 0 n.toNat) [] [(d,.ar false (Qv n.toNat z))])
   |_=>none)=some r):∃v fz nw,K v fz nw=some r∧Ee P a w o Y β s v fz nw:=by
 split at hk
 ·rename_i e hu;obtain ⟨k1,n,hx,hk⟩:=C1 hk;obtain ⟨k2,m,hy,hk⟩:=C1 hk;obtain ⟨hb,hk⟩:=Am hk;simp only [Bool.and_eq_true,decide_eq_true_eq] at hb;obtain ⟨⟨⟨h0,hnm⟩,hbytes⟩,hm⟩:=hb;obtain ⟨z,cs,hk,hz,hct,hl,hsz,hc⟩:=Om hk
  have hzc:∃i,P.info? e=some i∧i.zero=some z:=by
   unfold Vs at hz;cases hi:P.info? e with
   |none=>rw [hi] at hz;cases hz
   |some i=>rw [hi] at hz;exact ⟨i,rfl,hz⟩
  obtain ⟨i,hi,hzi⟩:=hzc;have hisz:Bf P e=i.size:=by simp [Bf,hi]
  simp only [hi,Option.map_some,Option.getD_some] at hbytes;have hr:=run_make (P:=P) w t e i z hu hi hzi k1 k2 n m h0 hnm (by rw [Int.mul_comm];omega) (by omega)
  have hrun:(execOp a.eval o).run P w=.ok (.value (.slice (some ⟨w.heap.size,0,none⟩) n.toNat m.toNat)) (w.alloc (.cells (madeCells z.cells (m.toNat*i.size)) e)):=by
   unfold execOp;rw [ho];simp [Cf h hx,Cf h hy,hr]
  have hzl:z.cells.size=Bf P e:=by
   have:z.cells.toList.length=z.cells.size:=by simp
   omega
  refine ⟨_,_,_,hk,P6 (c:=madeCells z.cells (m.toNat*i.size)) (e:=e) (by simp) hrun (F5.alloc w _ e) (fun j p hj=>?_) (.inr ⟨Bf P e,n.toNat,m.toNat,rfl,rfl,by omega,by rw [size_madeCells,hisz];exact Nat.le_refl _⟩)⟩
  obtain ⟨h1,h2⟩:=Yf hj;obtain ⟨hT,u,hu',h1',hv⟩:=hc _ p h2;refine ⟨u,UA ?_ ?_,h1',hv _ _⟩
  ·have:n.toNat*cs.length<=m.toNat*i.size:=by
    rw [hsz,hisz];exact Nat.mul_le_mul_right _ (by omega)
   omega
  ·rw [hzl,←hsz]
   simpa using hu'
 ·cases hk
theorem Aca {p:PV}{v:Value}(hp:okP p=true)(hv:C9 w A β p v):Bi (Bx w A β) (cellsOf p) v.cells.toList:=by
 have one:v.oneCell'=true->Bx w A β p v->(∀x,p ≠ .agg x)->Bi (Bx w A β) (cellsOf p) v.cells.toList:=by
  intro h1 h2 h3;have:cellsOf p=[p]:=by cases p<;>first|rfl|exact absurd rfl (h3 _)
  rw [this,Mn h1];exact ⟨h2,trivial⟩
 unfold okP at hp;split at hp
 ·obtain ⟨vs,rfl,h2⟩:=hv;exact h2
 ·refine one ?_ hv (by simp)
  have hv':Av w A _ v:=hv;cases hv'<;>rfl
 ·refine one ?_ hv (by simp)
  rcases hv with ⟨_,_,_,rfl⟩|⟨_,_,_,_,_,rfl,_⟩<;>rfl
 ·have:=Na hv;subst this;exact one rfl hv (by simp)
 ·have:=Na hv;subst this;exact one rfl hv (by simp)
 ·have:=Na hv;subst this;exact one rfl hv (by simp)
 ·have:=Na hv;subst this;exact one rfl hv (by simp)
 ·cases hp
theorem ZL:∀(vs:List Value)(k off:Nat)(cells:Array Value),off+k+vs.length<=cells.size ->
  ((vs.zipIdx k).foldl (fun cs (q:Value × Nat)=>cs.setIfInBounds (off+q.2) q.1) cells).toList=cells.toList.take (off+k)++vs++cells.toList.drop (off+k+vs.length)
 |[],k,off,cells,_=>by simp
 |v::vs,k,off,cells,h=>by
  simp only [List.zipIdx_cons,List.foldl_cons,List.length_cons] at h ⊢;rw [ZL vs (k+1) off _ (by simp;omega)]
  have hlt:off+k<cells.toList.length:=by simp;omega
  simp only [Array.toList_setIfInBounds];rw [show off+(k+1)=off+k+1 from by omega,List.take_succ_eq_append_getElem (by simpa using hlt)]
  rw [List.getElem_set_self,List.take_set_of_le (Nat.le_refl _),List.drop_set_of_lt (by omega)]
  simp only [List.append_assoc,List.cons_append,List.nil_append];rw [show off+k+1+vs.length=off+k+(vs.length+1) from by omega]
theorem HJ (h:Bp N w0 X0 Y β s a w){Gn:Nat->Option (Nat × Nat)}:∀{parts:List (Nat × Operand)} {pc:List PV}{vc:Array Value}{K:List PV->Option R},
  Tk Gn (parts.map fun q=>(q.1,B7 s.tm q.2)) pc K=some r->Bi (Bx w (Ci s.hp β Y) β) pc vc.toList->(∀c∈pc,∀id∈Aq c,s.hp id≠none) ->
  ∃pc' vc',K pc'=some r∧Instr.fill Gn vc (parts.map fun q=>(q.1,a.eval q.2))=some vc'∧Bi (Bx w (Ci s.hp β Y) β) pc' vc'.toList∧pc'.length=pc.length∧∀c∈pc',∀id∈Aq c,s.hp id≠none
 |[],pc,vc,K,hk,hv,hr=>⟨pc,vc,hk,rfl,hv,rfl,hr⟩
 |(i,x)::parts,pc,vc,K,hk,hv,hr=>by
  simp only [List.map_cons] at hk;unfold Tk at hk;obtain ⟨⟨off,size⟩,hpl,hk⟩:=Cs hk;obtain ⟨hb,hk⟩:=Am hk;simp only [Bool.and_eq_true] at hb;obtain ⟨⟨hok,hsz⟩,hle⟩:=hb;have hsz:(cellsOf (B7 s.tm x)).length=size:=Nat.eq_of_beq_eq_true hsz;have hle:off+size<=pc.length:=Nat.le_of_ble_eq_true hle;have hxc:=Aca hok (Ct h x);have hxl:=hxc.len;have hvl:=hv.len;have hvs:vc.toList.length=vc.size:=by simp
  have hcs:(a.eval x).cells.toList.length=(a.eval x).cells.size:=by simp
  have hset:=ZL (a.eval x).cells.toList 0 off vc (by omega)
  simp only [Nat.add_zero] at hset
  have hset':((a.eval x).cells.zipIdx.foldl (fun cs (q:Value × Nat)=>cs.setIfInBounds (off+q.2) q.1) vc).toList=vc.toList.take off++(a.eval x).cells.toList++vc.toList.drop (off+(a.eval x).cells.toList.length):=by
   rw [←hset,←Array.foldl_toList];simp
  obtain ⟨pc',vc',hk,hf,h2,hl,hr'⟩:=HJ h (pc:=Bd pc (cellsOf (B7 s.tm x)) off) (vc:=(a.eval x).cells.zipIdx.foldl (fun cs (q:Value × Nat)=>cs.setIfInBounds (off+q.2) q.1) vc) hk (by
    rw [hset',←hxl];exact (((hv.take off).app hxc).app (hv.drop _))) (by
    intro c hc id hid;unfold Bd at hc;rcases List.mem_append.1 hc with hc|hc
    ·rcases List.mem_append.1 hc with hc|hc
     ·exact hr c (List.mem_of_mem_take hc) id hid
     ·refine Eo h x id ?_;cases hp:B7 s.tm x with
      |agg cs=>rw [hp] at hc;exact List.mem_flatMap.2 ⟨c,hc,hid⟩
      |tup cs=>rw [hp] at hc;simp [cellsOf] at hc;subst hc;cases hid
      |_=>rw [hp] at hc;simp [cellsOf] at hc;subst hc;exact hid
    ·exact hr c (List.mem_of_mem_drop hc) id hid)
  refine ⟨pc',vc',hk,?_,h2,?_,hr'⟩
  ·simp only [List.map_cons,Instr.fill,hpl];rw [if_neg (by simp;omega)]
   exact hf
  ·rw [hl];simp [Bd];omega
theorem TQ {t:TypeId}{z:Value}{cs:List PV}(hl:cs.length=z.cells.toList.length)(hc:∀(j:Nat) c,cs[j]?=some c->Va c∧∃u,z.cells.toList[j]?=some u∧u.oneCell'=true∧∀(w:World)(A:Nat->Prop),Av w A c u) (_ht:Vs P t=some z):
  Bi (Bx w A β) cs z.cells.toList∧∀c∈cs,Aq c=[]:=by
 refine ⟨Bi.of_at hl fun i c u hci hu=>?_,fun c hcm=>?_⟩
 ·obtain ⟨hT,u',hu',_,hv⟩:=hc i c hci;rw [hu] at hu';cases hu';exact (Ke hT).2 (hv _ _)
 ·obtain ⟨j,hj⟩:=List.mem_iff_getElem?.1 hcm;exact He (hc j c hj).1
theorem FY:∀{fs:List Field},(fs.all fun f=>IE P f.type)=true->fs.mapM (fun f=>(P.info? f.type).map fun i=>(f.offset,i.size))=some (fs.map fun f=>(f.offset,Bf P f.type))
 |[],_=>rfl
 |f::fs,h=>by
  simp only [List.all_cons,Bool.and_eq_true] at h;obtain ⟨i,hi⟩:=Option.isSome_iff_exists.1 h.1;simp [List.mapM_cons,hi,FY h.2,Bf]
theorem Wc {p q:Nat->Option (Nat × Nat)} (h:∀i,p i=q i)(cells:Array Value)(parts:List (Nat × Value)):Instr.fill p cells parts=Instr.fill q cells parts:=by
 have:p=q:=funext h;rw [this]
theorem QP (h:Bp N w0 X0 Y β s a w){t:TypeId}{ps:Array (Nat × Operand)} (ho:o.op=.build t ps){K:PV->Option R}
  (hk:(Ao (Qm P t&&Ck P t)<|Gl P t fun z=>Tk (Rq P t) (ps.toList.map fun q=>(q.1,B7 s.tm q.2)) z fun cs=>Ps (Hl P t) cs 0 fun cs'=>K (.agg cs'))=some r):∃v,K v=some r∧Ee P a w o Y β s v [] []:=by
 obtain ⟨hpl,hk⟩:=Am hk;simp only [Bool.and_eq_true] at hpl;obtain ⟨hpl,hagg⟩:=hpl;obtain ⟨z,cs,hk,hz,hct,hl,hsz,hc⟩:=Om hk;obtain ⟨hzr,hzf⟩:=TQ (w:=w) (A:=Ci s.hp β Y) (β:=β) hl hc hz;obtain ⟨pc',vc',hk,hf,h2,hl',hr'⟩:=HJ h hk hzr (fun c hcm id hid=>by rw [hzf c hcm] at hid;cases hid)
 obtain ⟨qs,hk,hql,hna,hq⟩:=Te hk
 have hbuilt:P.built t (ps.toList.map fun q=>(q.1,a.eval q.2))=some vc':=by
  have hzi:∃i,P.info? t=some i∧i.zero=some z:=by
   unfold Vs at hz;cases hi:P.info? t with
   |none=>rw [hi] at hz;cases hz
   |some i=>rw [hi] at hz;exact ⟨i,rfl,hz⟩
  obtain ⟨i,hi,hzi⟩:=hzi;unfold Qm at hpl;unfold Program.built;split at hpl
  ·rename_i fs hu
   have hf':Instr.fill (((fs.toList.map fun f=>(f.offset,Bf P f.type)).toArray)[·]?) z.cells (ps.toList.map fun q=>(q.1,a.eval q.2))=some vc':=by
    rw [←hf];refine Wc (fun j=>?_) _ _
    simp [Rq,hu]
   simp only [hi,hu,hzi,FY hpl];exact hf'
  ·rename_i n e hu;obtain ⟨ie,hie⟩:=Option.isSome_iff_exists.1 hpl
   have hf':Instr.fill (fun j=>some (j*ie.size,ie.size)) z.cells (ps.toList.map fun q=>(q.1,a.eval q.2))=some vc':=by
    rw [←hf];refine Wc (fun j=>?_) _ _
    simp [Rq,hu,Bf,hie]
   simp only [hi,hu,hzi,hie];exact hf'
  ·rename_i e hu;simp [Ck,hu] at hagg
  ·cases hpl
 refine ⟨_,hk,B5 (val:=.agg vc') ?_ ⟨vc'.toList,rfl,?_⟩ ?_⟩
 ·unfold execOp;rw [ho];have:=run_build (P:=P) w t (ps.map fun q=>(q.1,a.eval q.2)) vc' (by simpa using hbuilt)
  simp [this]
 ·refine Bi.of_at (by have:=h2.len;omega) fun j c u hcj hu=>?_
  obtain ⟨p,hp,_,_,hpv⟩:=hq j c hcj;rw [Nat.zero_add] at hp;exact (hpv _ _ _ _ (h2.at_ hp hu)).1
 ·intro id hid;obtain ⟨c,hcm,hid⟩:=List.mem_flatMap.1 (show id∈qs.flatMap Aq from hid)
  obtain ⟨j,hj⟩:=List.mem_iff_getElem?.1 hcm;obtain ⟨p,hp,_,hpr,_⟩:=hq j c hj;rw [Nat.zero_add] at hp;exact hr' p (List.mem_of_getElem? hp) id (hpr id hid)
end
open Go.RowKit
section
variable {R:Type} {r:R} {P:Program} {N:Nat} {w0:World} {X0:Ef} {Y:Nat->Prop} {β β':Bt} {s:St} {a:Act} {w w':World} {o:Oper} {A:Nat->Prop}
theorem VM (h:Bp N w0 X0 Y β s a w){fz:List Nat}(hfz:∀id∈fz,∃f c,s.hp id=some (.ar f c)) {id:Nat}(hm:id∈fz){f:Bool}{c:List PV}(hb:s.hp id=some (.ar f c)) {b ob:Nat}(hβ:β id=some (b,ob)):
  ¬Ci (Af s.hp fz) β Y b∧LO w (Ci (Af s.hp fz) β Y) ⟨b,ob,none⟩ c∧b<w.heap.size:=by
 have hf:=h.freeze hfz;have he:Af s.hp fz id=some (.ar true c):=by rw [Bu,if_pos hm,hb];rfl
 rcases hf.box id _ he with ⟨h1,_⟩|⟨b',o',h1,h2,_,h4⟩
 ·rw [hβ] at h1;cases h1
 ·rw [hβ] at h1;simp at h1;obtain ⟨rfl,rfl⟩:=h1;exact ⟨h4 rfl,h2,h.blt id b ob (by rw [hb];simp) hβ⟩
theorem Aby (h:Bp N w0 X0 Y β s a w){fz:List Nat}(hfz:∀id∈fz,∃f c,s.hp id=some (.ar f c)) {id es off n:Nat}(hm:id∈fz){f:Bool}{c:List PV}(hb:s.hp id=some (.ar f c)) {v:Value}
  (hv:Bx w (Ci s.hp β Y) β (.view id es off n) v):Av w (Ci (Af s.hp fz) β Y) (.lst false es n ((c.drop off).take (n*es))) v:=by
 rcases hv with ⟨_,rfl,rfl,rfl⟩|⟨b,ob,y,cap,hβ,rfl,hy,hn,_,hlt⟩
 ·simp only [Nat.zero_mul,List.take_zero];exact Av.lnil false es
 ·obtain ⟨h1,h2,_⟩:=VM h hfz hm hb hβ;by_cases hn0:n*es=0
  ·rw [hn0,List.take_zero];exact Av.lst es n [] ⟨b,y,none⟩ cap (fun _=>undef) rfl hlt h1 hn (by simp) (by simp) (by simp)
  ·have hy:y=ob+off:=by
    rcases hy with hy|⟨h0,_⟩
    ·exact hy
    ·rw [h0] at hn0;simp at hn0
   subst hy
   have hcell:∀(j:Nat) q,((c.drop off).take (n*es))[j]?=some q->c[off+j]?=some q:=by
    intro j q hq;rw [List.getElem?_take] at hq;split at hq
    ·rw [List.getElem?_drop] at hq;exact hq
    ·cases hq
   refine Av.lst es n _ ⟨b,ob+off,none⟩ cap (fun j=>(w.cell? ⟨b,ob+off+j,none⟩).getD undef) rfl hlt h1 hn (fun j q hq=>?_) (fun j q hq=>?_) (fun j q hq=>?_)
   ·obtain ⟨v,hv,_⟩:=h2 _ q (hcell j q hq);rw [Df,←Nat.add_assoc] at hv;rw [Df,hv];rfl
   ·obtain ⟨v,hv,h3,_⟩:=h2 _ q (hcell j q hq);rw [Df,←Nat.add_assoc] at hv;rw [hv];exact h3
   ·obtain ⟨v,hv,_,ht⟩:=h2 _ q (hcell j q hq);rw [Df,←Nat.add_assoc] at hv;rw [hv];exact ht
theorem Av.zf {A:Nat->Prop}{z:Bool}{es n:Nat}{c:List PV}{v:Value}(h:Av w A (.lst z es n c) v):Av w A (.lst false es n c) v:=by
 cases h with
 |lnil=>exact .lnil _ _
 |lemp=>exact .lemp _ _ _
 |lst _ _ _ a cap f hs hb hA hn hc h1 hr=>exact .lst _ _ _ a cap f hs hb hA hn hc h1 hr
theorem FV (h:Bp N w0 X0 Y β s a w){t:CT}{p:PV}{K:PV->List Nat->Option R}(hk:Od (I5 s.hp) t p K=some r):
  ∃c m,K c m=some r∧Va c∧JW p∧(∀id∈m,∃f cc,s.hp id=some (.ar f cc))∧∀fz:List Nat,(∀id∈m,id∈fz)->(∀id∈fz,∃f cc,s.hp id=some (.ar f cc))->∀v,Bx w (Ci s.hp β Y) β p v->Av w (Ci (Af s.hp fz) β Y) c v∧v.oneCell'=true:=by
 have tree:∀t',(AY t' p fun c=>K c [])=some r->∃c m,K c m=some r∧Va c∧JW p∧(∀id∈m,∃f cc,s.hp id=some (.ar f cc))∧∀fz:List Nat,(∀id∈m,id∈fz)->(∀id∈fz,∃f cc,s.hp id=some (.ar f cc))->∀v,Bx w (Ci s.hp β Y) β p v->Av w (Ci (Af s.hp fz) β Y) c v∧v.oneCell'=true:=by
  intro t' hk;obtain ⟨c,hk,hT,hpT,hv⟩:=Mc hk;refine ⟨c,[],hk,hT,Q4 hpT,by simp,fun fz _ hfz v hpv=>?_⟩
  obtain ⟨h1,h2⟩:=hv _ _ _ _ hpv;exact ⟨h1.step (Bv.refl _ _) (fun b _ hb=>hb.imp Qh id),h2⟩
 cases t with
 |sl es=>
  unfold Od at hk;dsimp only at hk;split at hk
  ·rename_i id es' off n;cases hb:Nat.beq es' es
   ·rw [hb] at hk;cases hk
   ·rw [hb] at hk;have:=Nat.eq_of_beq_eq_true hb;subst this;obtain ⟨c,hc,hk⟩:=Cs (show D3 _ _=some r from hk)
    obtain ⟨_,hk⟩:=Am hk;obtain ⟨f,hbx⟩:=PJ hc;refine ⟨_,[id],hk,trivial,trivial,?_,fun fz hm hfz v hv=>⟨Aby h hfz (hm id (by simp)) hbx hv,?_⟩⟩
    ·intro i hi;simp at hi;subst hi;exact ⟨f,c,hbx⟩
    ·rcases hv with ⟨_,_,_,rfl⟩|⟨_,_,_,_,_,rfl,_⟩<;>rfl
  ·obtain ⟨z,n,c,hk,hp⟩:=Fi hk;refine ⟨_,[],hk,trivial,?_,by simp,fun fz _ hfz v hpv=>?_⟩
   ·rcases hp with rfl|⟨rfl,_⟩<;>trivial
   ·have ht:=Wi hp hpv;refine ⟨Av.zf (ht.step (Bv.refl _ _) (fun b _ hb=>hb.imp Qh id)),?_⟩
    cases ht<;>rfl
 |int k=>exact tree (.int k) hk
 |bool=>exact tree .bool hk
 |str=>exact tree .str hk
 |any=>exact tree .any hk
theorem Qt (h:Bp N w0 X0 Y β s a w):∀{ts:List CT}{ps:List PV}{K:List PV->List Nat->Option R},Ms (I5 s.hp) ts ps K=some r ->
  ∃cs m,K cs m=some r∧cs.length=ts.length∧ps.length=ts.length∧(∀c∈cs,Va c)∧(∀p∈ps,JW p)∧(∀id∈m,∃f cc,s.hp id=some (.ar f cc)) ∧
   ∀fz:List Nat,(∀id∈m,id∈fz)->(∀id∈fz,∃f cc,s.hp id=some (.ar f cc))->∀vs,Bi (Bx w (Ci s.hp β Y) β) ps vs->Bi (Av w (Ci (Af s.hp fz) β Y)) cs vs∧∀v∈vs,v.oneCell'=true
 |[],[],K,hk=>⟨[],[],hk,rfl,rfl,by simp,by simp,by simp,fun fz _ _ vs hv=>by
   cases vs with
   |nil=>exact ⟨trivial,by simp⟩
   |cons v vs=>exact hv.elim⟩
 |[],_::_,K,hk=>by cases hk
 |_::_,[],K,hk=>by cases hk
 |t::ts,p::ps,K,hk=>by
  unfold Ms at hk;obtain ⟨c,m,hk,hT,hF,hm,hv⟩:=FV h hk;obtain ⟨cs,ms,hk,hl,hl',hTs,hFs,hms,hvs⟩:=Qt h hk;refine ⟨c::cs,m++ms,hk,by simp [hl],by simp [hl'],?_,?_,?_,fun fz hfm hfz vs h2=>?_⟩
  ·intro x hx;rcases List.mem_cons.1 hx with rfl|hx
   ·exact hT
   ·exact hTs x hx
  ·intro x hx;rcases List.mem_cons.1 hx with rfl|hx
   ·exact hF
   ·exact hFs x hx
  ·intro x hx;rcases List.mem_append.1 hx with hx|hx
   ·exact hm x hx
   ·exact hms x hx
  ·cases vs with
   |nil=>exact h2.elim
   |cons v vs=>
    obtain ⟨h3,h4⟩:=hv fz (fun i hi=>hfm i (by simp [hi])) hfz v h2.1
    obtain ⟨h5,h6⟩:=hvs fz (fun i hi=>hfm i (by simp [hi])) hfz vs h2.2
    refine ⟨⟨h3,h5⟩,?_⟩;intro x hx;rcases List.mem_cons.1 hx with rfl|hx
    ·exact h4
    ·exact h6 x hx
theorem Acf {R':PV->Value->Prop}{cs:List PV}{z:Array Value}(h:Bi R' cs z.toList)(n:Nat):Bi R' (Qv n cs) (madeCells z (n*cs.length)).toList:=by
 have hzl:z.size=cs.length:=by have:=h.len;simp at this;exact this.symm
 refine Bi.of_at ?_ fun j c v hc hv=>?_
 ·rw [TH];simp [size_madeCells]
 ·obtain ⟨h1,h2⟩:=Yf hc
  have hlt:j % cs.length<cs.length:=by
   rcases Nat.lt_or_ge (j % cs.length) cs.length with h|h
   ·exact h
   ·rw [List.getElem?_eq_none h] at h2;cases h2
  obtain ⟨u,hu,hcu⟩:=h.get h2;have:(madeCells z (n*cs.length))[j]?=some u:=UA h1 (by rw [hzl];simpa using hu)
  have hv':(madeCells z (n*cs.length))[j]?=some v:=by simpa using hv
  rw [this] at hv';cases hv';exact hcu
theorem BE (h:Bp N w0 X0 Y β s a w){t:TypeId}{n:Nat}{ps:Array (Nat × Operand)} (ho:o.op=.buildSlice t n ps){d:Nat}{K:PV->List Nat->List (Nat × Bj)->Option R}
  (hk:(match P.underlying t with
   |some (.slice e)=>Ao (Qm P t&&Nat.ble (n*Bf P e) 16777216) (Gl P e fun z=>Tk (Rq P t) (ps.toList.map fun q=>(q.1,B7 s.tm q.2)) (Qv n z) fun cs=>
     Ms (I5 s.hp) (List.replicate n (Hl P e)).flatten cs fun cs' m=>K (.view d (Bf P e) 0 n) m [(d,.ar false cs')])
   |_=>none)=some r):∃v fz nw,K v fz nw=some r∧Ee P a w o Y β s v fz nw:=by
 split at hk
 ·rename_i e hu;obtain ⟨hb,hk⟩:=Am hk;simp only [Bool.and_eq_true] at hb;have hle:n*Bf P e<=16777216:=Nat.le_of_ble_eq_true hb.2;have hinf:(P.info? e).isSome=true:=by have:=hb.1;unfold Qm at this;rw [hu] at this;exact this
  obtain ⟨z,cs,hk,hz,hct,hl,hsz,hc⟩:=Om hk;obtain ⟨hzr,hzf⟩:=TQ (w:=w) (A:=Ci s.hp β Y) (β:=β) hl hc hz;have hrep:=Acf hzr n
  obtain ⟨pc',vc',hk,hf,h2,hl',hr'⟩:=HJ h hk hrep (fun c hcm id hid=>by
   obtain ⟨j,hj⟩:=List.mem_iff_getElem?.1 hcm;obtain ⟨_,hg⟩:=Yf hj;rw [hzf c (List.mem_of_getElem? hg)] at hid;cases hid)
  obtain ⟨qs,m,hk,hql,hpl,hqT,_,hm,hqv⟩:=Qt h hk;obtain ⟨h3,h3'⟩:=hqv m (fun _ hi=>hi) hm _ h2
  have hf':Instr.fill (fun i=>some (i*Bf P e,Bf P e)) (madeCells z.cells (n*cs.length)) (ps.toList.map fun q=>(q.1,a.eval q.2))=some vc':=by
   rw [←hf];refine Wc (fun i=>?_) _ _
   simp [Rq,hu]
  have hvl:vc'.size=n*Bf P e:=by
   have h4:=h2.len;rw [hl',TH] at h4;simp at h4;rw [←h4,hsz]
  have hrun:(execOp a.eval o).run P w=.ok (.value (.slice (some ⟨w.heap.size,0,none⟩) n n)) (w.alloc (.cells vc' e)):=by
   unfold execOp;rw [ho];have hle':¬(n*Bf P e>2 ^ 24):=by omega
   rw [hsz] at hf';by_cases hn0:n*Bf P e=0
   ·simp only [Instr.buildSlice,Sem.run_bind,run_underlying hu,Result.andThen_ok,Dn hinf,if_neg hle',hn0];rw [hn0] at hf';have e0:madeCells z.cells 0=(Array.range 0).map (fun _=>default):=by simp [madeCells]
    rw [e0] at hf';simp [hf',newRow]
   ·simp only [Instr.buildSlice,Sem.run_bind,run_underlying hu,Result.andThen_ok,Dn hinf,if_neg hle',if_neg hn0,Vi hz];unfold madeCells at hf';simp [hf',newRow]
  refine ⟨_,_,_,hk,P6 (c:=vc') (e:=e) hm hrun (F5.alloc w vc' e) (fun j p hj=>?_) (.inr ⟨Bf P e,n,n,rfl,rfl,Nat.le_refl _,by rw [hvl];exact Nat.le_refl _⟩)⟩
  obtain ⟨u,hu',hp⟩:=h3.get hj;exact ⟨u,by simpa using hu',h3' u (List.mem_of_getElem? hu'),hp⟩
 ·cases hk
end
end
end Go.Proofs.YtdjihiphpgkfmaaDoor.Pv
